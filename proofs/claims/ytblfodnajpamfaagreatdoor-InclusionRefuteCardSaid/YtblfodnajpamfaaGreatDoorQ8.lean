/- Several texts in one: RH, RK, RM, L5. -/
import Derived.Test.YtblfodnajpamfaaGreatDoorQ7
import Derived.Test.YtblfodnajpamfaaGreatDoorQ6
import Derived.Test.YtblfodnajpamfaaGreatDoorQ5
set_option linter.unusedSimpArgs false
set_option linter.unusedVariables false
set_option linter.unusedSectionVars false
set_option maxHeartbeats 4000000
set_option maxRecDepth 20000
namespace Go.Ab.A15
open Go Go.Ab Go.Ab.A34
def firP (k : Nat) : List V3 := (List.range k).map fun (i : Nat) => nvW ((i : Int) + 1)
theorem firP_succ (k : Nat) : firP (k + 1) = firP k ++ [nvW ((k : Int) + 1)] := by
  unfold firP
  rw [List.range_succ, List.map_append]
  rfl
theorem firP_len (k : Nat) : (firP k).length = k := by simp [firP]
end Go.Ab.A15
def Go.Ab.zRH_1 : Go.Ab.OZ := (.one 0 [0, 1, 9, 10, 11] (.one 1 [1, 9, 10, 11] (.one 2 [2, 3, 5, 6, 7, 8, 9, 10, 11] (.one 3 [3, 5, 6, 7, 8, 9, 10, 11] (.one 4 [4, 5, 6, 7, 8, 9, 10, 11] (.one 5 [5, 6, 7, 8, 9, 10, 11] (.one 6 [6, 7, 8, 9, 10, 11] (.one 7 [7, 8, 9, 10, 11] (.alt 8 (.alt 9 (.one 10 [10, 11] (.alt 11 .done .nil)) .nil) .nil)))))))))
namespace Go.Proofs.YtblfodnajpamfaaGreatDoor
open Go Go.Ab Go.Ab.A34 Go.Ab.A15
variable [Gl] [Tabs]
theorem refuting_r (db : List Tb) (l : List Dp) (g : Dp) (V : Vall db l g) (h4 : db.length ≤ 4) (ha3 : ∀ t ∈ db, t.attrs.length ≤ 3) (hg3 : g.l.length ≤ 3) (hll : l.length ≤ 1000000) :
    Ab.Call Tryz.prog 19 [DB db, DpL l, DV g] [] (fun r h' => ∃ ws z, GoodW db l g ws z ∧ r = DB (refW db ws) ∧ h' = []) := by
  have hsc := fun p tb => step_c p tb db l g V h4 ha3 hg3
  have hrc := fun p tb => rows_c p tb db
  have hgf := V.g.f
  have hti := tabI_idx (i := 0) hgf
  obtain ⟨f, hfd⟩ : ∃ f, f = idxN g.f (nmsOf db) := ⟨_, rfl⟩
  rw [← hfd, Nat.zero_add] at hti
  have hfl : f < db.length := by rw [hfd]; have := idxN_lt hgf; rwa [nmsOf, List.length_map] at this
  have hns : (nsOf db).getD f 0 = (db.getD f t0).attrs.length := by
    unfold nsOf
    simp [List.getD_eq_getElem?_getD, hfl]
  have hC1 : Cl (nmsOf db) (nsOf db) l g f (firstR (db.getD f t0).attrs.length g) := by
    rw [← hns, hfd]
    exact Cl.first
  have hfew := fun s L => Cl.few (db := db) (l := l) (g := g) ha3 hg3 s L
  have hgood : ∀ zs : List Ft, RI (Cl (nmsOf db) (nsOf db) l g) db zs → totR zs ≤ 400 → firstR (db.getD f t0).attrs.length g ∈ (zs.getD f f0).2.2 → (∀ d ∈ l, Clo (nmsOf db) (nsOf db) (fun t => (zs.getD t f0).2.2) d) → GoodW db l g (zs.map (·.2)) (totR zs) := fun zs a b c d => a.good b (by rw [← hfd, hns]; exact c) d
  obtain ⟨C, hC⟩ : ∃ C, C = Cl (nmsOf db) (nsOf db) l g := ⟨_, rfl⟩
  simp only [← hC] at hC1 hsc hfew hgood
  have hRI0 := zs0_RI C db
  clear hC
  have hat : ∀ t ∈ db, t.attrs.length ≤ 1000 := fun t ht => by have := ha3 t ht; omega
  have hpf := fun n => pad_first (n := n) (g := g)
  have fdb : ((f : Nat) : Int) < ((db.length : Nat) : Int) := by omega
  have f0q : (0 : Int) ≤ ((f : Nat) : Int) := by omega
  have fe : ((f : Nat) : Int).toNat = f := Int.toNat_natCast _
  obtain ⟨G, hG⟩ : ∃ G, G = g := ⟨_, rfl⟩
  simp only [← hG] at hgood hpf hC1
  rw [hG] at hpf
  obtain ⟨gf, gl, gt, gr⟩ := g
  simp only at hg3 hti hpf
  have hcp := fun n v (h1 : n ≤ 1000) (hv : gl.length ≤ v.length) => padded_r n gl v h1 (by omega) hv
  refine Call.enter' (N := 124) (rs := [.cell 6 30]) Tryz.func19 rfl rfl rfl (by decide) rfl ?_; simp only [argT]; have hD : (0 : Nat) = 0 := rfl
  repeat' first | (refine SW.seq_k fun K hK => ?_) | (refine SW.block ?_) | ((first | refine SW.region ?_ | (refine allF_i fun b hb => ?_; replace hD := And.intro hb hD; clear hb; try simp only [fresh_cons, fresh_nil, and_true, ne_eq, neF] at hD)); try simp only [go_sem, hD, true_implies]) | (apply hK; clear hK K)
  obtain ⟨b7, rfl⟩ : ∃ x, x = b := ⟨_, rfl⟩
  obtain ⟨b6, rfl⟩ : ∃ x, x = b := ⟨_, rfl⟩
  obtain ⟨b5, rfl⟩ : ∃ x, x = b := ⟨_, rfl⟩
  obtain ⟨b3, rfl⟩ : ∃ x, x = b := ⟨_, rfl⟩
  have e1 : ¬ b6 = b7 := by simp [hD]
  refine Ab.SW.le (S' := ⟨[(8, I64 0), (7, .op b7 0), (6, .op b6 0), (5, .fp [Str gf, IL gl, Str gt, IL gr]), (3, .fp [TL db]), (1, DpL l)], [(b7, .svs [SN]), (b6, .svs [SN])]⟩) ?_ ?_
  · refine St.le.trans (St.le_freezeP (i := 5) (b := b5) (off := 0) (n := 4) (k := .svs (dC ⟨gf, gl, gt, gr⟩)) rfl (by simp [find_cons, hD]) (by exact Nat.le_refl 4)) ?_
    simp only [getN, Blk.get, go_sem, hD]
    refine St.le.trans (St.le_freezeP (i := 3) (b := b3) (off := 0) (n := 1) (k := .svs [TL db]) rfl (by simp [find_cons, hD]) (by exact Nat.le_refl 1)) ?_
    simp only [getN, Blk.get, go_sem, hD]
    exact St.le_sub (by repeat' (first | exact rfl | exact trivial | constructor))
  clear hD
  have hD := And.intro (eq_false e1) (eq_false (Ne.symm e1))
  have hDO := hD
  obtain ⟨I, hI⟩ : ∃ I : Nat → St → Prop, ∀ k S, I k S ↔ (∃ (i : Nat) (x : SV) (h : Heap), k = db.length - i ∧ i ≤ db.length ∧ ((i = 0 ∧ x = SN ∧ h = []) ∨ (0 < i ∧ ∃ g1, fresh [(b7, .svs []), (b6, .svs [])] g1 ∧ x = .os g1 0 i 3 ∧ h = [(g1, .svs (fC eC (zs0 db i)))])) ∧ S = ⟨[(8, I64 i), (7, .op b7 0), (6, .op b6 0), (5, .fp [Str gf, IL gl, Str gt, IL gr]), (3, .fp [TL db]), (1, DpL l)], (b7, .svs [x]) :: (b6, .svs [SN]) :: h⟩) := ⟨fun k S => _, fun _ _ => Iff.rfl⟩
  refine SW.loop' I (db.length) ((hI _ _).2 ⟨0, SN, [], rfl, Nat.zero_le _, .inl ⟨rfl, rfl, rfl⟩, rfl⟩) (by repeat' (first | exact rfl | exact trivial | constructor)) ?_
  intro k S hIn
  obtain ⟨i, x, h, rfl, hi, hB, rfl⟩ := (hI _ _).1 hIn
  clear hIn
  have ie : ((i : Nat) : Int).toNat = i := Int.toNat_natCast _
  have i0 : (0 : Int) ≤ ((i : Nat) : Int) := by omega
  by_cases hlt : i < db.length
  · have hli : ((i : Nat) : Int) < (((db.length) : Nat) : Int) := by omega
    have w1 : IntKind.i64.wrap ((i : Int) + 1) = ((i + 1 : Nat) : Int) := by rw [i64_wrap (by omega) (by omega)]; omega
    have ft : tF db i = tC (db.getD i t0) := rfl
    have cw := with_r (db.getD i t0) (hat _ (getD_mem' t0 hlt))
    have hst := zs0_succ hlt
    have hzl := zs0_len hi
    have hfl2 : (fC eC (zs0 db i)).length = i * 3 := by rw [← fC_len (enc := eC) (k := 3) eC_len, hzl]
    have hfs : fC eC (zs0 db (i + 1)) = fC eC (zs0 db i) ++ [Str (db.getD i t0).name, SL (db.getD i t0).attrs, SN] := by rw [hst, ← fC_snoc]; rfl
    generalize db.getD i t0 = T at *
    obtain ⟨tn, ta, tr⟩ := T
    simp only at cw hfs
    have ba : (i + 1) * 64 ≤ 140737488355328 := by omega
    rcases hB with ⟨rfl, rfl, rfl⟩ | ⟨hi0, g1, u1, rfl, rfl⟩
    · have hs3 : fC eC (zs0 db (0 + 1)) = [Str tn, SL ta, SN] := hfs
      repeat' first | (with_reducible refine And.intro (by omega) ?_) | (refine SW.seq_k fun K hK => ?_) | (refine SW.block ?_) | ((first | refine SW.region ?_ | refine SW.regionZ (id := 5) (Checked.mixed Tryz.checked) Go.Ab.zRH_1 (by kernel_rfl) ?_ | refine SW.cond ?_ | refine SW.skip ?_ | refine ⟨_, cw, ?_⟩ | (refine allF_i fun b hb => ?_; replace hD := And.intro hb hD; clear hb; try simp only [fresh_cons, fresh_nil, and_true, ne_eq, neF] at hD) | simp only [appK, appOsK]); try simp only [Go.Ab.zRH_1, go_sem, hD, hli, ie, i0, w1, ft, ba, true_implies]) | (refine And.intro (by omega) ?_) | (refine ifI (fun hc => ?_) (fun hc => ?_) <;> first | (exfalso; omega) | skip) | (apply hK; clear hK K)
      all_goals
        obtain ⟨c1, rfl⟩ : ∃ x, x = b := ⟨_, rfl⟩
        refine Rnd.le (St.le_pick _ ?_ ?_) (Rnd.sub (db.length - (0 + 1)) (by omega) ((hI _ _).2 ⟨0 + 1, .os c1 0 1 3, [(c1, .svs [Str tn, SL ta, SN])], rfl, by omega, .inr ⟨by omega, c1, by simp [fresh_cons, fresh_nil, hD], rfl, by rw [hs3]⟩, rfl⟩) (by repeat' (first | exact rfl | exact trivial | constructor)))
        · repeat' (first | exact (fun x hx => (List.not_mem_nil hx).elim) | refine List.forall_mem_cons.2 ⟨?_, ?_⟩ | exact List.mem_cons_self | apply List.mem_cons_of_mem)
        · simp [fresh_cons, fresh_nil, hD]
    · simp only [fresh_cons, fresh_nil, and_true, ne_eq, neF] at u1
      have hD := And.intro u1 hDO
      repeat' first | (with_reducible refine And.intro (by omega) ?_) | (refine SW.seq_k fun K hK => ?_) | (refine SW.block ?_) | ((first | refine SW.region ?_ | refine SW.regionZ (id := 5) (Checked.mixed Tryz.checked) Go.Ab.zRH_1 (by kernel_rfl) ?_ | refine SW.cond ?_ | refine SW.skip ?_ | refine ⟨_, cw, ?_⟩ | (refine allF_i fun b hb => ?_; replace hD := And.intro hb hD; clear hb; try simp only [fresh_cons, fresh_nil, and_true, ne_eq, neF] at hD) | simp only [appK, appOsK]); try simp only [Go.Ab.zRH_1, go_sem, hD, hli, ie, i0, w1, ft, ba, hfl2, true_implies]) | (apply hK; clear hK K)
      all_goals
        obtain ⟨c1, rfl⟩ : ∃ x, x = b := ⟨_, rfl⟩
        refine Rnd.le (St.le_pick _ ?_ ?_) (Rnd.sub (db.length - (i + 1)) (by omega) ((hI _ _).2 ⟨i + 1, .os c1 0 (i + 1) 3, [(c1, .svs (fC eC (zs0 db i) ++ [Str tn, SL ta, SN]))], rfl, by omega, .inr ⟨by omega, c1, by simp [fresh_cons, fresh_nil, hD], rfl, by rw [hfs]⟩, rfl⟩) (by repeat' (first | exact rfl | exact trivial | constructor)))
        · repeat' (first | exact (fun x hx => (List.not_mem_nil hx).elim) | refine List.forall_mem_cons.2 ⟨?_, ?_⟩ | exact List.mem_cons_self | apply List.mem_cons_of_mem)
        · simp [fresh_cons, fresh_nil, hD]
  · have hli : ¬ ((i : Nat) : Int) < (((db.length) : Nat) : Int) := by omega
    obtain rfl : i = db.length := by omega
    rcases hB with ⟨hi0, _⟩ | ⟨hi0, tb, u1, rfl, rfl⟩
    · omega
    simp only [fresh_cons, fresh_nil, and_true, ne_eq] at u1
    obtain ⟨⟨a1, a2⟩, a3, a4⟩ := u1
    have hH0 : [(tb, Blk.svs (fC eC (zs0 db db.length)))] = RH tb (zs0 db db.length) := by unfold RH; rw [zs0_eH]
    have hzl0 := zs0_len (ts := db) (Nat.le_refl _)
    have hg0 := zs0_get db db.length f
    have hz0 : (zs0 db db.length).getD f f0 = nf (db.getD f t0) := by
      unfold zs0
      rw [List.take_length]
      simp [List.getD_eq_getElem?_getD, hfl]
    rw [hH0]
    generalize zs0 db db.length = zs at *
    have cf := fun H hH => table_o gf tb H db zs hRI0.e (by omega) hH
    rw [hti, hzl0] at cf
    clear hD
    have hE := And.intro hDO (And.intro (And.intro (eq_false a1) (eq_false a2)) (And.intro (eq_false a3) (eq_false a4)))
    have hD := hE
    unfold RH
    repeat' first | ((refine Call.mono (cf _ (by simp [find_cons, hD])) ?_); (intro r h' hx); (obtain ⟨rfl, rfl⟩ := hx); (try simp only [go_sem, hD])) | (refine SW.seq_k fun K hK => ?_) | (refine SW.block ?_) | ((first | refine SW.region ?_ | refine SW.cond ?_ | refine SW.exit ?_); try simp only [go_sem, hD, hli, true_implies]) | (apply hK; clear hK K) | (clear hK K; apply hK; clear hK K)
    clear hI
    obtain ⟨I, hI⟩ : ∃ I : Nat → St → Prop, ∀ k S, I k S ↔ (∃ (i : Nat) (x : SV) (h : Heap), k = gl.length - i ∧ i ≤ gl.length ∧ ((i = 0 ∧ x = SN ∧ h = (b7, .svs [.os tb 0 db.length 3]) :: (b6, .svs [SN]) :: (tb, .svs (fC eC zs)) :: eH zs) ∨ (0 < i ∧ ∃ g1, fresh [(b7, .svs []), (b6, .svs []), (tb, .svs [])] g1 ∧ x = .os g1 0 i 3 ∧ h = (g1, .svs (vCs (firP i))) :: (b7, .svs [.os tb 0 db.length 3]) :: (b6, .svs [SN]) :: (tb, .svs (fC eC zs)) :: eH zs)) ∧ S = ⟨[(7, .op b7 0), (6, .op b6 0), (5, .fp [Str gf, IL gl, Str gt, IL gr]), (1, DpL l), (9, I64 f), (10, x), (11, I64 i)], h⟩) := ⟨fun k S => _, fun _ _ => Iff.rfl⟩
    refine SW.loop' I (gl.length) ((hI _ _).2 ⟨0, SN, _, rfl, Nat.zero_le _, .inl ⟨rfl, rfl, rfl⟩, rfl⟩) (by repeat' (first | exact rfl | exact trivial | constructor)) ?_
    intro k S hIn
    obtain ⟨i, x, h, rfl, hi, hB, rfl⟩ := (hI _ _).1 hIn
    clear hIn
    have ie : ((i : Nat) : Int).toNat = i := Int.toNat_natCast _
    have i0 : (0 : Int) ≤ ((i : Nat) : Int) := by omega
    by_cases hlt : i < gl.length
    · have hli : ((i : Nat) : Int) < (((gl.length) : Nat) : Int) := by omega
      have w1 : IntKind.i64.wrap ((i : Int) + 1) = ((i + 1 : Nat) : Int) := by rw [i64_wrap (by omega) (by omega)]; omega
      have hsn : vCs (firP (i + 1)) = vCs (firP i) ++ [I64 1, I64 ((i : Int) + 1), Str ⟨#[]⟩] := by rw [firP_succ, ← vCs_snoc]; rfl
      have hw1 : ((i + 1 : Nat) : Int) = (i : Int) + 1 := by omega
      rw [← hw1] at hsn
      have htl : (vCs (firP i)).length = i * 3 := by rw [← vCs_len, firP_len]
      have ba : (i + 1) * 32 ≤ 140737488355328 := by omega
      rcases hB with ⟨rfl, rfl, rfl⟩ | ⟨hi0, g1, u1, rfl, rfl⟩
      · have hs3 : vCs (firP (0 + 1)) = [I64 1, I64 1, Str ⟨#[]⟩] := by rw [hsn]; rfl
        repeat' first | (with_reducible refine And.intro (by omega) ?_) | (refine SW.seq_k fun K hK => ?_) | (refine SW.block ?_) | ((first | refine SW.region ?_ | refine SW.cond ?_ | refine SW.skip ?_ | (refine allF_i fun b hb => ?_; replace hD := And.intro hb hD; clear hb; try simp only [fresh_cons, fresh_nil, and_true, ne_eq, neF] at hD) | simp only [appK, appOsK]); try simp only [go_sem, hD, hli, ie, i0, w1, ba, true_implies]) | (refine And.intro (by omega) ?_) | (refine ifI (fun hc => ?_) (fun hc => ?_) <;> first | (exfalso; omega) | skip) | (apply hK; clear hK K)
        all_goals
          refine Rnd.le (St.le_slist (List.Sublist.cons_cons _ (List.Sublist.cons _ (List.Sublist.refl _)))) ?_
          refine Rnd.sub (gl.length - (0 + 1)) (by omega) ((hI _ _).2 ⟨0 + 1, _, _, rfl, by omega, .inr ⟨by omega, b, by simp [fresh_cons, fresh_nil, hD], rfl, by first | (rw [hs3]; done) | (rw [hs3]; rfl)⟩, rfl⟩) (by repeat' (first | exact rfl | exact trivial | constructor))
      · simp only [fresh_cons, fresh_nil, and_true, ne_eq, neF] at u1
        have hD := And.intro u1 hE
        repeat' first | (with_reducible refine And.intro (by omega) ?_) | (refine SW.seq_k fun K hK => ?_) | (refine SW.block ?_) | ((first | refine SW.region ?_ | refine SW.cond ?_ | refine SW.skip ?_ | (refine allF_i fun b hb => ?_; replace hD := And.intro hb hD; clear hb; try simp only [fresh_cons, fresh_nil, and_true, ne_eq, neF] at hD) | simp only [appK, appOsK]); try simp only [go_sem, hD, hli, ie, i0, w1, ba, htl, true_implies]) | (apply hK; clear hK K)
        all_goals
          refine Rnd.le (St.le_slist (List.Sublist.cons _ (List.Sublist.refl _))) ?_
          refine Rnd.sub (gl.length - (i + 1)) (by omega) ((hI _ _).2 ⟨i + 1, _, _, rfl, by omega, .inr ⟨by omega, b, by simp [fresh_cons, fresh_nil, hD], rfl, by first | (rw [hsn]; done) | (rw [hsn]; rfl)⟩, rfl⟩) (by repeat' (first | exact rfl | exact trivial | constructor))
    · have hli : ¬ ((i : Nat) : Int) < (((gl.length) : Nat) : Int) := by omega
      obtain rfl : i = gl.length := by omega
      obtain ⟨W, hW⟩ : ∃ W, W = firP gl.length := ⟨_, rfl⟩
      have hWl : W.length = gl.length := by rw [hW, firP_len]
      have hpf2 : ∀ n, padV n gl W = (firstR n ⟨gf, gl, gt, gr⟩).map nvW := fun n => by rw [hW]; exact hpf n
      rw [← hW] at hB
      have c54 := fun n h => hcp n W h (by omega)
      simp only [hpf2] at c54
      clear hpf hpf2 hW hcp
      refine Ab.SW.le (S' := ⟨[(7, .op b7 0), (6, .op b6 0), (5, .fp [Str gf, IL gl, Str gt, IL gr]), (1, DpL l), (9, I64 f), (10, VL W), (11, I64 gl.length)], (b7, .svs [.os tb 0 db.length 3]) :: (b6, .svs [SN]) :: (tb, .svs (fC eC zs)) :: eH zs⟩) ?_ ?_
      · rcases hB with ⟨m0, rfl, rfl⟩ | ⟨hm0, g1, u1, rfl, rfl⟩
        · obtain rfl : W = [] := List.eq_nil_of_length_eq_zero (by omega)
          refine St.le.trans (St.le_say (i := 10) (v := VL []) (fun E u hr => Rep.fl_nil hr)) ?_
          exact St.le_sub (by repeat' (first | exact rfl | exact trivial | constructor))
        · refine St.le.trans (St.le_freeze (i := 10) (b := g1) (off := 0) (len := gl.length) (sz := 3) (k := .svs (vCs W)) rfl (by rw [find_cons, if_pos rfl]) (by show 0 + gl.length * 3 ≤ (vCs W).length; rw [← vCs_len]; omega) (vF W) (fun j hj => by
            rw [getN_take _ _ _ (by show 0 + j * 3 + 3 ≤ (vCs W).length; rw [← vCs_len]; omega), Nat.zero_add]
            exact vCs_at W j (by omega))) ?_
          rw [del_head, ← hWl]
          exact St.le_sub (by repeat' (first | exact rfl | exact trivial | constructor))
      clear hB hI
      obtain ⟨A, e2, D, hwl, hA⟩ := splitR_at (zs := zs) (t := f) (by omega)
      have hge : zs.getD f f0 = e2 := by rw [hwl, ← hA, midR_get A D e2 e2, if_pos rfl]
      rw [hz0] at hge
      subst hge
      have t3 : (db.getD f t0).attrs.length ≤ 3 := ha3 _ (getD_mem' t0 hfl)
      have hxl : (firstR (db.getD f t0).attrs.length ⟨gf, gl, gt, gr⟩).length = (db.getD f t0).attrs.length := by simp [firstR]
      have cw := eC_get (L := zs) (j := f) (by omega)
      rw [hz0] at cw
      have hwc : (fC eC zs).length = db.length * 3 := by rw [← fC_len (enc := eC) (k := 3) eC_len]; omega
      obtain ⟨h1, h2, h3⟩ := cw
      have c54 := c54 (db.getD f t0).attrs.length (by omega)
      have ca := fun p => add_e p A D (nf (db.getD f t0)) (firstR (db.getD f t0).attrs.length ⟨gf, gl, gt, gr⟩) (by omega) (by show 0 ≤ 1000; omega) (fun y hy => absurd hy List.not_mem_nil) List.Pairwise.nil
      have ca3 := fun x1 x2 x3 => ca [x1, x2, x3]
      simp only [List.cons_append, List.nil_append] at ca3
      rw [← hwl] at ca3
      have hes := fun v => eC_set zs f v (by omega)
      have hset : ∀ v, zs.set f v = A ++ v :: D := fun v => by rw [hwl, ← hA]; simp
      simp only [hset] at hes
      clear ca
      have zt : 0 + f * 3 = f * 3 := Nat.zero_add _
      have mt : f * 3 + 2 < (fC eC zs).length := by omega
      have hadd := fun nb M hin => RI.add (C := C) (ts := db) (A := A) (D := D) (e := nf (db.getD f t0)) (b := nb) (M := M) (x := firstR (db.getD f t0).attrs.length ⟨gf, gl, gt, gr⟩) (by rw [← hwl]; exact hRI0) hin (by rw [hA, ← hG]; exact hC1)
      rw [hA] at hadd
      rw [hG] at hgood
      obtain ⟨X, hX⟩ : ∃ X, X = firstR (db.getD f t0).attrs.length ⟨gf, gl, gt, gr⟩ := ⟨_, rfl⟩
      simp only [← hX] at hgood ca3 c54 hadd
      generalize hT : db.getD f t0 = T at *
      obtain ⟨tn, ta, tr⟩ := T
      have hnf : nf ⟨tn, ta, tr⟩ = (⟨tn, ta, tr⟩, 0, []) := rfl
      have hx0 : xC 0 [] = SN := rfl
      simp only [hnf, hx0] at ca3 h1 h2 h3 c54 hadd
      generalize X.map nvW = XV at *
      have sxc : ∀ b M, single (xC b M) = true := fun b M => by
        unfold xC
        by_cases h : M = []
        · rw [if_pos h]; rfl
        · rw [if_neg h]; rfl
      have hes3 : ∀ nb M, (((fC eC zs).set (f * 3) (Str tn)).set (f * 3 + 1) (SL ta)).set (f * 3 + 1 + 1) (xC nb M) = fC eC (A ++ (⟨tn, ta, tr⟩, nb, M) :: D) := fun nb M => hes (⟨tn, ta, tr⟩, nb, M)
      have hD := hE
      repeat' first | (refine SW.seq_k fun K hK => ?_) | ((first | refine SW.region ?_ | refine SW.cond ?_ | refine SW.exit ?_); try simp only [go_sem, hD, true_implies, hli]) | (apply hK; clear hK K) | (clear hK K; apply hK; clear hK K)
      refine SW.midf hK (fun S => ∃ zs', RI C db zs' ∧ X ∈ (zs'.getD f f0).2.2 ∧ S.le ⟨[(7, .op b7 0), (6, .op b6 0), (5, .fp [Str gf, IL gl, Str gt, IL gr]), (1, DpL l), (9, I64 f)], (b7, .svs [.os tb 0 db.length 3]) :: (b6, .svs [SN]) :: (tb, .svs (fC eC zs')) :: eH zs'⟩) (fun hK1 => ?_) ?_
      · clear hK
        have hK := hK1
        clear hK1
        repeat' first | ((with_reducible refine Call.mono (ca3 _ _ _) ?_); (intro rr hh hx); (obtain ⟨nb, M, g2, rfl, rfl, hnd2, hcase⟩ := hx); (simp only [go_sem, hD, sxc])) | (with_reducible refine And.intro (by omega) ?_) | ((first | refine SW.regionY [19] (id := 12) (Checked.mixed Tryz.checked) ((.one 3 [3, 4, 6, 7, 19, 20, 21, 22, 23, 24] (.one 4 [4, 6, 7, 19, 20, 21, 22, 23, 24] (.one 5 [5, 6, 7, 19, 20, 21, 22, 23, 24] (.one 6 [6, 7, 19, 20, 21, 22, 23, 24] (.one 7 [7, 19, 20, 21, 22, 23, 24] (.one 8 [8, 9, 11, 12, 13, 14, 18, 19, 20, 21, 22, 23, 24] (.one 9 [9, 11, 12, 13, 14, 18, 19, 20, 21, 22, 23, 24] (.one 10 [10, 11, 12, 13, 14, 18, 19, 20, 21, 22, 23, 24] (.one 11 [11, 12, 13, 14, 18, 19, 20, 21, 22, 23, 24] (.one 12 [12, 13, 14, 18, 19, 20, 21, 22, 23, 24] (.one 13 [13, 14, 18, 19, 20, 21, 22, 23, 24] (.one 14 [14, 18, 19, 20, 21, 22, 23, 24] (.one 15 [15, 16, 18, 19, 20, 21, 22, 23, 24] (.one 16 [16, 18, 19, 20, 21, 22, 23, 24] (.one 17 [17, 18, 19, 20, 21, 22, 23, 24] (.one 18 [18, 19, 20, 21, 22, 23, 24] (.alt 0 false (.alt 1 false (.alt 2 false (.alt 19 true (.one 20 [20, 21, 22, 23, 24] (.one 21 [21, 23, 24] (.one 23 [23, 24] (.alt 22 false (.alt 24 false .done .nil) (.alt 24 false (.one 22 [22] .done) .nil))))) .nil) (.alt 19 true (.one 2 [2, 23, 24] (.one 20 [20, 21, 22, 23, 24] (.one 21 [21, 23, 24] (.one 23 [23, 24] (.alt 22 false (.alt 24 false .done .nil) (.alt 24 false (.one 22 [22] .done) .nil)))))) .nil)) (.alt 2 false (.alt 1 false (.alt 19 true (.one 20 [20, 21, 22, 23, 24] (.one 21 [21, 23, 24] (.one 23 [23, 24] (.alt 22 false (.alt 24 false .done .nil) (.alt 24 false (.one 22 [22] .done) .nil))))) .nil) (.alt 19 true (.one 1 [1, 23, 24] (.one 20 [20, 21, 22, 23, 24] (.one 21 [21, 23, 24] (.one 23 [23, 24] (.alt 22 false (.alt 24 false .done .nil) (.alt 24 false (.one 22 [22] .done) .nil)))))) .nil)) (.alt 19 true (.one 1 [1, 23, 24] (.one 2 [2, 23, 24] (.one 20 [20, 21, 22, 23, 24] (.one 21 [21, 23, 24] (.one 23 [23, 24] (.alt 22 false (.alt 24 false .done .nil) (.alt 24 false (.one 22 [22] .done) .nil))))))) .nil))) (.alt 2 false (.alt 0 false (.alt 1 false (.alt 19 true (.one 20 [20, 21, 22, 23, 24] (.one 21 [21, 23, 24] (.one 23 [23, 24] (.alt 22 false (.alt 24 false .done .nil) (.alt 24 false (.one 22 [22] .done) .nil))))) .nil) (.alt 19 true (.one 1 [1, 23, 24] (.one 20 [20, 21, 22, 23, 24] (.one 21 [21, 23, 24] (.one 23 [23, 24] (.alt 22 false (.alt 24 false .done .nil) (.alt 24 false (.one 22 [22] .done) .nil)))))) .nil)) (.alt 19 true (.one 0 [0, 1, 23, 24] (.one 1 [1, 23, 24] (.one 20 [20, 21, 22, 23, 24] (.one 21 [21, 23, 24] (.one 23 [23, 24] (.alt 22 false (.alt 24 false .done .nil) (.alt 24 false (.one 22 [22] .done) .nil))))))) .nil)) (.alt 19 true (.one 0 [0, 1, 23, 24] (.one 1 [1, 23, 24] (.one 2 [2, 23, 24] (.one 20 [20, 21, 22, 23, 24] (.one 21 [21, 23, 24] (.one 23 [23, 24] (.alt 22 false (.alt 24 false .done .nil) (.alt 24 false (.one 22 [22] .done) .nil)))))))) .nil))))))))))))))))))) : OY) (by kernel_rfl) ?_ | refine ⟨_, c54, ?_⟩); try simp only [go_sem, hD, true_implies, fe, f0q, fdb, zt, mt, hwc, h1, h2, h3, sxc, hx0]) | (apply hK; clear hK K) | (refine And.intro ?_ ?_)
        all_goals
          rcases hcase with ⟨_, hm, _⟩ | ⟨_, _, hins⟩
          · exact absurd hm List.not_mem_nil
          · obtain ⟨r1, r2, r3, r4, r5⟩ := hadd nb M hins
            refine ⟨_, r1, r5, ?_⟩
            rw [hes3 nb M]
            exact St.le_sub (by repeat' (first | exact rfl | exact trivial | constructor))
      clear hK K
      rintro S ⟨zs1, hRI1, hX1, hS⟩
      refine Ab.SW.le hS ?_
      clear hS S hadd hes hes3 ca3 c54 hset hwl hz0 h1 h2 h3 hwc zt mt t3 hxl hnf hx0 sxc hg0 hRI0 hH0 cf hti hC1 hX
      have hD := hE
      repeat' first | (refine SW.seq_k fun K hK => ?_) | (refine SW.block ?_) | (refine SW.region ?_; try simp only [go_sem, hD, true_implies]) | (apply hK; clear hK K)
      obtain ⟨J, hJ⟩ : ∃ J : Nat → St → Prop, ∀ m S, J m S ↔ (∃ (zs : List Ft) (ch : Bool), m = (if ch = true then 300 - totR zs else 0) ∧ RI C db zs ∧ X ∈ (zs.getD f f0).2.2 ∧ (ch = false → ∀ d ∈ l, Clo (nmsOf db) (nsOf db) (fun t => (zs.getD t f0).2.2) d) ∧ S = ⟨[(7, .op b7 0), (6, .op b6 0), (1, DpL l), (12, SB ch)], (b7, .svs [.os tb 0 db.length 3]) :: (b6, .svs [SN]) :: (tb, .svs (fC eC zs)) :: eH zs⟩) := ⟨fun m S => _, fun _ _ => Iff.rfl⟩
      refine SW.loop' J (300 - totR zs1) ((hJ _ _).2 ⟨zs1, true, rfl, hRI1, hX1, (fun h => by cases h), rfl⟩) (by repeat' (first | exact rfl | exact trivial | constructor)) ?_
      intro m S hIn
      obtain ⟨wl, ch, rfl, hRI, hXm, hcl, rfl⟩ := (hJ _ _).1 hIn
      clear hIn hRI1 hX1
      clear zs1
      have hwl : wl.length = db.length := by have := congrArg List.length hRI.e; rwa [List.length_map] at this
      have htt := hRI.tot hfew wl.length (Nat.le_refl _)
      rw [List.take_length] at htt
      have cr := hrc [(b7, .svs [.os tb 0 db.length 3]), (b6, .svs [SN])] tb wl hwl (by omega) (fun s hs => by have := hfew s _ (hRI.s s hs) (hRI.c s hs); omega)
      unfold RH at cr
      simp only [List.cons_append, List.nil_append] at cr
      have h400 : ((totR wl : Nat) : Int) ≤ 400 := by omega
      cases ch with
      | true =>
        repeat' first | ((with_reducible refine Call.mono cr ?_); (intro rr hh hx); (obtain ⟨rfl, rfl⟩ := hx); (simp only [go_sem, hD, h400])) | (refine SW.seq_k fun K hK => ?_) | (refine SW.block ?_) | ((first | refine SW.region ?_ | refine SW.cond ?_ | refine SW.skip ?_ | simp only [appK, appOsK]); try simp only [go_sem, hD, true_implies, h400]) | (apply hK; clear hK K)
        have hJO := hJ
        clear hJ cr hgood
        obtain ⟨I, hI⟩ : ∃ I : Nat → St → Prop, ∀ k S, I k S ↔ (∃ (m : Nat) (z2 : List Ft) (g2 : Bool), k = l.length - m ∧ m ≤ l.length ∧ RI C db z2 ∧ X ∈ (z2.getD f f0).2.2 ∧ (g2 = false → z2 = wl ∧ ∀ j, j < m → Clo (nmsOf db) (nsOf db) (fun t => (wl.getD t f0).2.2) (l.getD j d0)) ∧ (g2 = true → totR wl < totR z2) ∧ S = ⟨[(7, .op b7 0), (6, .op b6 0), (1, DpL l), (12, SB g2), (13, I64 m)], (b7, .svs [.os tb 0 db.length 3]) :: (b6, .svs [SN]) :: (tb, .svs (fC eC z2)) :: eH z2⟩) := ⟨fun k S => _, fun _ _ => Iff.rfl⟩
        refine SW.loop' I (l.length) ((hI _ _).2 ⟨0, wl, false, rfl, Nat.zero_le _, hRI, hXm, (fun _ => ⟨rfl, fun j hj => absurd hj (Nat.not_lt_zero _)⟩), (fun h => by cases h), rfl⟩) (by repeat' (first | exact rfl | exact trivial | constructor)) ?_
        intro k S hIn
        obtain ⟨m, z2, g2, rfl, hi, hRI2, hX2, h20, h21, rfl⟩ := (hI _ _).1 hIn
        clear hIn
        have ie : ((m : Nat) : Int).toNat = m := Int.toNat_natCast _
        have i0 : (0 : Int) ≤ ((m : Nat) : Int) := by omega
        by_cases hlm : m < l.length
        · have hli : ((m : Nat) : Int) < (((l.length) : Nat) : Int) := by omega
          have w1 : IntKind.i64.wrap ((m : Int) + 1) = ((m + 1 : Nat) : Int) := by rw [i64_wrap (by omega) (by omega)]; omega
          have fd : dpF l m = dC (l.getD m d0) := rfl
          have hdm : l.getD m d0 ∈ l := getD_mem' d0 hlm
          have cs := hsc [(b7, .svs [.os tb 0 db.length 3]), (b6, .svs [SN])] tb z2 hRI2 (l.getD m d0) hdm
          unfold RH at cs
          simp only [List.cons_append, List.nil_append] at cs
          generalize hd0 : l.getD m d0 = dd at *
          obtain ⟨df, dl, dt, dr⟩ := dd
          repeat' first | (refine SW.seq_k fun K hK => ?_) | (refine SW.block ?_) | ((first | refine SW.region ?_ | refine SW.cond ?_ | refine SW.skip ?_); try simp only [go_sem, hD, hli, ie, i0, fd, true_implies]) | (apply hK; clear hK K)
          refine SW.midf hK (fun S => ∃ z3 g3, RI C db z3 ∧ Go.Ab.A15.Sub z2 z3 ∧ (g3 = false → z3 = z2 ∧ Clo (nmsOf db) (nsOf db) (fun t => (z2.getD t f0).2.2) ⟨df, dl, dt, dr⟩) ∧ (g3 = true → totR z2 < totR z3) ∧ S.le ⟨[(7, .op b7 0), (6, .op b6 0), (1, DpL l), (12, SB g2), (13, I64 m), (93, SB g3)], (b7, .svs [.os tb 0 db.length 3]) :: (b6, .svs [SN]) :: (tb, .svs (fC eC z3)) :: eH z3⟩) (fun hK1 => ?_) ?_
          · clear hK
            have hK := hK1
            clear hK1
            repeat' first | ((refine Call.mono cs ?_); (intro rr hh hx); (obtain ⟨h2, rfl, ⟨z3, g3, rfl, rfl, q1, q2, q3, q4⟩, hnd3⟩ := hx); (try simp only [go_sem, hD, List.cons_append, List.nil_append])) | (refine SW.regionY [5] (id := 19) (Checked.mixed Tryz.checked) ((.one 0 [0, 5] (.one 1 [1, 3, 4, 5] (.one 2 [2, 3, 4, 5] (.one 3 [3, 4, 5] (.one 4 [4, 5] (.alt 5 true .done .nil)))))) : OY) (by kernel_rfl) ?_; try simp only [go_sem, hD, true_implies, hli, ie, i0, fd]) | (apply hK; clear hK K)
            all_goals
              exact ⟨z3, g3, q1, q2, q3, q4, St.le_sub (by repeat' (first | exact rfl | exact trivial | constructor))⟩
          clear hK K
          rintro S ⟨z3, g3, q1, q2, q3, q4, hS⟩
          refine Ab.SW.le hS ?_
          clear hS S cs
          have hmm : m + 1 ≤ l.length := hlm
          cases g3 with
          | false =>
            obtain ⟨rfl, hclo⟩ := q3 rfl
            have h22 : g2 = false → z3 = wl ∧ ∀ j, j < m + 1 → Clo (nmsOf db) (nsOf db) (fun t => (wl.getD t f0).2.2) (l.getD j d0) := fun h => by
              obtain ⟨e1, e2⟩ := h20 h
              refine ⟨e1, fun j hj => ?_⟩
              rcases Nat.lt_or_eq_of_le (Nat.lt_succ_iff.1 hj) with h5 | h5
              · exact e2 j h5
              · rw [h5, hd0, ← e1]; exact hclo
            repeat' first | ((first | refine SW.region ?_ | refine SW.cond ?_ | refine SW.skip ?_); try simp only [go_sem, hD, w1, true_implies]) | (apply hK; clear hK K)
            exact Rnd.sub (l.length - (m + 1)) (by omega) ((hI _ _).2 ⟨m + 1, z3, g2, rfl, hmm, hRI2, hX2, h22, h21, rfl⟩) (by repeat' (first | exact rfl | exact trivial | constructor))
          | true =>
            have q5 := q4 rfl
            have h23 : totR wl < totR z3 := by
              cases g2 with
              | false => rw [← (h20 rfl).1]; exact q5
              | true => have := h21 rfl; omega
            repeat' first | ((first | refine SW.region ?_ | refine SW.cond ?_); try simp only [go_sem, hD, w1, true_implies]) | (apply hK; clear hK K)
            exact Rnd.sub (l.length - (m + 1)) (by omega) ((hI _ _).2 ⟨m + 1, z3, true, rfl, hmm, q1, q2 f X hX2, (fun h => by cases h), (fun _ => h23), rfl⟩) (by repeat' (first | exact rfl | exact trivial | constructor))
        · have hli : ¬ ((m : Nat) : Int) < (((l.length) : Nat) : Int) := by omega
          obtain rfl : m = l.length := by omega
          have hnew : g2 = false → ∀ d ∈ l, Clo (nmsOf db) (nsOf db) (fun t => (z2.getD t f0).2.2) d := fun h d hd => by
            obtain ⟨e1, e2⟩ := h20 h
            obtain ⟨j, hj, rfl⟩ := List.getElem_of_mem hd
            have := e2 j hj
            rw [e1]
            rwa [show l.getD j d0 = l[j] by simp [List.getD_eq_getElem?_getD, hj]] at this
          have hme : (if g2 = true then 300 - totR z2 else 0) < 300 - totR wl := by
            cases g2 with
            | false => rw [if_neg (by simp)]; omega
            | true => rw [if_pos rfl]; have := h21 rfl; omega
          repeat' first | (refine SW.seq_k fun K hK => ?_) | ((first | refine SW.region ?_ | refine SW.cond ?_ | refine SW.exit ?_); try simp only [go_sem, hD, hli, true_implies]) | (apply hK; clear hK K)
          exact Rnd.sub (if g2 = true then 300 - totR z2 else 0) (by first | exact hme | (simpa using hme)) ((hJO _ _).2 ⟨z2, g2, rfl, hRI2, hX2, hnew, rfl⟩) (by repeat' (first | exact rfl | exact trivial | constructor))
      | false =>
        have hGW := hgood wl hRI (by omega) hXm (hcl rfl)
        have hRW := refW_R hRI
        have hRl : (wl.map tabR).length = db.length := by rw [List.length_map, hwl]
        have hup := up_H wl
        rw [hup]
        have hrow : ∀ s, s < wl.length → (wl.getD s f0).2.2.length ≤ 64 := fun s hs => hfew s _ (hRI.s s hs) (hRI.c s hs)
        clear hup hJ cr hgood hsc hrc hfew hcl htt h400 hXm hRI
        repeat' first | (refine SW.seq_k fun K hK => ?_) | (refine SW.block ?_) | ((first | refine SW.region ?_ | refine SW.cond ?_ | refine SW.exit ?_); try simp only [go_sem, hD, true_implies]) | (apply hK; clear hK K) | (clear hK K; apply hK; clear hK K)
        obtain ⟨I, hI⟩ : ∃ I : Nat → St → Prop, ∀ k S, I k S ↔ (∃ (i : Nat) , k = db.length - i ∧ i ≤ db.length ∧ S = ⟨[(7, .op b7 0), (6, .op b6 0), (1, DpL l), (14, I64 i)], (b7, .svs [.os tb 0 db.length 3]) :: (b6, .svs [SN]) :: (tb, .svs (fC eC wl)) :: yH (yW wl i)⟩) := ⟨fun k S => _, fun _ _ => Iff.rfl⟩
        refine SW.loop' I (db.length) ((hI _ _).2 ⟨0, rfl, Nat.zero_le _, rfl⟩) (by repeat' (first | exact rfl | exact trivial | constructor)) ?_
        intro k S hIn
        obtain ⟨i, rfl, hi, rfl⟩ := (hI _ _).1 hIn
        clear hIn
        have ie : ((i : Nat) : Int).toNat = i := Int.toNat_natCast _
        have i0 : (0 : Int) ≤ ((i : Nat) : Int) := by omega
        by_cases hlt : i < db.length
        · have hli : ((i : Nat) : Int) < (((db.length) : Nat) : Int) := by omega
          have w1 : IntKind.i64.wrap ((i : Int) + 1) = ((i + 1 : Nat) : Int) := by rw [i64_wrap (by omega) (by omega)]; omega
          obtain ⟨A, e, D, hwe, hA⟩ := splitR_at (zs := wl) (t := i) (by omega)
          have hge : wl.getD i f0 = e := by rw [hwe, ← hA, midR_get A D e e, if_pos rfl]
          have gz := (eC_get (L := wl) (j := i) (by omega)).2.2
          rw [hge] at gz
          have hy0 : yW wl i = A.map finG ++ upG e :: D.map upG := by rw [hwe]; unfold yW; simp [← hA]
          have hy1 : yW wl (i + 1) = A.map finG ++ finG e :: D.map upG := by
            have e0 : A ++ e :: D = (A ++ [e]) ++ D := by simp
            have e1 : (A ++ e :: D).take (i + 1) = A ++ [e] := by rw [e0]; exact List.take_left' (by rw [List.length_append, hA]; rfl)
            have e2 : (A ++ e :: D).drop (i + 1) = D := by rw [e0]; exact List.drop_left' (by rw [List.length_append, hA]; rfl)
            rw [hwe]; unfold yW; rw [e1, e2]; simp
          have hLl := hrow i (by omega)
          rw [hge] at hLl
          have hzl : (fC eC wl).length = db.length * 3 := by rw [← fC_len (enc := eC) (k := 3) eC_len, hwl]
          have zi : 0 + i * 3 = i * 3 := Nat.zero_add _
          have mi : i * 3 + 2 < (fC eC wl).length := by omega
          obtain ⟨et, eb, L⟩ := e
          simp only at gz hLl
          have hyH1 : yH (yW wl (i + 1)) = yH (A.map finG ++ finG (et, eb, L) :: D.map upG) := by rw [hy1]
          have oli := hli
          have ow1 := w1
          have oie := ie
          have oi0 := i0
          repeat' first | (refine SW.seq_k fun K hK => ?_) | (refine SW.block ?_) | ((first | refine SW.region ?_ | refine SW.cond ?_ | refine SW.skip ?_); try simp only [go_sem, hD, hli, ie, i0, true_implies]) | (apply hK; clear hK K)
          by_cases h0 : L = []
          · have hx : xC eb L = SN := if_pos h0
            rw [hx] at gz
            have hyy : yH (yW wl i) = yH (yW wl (i + 1)) := by
              rw [hy0, hy1, yH_mid, yH_mid, h0]
              rfl
            rw [hyy]
            obtain ⟨J2, hJ2⟩ : ∃ J : Nat → St → Prop, ∀ m S, J m S ↔ S = ⟨[(7, .op b7 0), (6, .op b6 0), (1, DpL l), (14, I64 i), (15, I64 0)], (b7, .svs [.os tb 0 db.length 3]) :: (b6, .svs [SN]) :: (tb, .svs (fC eC wl)) :: yH (yW wl (i + 1))⟩ := ⟨fun m S => _, fun _ _ => Iff.rfl⟩
            refine SW.loop' J2 0 ((hJ2 _ _).2 rfl) (by repeat' (first | exact rfl | exact trivial | constructor)) ?_
            intro m S hIn
            obtain rfl := (hJ2 _ _).1 hIn
            clear hIn
            repeat' first | (refine SW.seq_k fun K hK => ?_) | ((first | refine SW.region ?_ | refine SW.cond ?_ | refine SW.exit ?_); try simp only [go_sem, hD, oli, oie, oi0, ow1, gz, zi, mi, true_implies]) | (apply hK; clear hK K) | (clear hK K; apply hK; clear hK K)
            exact Rnd.sub (db.length - (i + 1)) (by omega) ((hI _ _).2 ⟨i + 1, rfl, by omega, rfl⟩) (by repeat' (first | exact rfl | exact trivial | constructor))
          · have hx : xC eb L = .os eb 0 L.length 2 := if_neg h0
            rw [hx] at gz
            have hyh : yh (upG (et, eb, L)).2.1 (upG (et, eb, L)).2.2 = [(eb, .svs (fC rC (idR L 0)))] := if_neg fun h => h0 (List.map_eq_nil_iff.1 h)
            have hrl : (rowsP L L.length).length = L.length := rowsP_len _ _
            have hyh1 : yh (finG (et, eb, L)).2.1 (finG (et, eb, L)).2.2 = [(eb, .svs (fC rC (idR L L.length)))] := by
              rw [idR_all]
              exact if_neg fun h => h0 (List.eq_nil_of_length_eq_zero (by rw [← hrl]; exact congrArg List.length h))
            rw [hy0, yH_mid, hyh]
            rw [yH_mid, hyh1] at hyH1
            refine SW.nd fun hnd => ?_
            simp only [List.map_cons, List.map_append, List.nodup_cons, List.mem_cons, List.mem_append, List.map_nil, not_or] at hnd
            have n1 : ¬ b7 = eb := hnd.1.2.2.2.1.1
            have n2 : ¬ b6 = eb := hnd.2.1.2.2.1.1
            have n3 : ¬ tb = eb := hnd.2.2.1.2.1.1
            clear hnd
            refine Ab.SW.le (St.le_perm (h' := (eb, .svs (fC rC (idR L 0))) :: (b7, .svs [.os tb 0 db.length 3]) :: (b6, .svs [SN]) :: (tb, .svs (fC eC wl)) :: (yH (A.map finG) ++ yH (D.map upG))) (perm4 [(eb, Blk.svs (fC rC (idR L 0)))] [(b7, Blk.svs [.os tb 0 db.length 3]), (b6, Blk.svs [SN]), (tb, Blk.svs (fC eC wl))] _ _)) ?_
            have hD := And.intro hE (And.intro (And.intro (eq_false n1) (eq_false (Ne.symm n1))) (And.intro (And.intro (eq_false n2) (eq_false (Ne.symm n2))) (And.intro (eq_false n3) (eq_false (Ne.symm n3)))))
            have hIO := hI
            clear hI
            obtain ⟨I, hI⟩ : ∃ I : Nat → St → Prop, ∀ k S, I k S ↔ (∃ (m : Nat) , k = L.length - m ∧ m ≤ L.length ∧ S = ⟨[(7, .op b7 0), (6, .op b6 0), (1, DpL l), (14, I64 i), (15, I64 m)], (eb, .svs (fC rC (idR L m))) :: (b7, .svs [.os tb 0 db.length 3]) :: (b6, .svs [SN]) :: (tb, .svs (fC eC wl)) :: (yH (A.map finG) ++ yH (D.map upG))⟩) := ⟨fun k S => _, fun _ _ => Iff.rfl⟩
            refine SW.loop' I (L.length) ((hI _ _).2 ⟨0, rfl, Nat.zero_le _, rfl⟩) (by repeat' (first | exact rfl | exact trivial | constructor)) ?_
            intro k S hIn
            obtain ⟨m, rfl, hi, rfl⟩ := (hI _ _).1 hIn
            clear hIn
            have ie : ((m : Nat) : Int).toNat = m := Int.toNat_natCast _
            have i0 : (0 : Int) ≤ ((m : Nat) : Int) := by omega
            by_cases hlm : m < L.length
            · have hli : ((m : Nat) : Int) < (((L.length) : Nat) : Int) := by omega
              have w1 : IntKind.i64.wrap ((m : Int) + 1) = ((m + 1 : Nat) : Int) := by rw [i64_wrap (by omega) (by omega)]; omega
              have gs := idR_set hlm
              rw [show (m : Int) + 1 = ((m + 1 : Nat) : Int) by omega] at gs
              have hil : (fC rC (idR L m)).length = L.length * 2 := by rw [← fC_len (enc := rC) (k := 2) (fun _ => rfl), idR_len (by omega)]
              have zm : 0 + m * 2 = m * 2 := Nat.zero_add _
              have mm : m * 2 + 1 < (fC rC (idR L m)).length := by omega
              repeat' first | (with_reducible refine And.intro (by omega) ?_) | (refine SW.seq_k fun K hK => ?_) | (refine SW.block ?_) | ((first | refine SW.region ?_ | refine SW.cond ?_ | refine SW.skip ?_); try simp only [go_sem, hD, hli, ie, i0, w1, oli, oie, oi0, gz, zi, mi, zm, mm, hil, gs, true_implies]) | (apply hK; clear hK K)
              all_goals
                exact Rnd.sub (L.length - (m + 1)) (by omega) ((hI _ _).2 ⟨m + 1, rfl, by omega, rfl⟩) (by repeat' (first | exact rfl | exact trivial | constructor))
            · have hli : ¬ ((m : Nat) : Int) < (((L.length) : Nat) : Int) := by omega
              obtain rfl : m = L.length := by omega
              refine Ab.SW.le (St.le_perm (h' := (b7, .svs [.os tb 0 db.length 3]) :: (b6, .svs [SN]) :: (tb, .svs (fC eC wl)) :: yH (yW wl (i + 1))) ?_) ?_
              · rw [hyH1]
                exact (perm4 [(eb, Blk.svs (fC rC (idR L L.length)))] [(b7, Blk.svs [.os tb 0 db.length 3]), (b6, Blk.svs [SN]), (tb, Blk.svs (fC eC wl))] _ _).symm
              · have hD := hE
                repeat' first | (refine SW.seq_k fun K hK => ?_) | ((first | refine SW.region ?_ | refine SW.cond ?_ | refine SW.exit ?_); try simp only [go_sem, hD, hli, oli, oie, oi0, ow1, gz, zi, mi, true_implies]) | (apply hK; clear hK K) | (clear hK K; apply hK; clear hK K)
                exact Rnd.sub (db.length - (i + 1)) (by omega) ((hIO _ _).2 ⟨i + 1, rfl, by omega, rfl⟩) (by repeat' (first | exact rfl | exact trivial | constructor))
        · have hli : ¬ ((i : Nat) : Int) < (((db.length) : Nat) : Int) := by omega
          obtain rfl : i = db.length := by omega
          have hyn : yW wl db.length = wl.map finG := by
            unfold yW
            rw [← hwl, List.take_length, List.drop_length, List.map_nil, List.append_nil]
          have hfin := fin_le (t := [(7, .op b7 0), (6, .op b6 0), (1, DpL l), (14, I64 db.length)]) tb [(b7, .svs [.os tb 0 db.length 3]), (b6, .svs [SN])] wl []
          have e0 : fC tC [] ++ fC eC wl = fC eC wl := rfl
          rw [e0, List.nil_append, hRW] at hfin
          rw [hRW] at hRl
          rw [hyn]
          obtain ⟨R, hR⟩ : ∃ R, R = refW db (wl.map (·.2)) := ⟨_, rfl⟩
          rw [← hR] at hfin hRl
          refine Ab.SW.le (S' := ⟨[(7, .op b7 0), (6, .op b6 0), (1, DpL l), (14, I64 db.length)], [(b7, .svs [.fl db.length 3 (tF R)]), (b6, .svs [SN])]⟩) ?_ ?_
          · refine St.le.trans (St.le_perm (h' := (tb, .svs (fC eC wl)) :: ([(b7, .svs [.os tb 0 db.length 3]), (b6, .svs [SN])] ++ yH (wl.map finG))) (List.perm_middle (l₁ := [(b7, Blk.svs [.os tb 0 db.length 3]), (b6, Blk.svs [SN])]) (a := (tb, Blk.svs (fC eC wl))) (l₂ := yH (wl.map finG))).symm) (St.le.trans hfin ?_)
            refine St.le.trans (St.le_freezeC (c := b7) (j := 0) (b := tb) (off := 0) (len := db.length) (sz := 3) (k := .svs (fC tC R)) (cs := [.os tb 0 db.length 3]) (by rw [find_cons, if_neg (fun h => a1 h.symm), find_cons, if_pos rfl]) (fun h => a1 h) Nat.zero_lt_one rfl (by rw [find_cons, if_pos rfl]) (by rw [Blk.len_svs, ← fC_len (enc := tC) (k := 3) tC_len]; omega) (tF R) (fun j hj => ?_)) ?_
            · rw [getN_take _ _ _ (by rw [Blk.len_svs, ← fC_len (enc := tC) (k := 3) tC_len]; omega), Nat.zero_add]
              exact fC_at (enc := tC) (k := 3) tC_len t0 R j (by omega)
            · rw [del_head, upd_cons, if_pos rfl]
              exact St.le_slist (List.Sublist.refl _)
          have hD := hDO
          repeat' first | (refine SW.seq_k fun K hK => ?_) | ((first | refine SW.region ?_ | refine SW.cond ?_ | refine SW.exit ?_ | refine SW.ret ?_); try simp only [go_sem, hD, hli, true_implies]) | (apply hK; clear hK K) | (clear hK K; apply hK; clear hK K)
          refine retQ_le (S' := ⟨[(6, .fp [.fl db.length 3 (tF R)])], []⟩) ?_ ?_
          · refine St.le.trans (St.le_freezeP (i := 6) (b := b6) (off := 0) (n := 1) (k := .svs [.fl db.length 3 (tF R)]) rfl (by simp [find_cons, hD]) (by exact Nat.le_refl 1)) ?_
            simp only [getN, Blk.get, go_sem, hD]
            exact St.le.trans St.le_drop (St.le_sub (by repeat' (first | exact rfl | exact trivial | constructor)))
          · simp only [resL_tmp, resL_cellE, resC_ok, resL_nil, tupOf, getN, go_sem, hD]
            refine ⟨_, _, hGW, ?_⟩
            rw [← hR]
            show _ = SV.agg [.fl R.length 3 (tF R)]
            rw [hRl]
end Go.Proofs.YtblfodnajpamfaaGreatDoor
namespace Go.Proofs.YtblfodnajpamfaaGreatDoor
open Go Go.Ab Go.Ab.A34 Go.Ab.A15
variable [Gl] [Tabs]
theorem strings_rr (a : List ByteArray) (h : a.length ≤ 1000000) : PCall Tryz.prog 82 [SL a, SL a] (SB true) := by
  refine Call.enter' (N := 26) (rs := [.tmp 4]) Tryz.func82 rfl rfl rfl (by decide) rfl ?_; simp only [argT]; have hD : (0 : Nat) = 0 := rfl
  repeat' first | (refine SW.seq_k fun K hK => ?_) | (refine SW.block ?_) | ((first | refine SW.region ?_ | refine SW.cond ?_ | refine SW.skip ?_); try simp only [go_sem, hD, true_implies]) | (apply hK; clear hK K)
  obtain ⟨I, hI⟩ : ∃ I : Nat → St → Prop, ∀ k S, I k S ↔ (∃ (i : Nat) , k = a.length - i ∧ i ≤ a.length ∧ S = ⟨[(0, SL a), (1, SL a), (5, I64 i)], []⟩) := ⟨fun k S => _, fun _ _ => Iff.rfl⟩
  refine SW.loop' I (a.length) ((hI _ _).2 ⟨0, rfl, Nat.zero_le _, rfl⟩) (by repeat' (first | exact rfl | exact trivial | constructor)) ?_
  intro k S hIn
  obtain ⟨i, rfl, hi, rfl⟩ := (hI _ _).1 hIn
  clear hIn
  have ie : ((i : Nat) : Int).toNat = i := Int.toNat_natCast _
  have i0 : (0 : Int) ≤ ((i : Nat) : Int) := by omega
  by_cases hlt : i < a.length
  · have hli : ((i : Nat) : Int) < (((a.length) : Nat) : Int) := by omega
    have w1 : IntKind.i64.wrap ((i : Int) + 1) = ((i + 1 : Nat) : Int) := by rw [i64_wrap (by omega) (by omega)]; omega
    have fi : sF a i = [Str (a.getD i ⟨#[]⟩)] := rfl
    generalize a.getD i ⟨#[]⟩ = x at *
    have ee : (x.toList == x.toList) = true := barr_eq.2 rfl
    repeat' first | (refine SW.seq_k fun K hK => ?_) | (refine SW.block ?_) | ((first | refine SW.region ?_ | refine SW.regionD (Checked.mixed Tryz.checked) (by kernel_rfl) ?_ | refine SW.cond ?_ | refine SW.skip ?_); try simp only [go_sem, hD, hli, ie, i0, w1, fi, ee, true_implies]) | (apply hK; clear hK K)
    refine Rnd.sub (a.length - (i + 1)) (by omega) ((hI _ _).2 ⟨i + 1, rfl, by omega, rfl⟩) (by repeat' (first | exact rfl | exact trivial | constructor))
  · have hli : ¬ ((i : Nat) : Int) < (((a.length) : Nat) : Int) := by omega
    repeat' first | (refine SW.seq_k fun K hK => ?_) | ((first | refine SW.region ?_ | refine SW.cond ?_ | refine SW.exit ?_ | refine SW.ret ?_); try simp only [go_sem, hD, hli, true_implies]) | (apply hK; clear hK K) | (clear hK K; apply hK; clear hK K)
    refine ret_pure ?_; simp only [resL_tmp, resL_nil, tupOf, go_sem, hD]
theorem rows_rr (r : R3) (h : SzV r.2) : PCall Tryz.prog 83 [.agg (rC r), .agg (rC r)] (SB true) := by
  have c := same_v r.2 r.2 h h
  rw [decide_eq_true rfl] at c
  obtain ⟨a, b⟩ := r
  unfold rC
  simp only at c
  refine Call.enter' (N := 17) (rs := [.tmp 4]) Tryz.func83 rfl rfl rfl (by decide) rfl ?_; simp only [argT]; have hD : (0 : Nat) = 0 := rfl
  repeat' first | (refine SW.seq_k fun K hK => ?_) | ((first | refine SW.region ?_ | refine SW.ret ?_ | refine Call.of_pure (c) ?_ | (refine allF_i fun b hb => ?_; replace hD := And.intro hb hD; clear hb; try simp only [fresh_cons, fresh_nil, and_true, ne_eq, neF] at hD)); try simp only [go_sem, hD, true_implies]) | (apply hK; clear hK K)
  refine ret_pure ?_; simp only [resL_tmp, resL_nil, tupOf, go_sem, hD]
theorem equal_rr (t : Tb) (ha : t.attrs.length ≤ 1000000) (hr : t.rows.length ≤ 1000000) (hs : ∀ r ∈ t.rows, SzV r.2) : PCall Tryz.prog 57 [TB t, TB t] (SB true) := by
  have cs := strings_rr t.attrs ha
  obtain ⟨tn, ta, tr⟩ := t
  simp only at ha hr hs cs
  have ee : (tn.toList == tn.toList) = true := barr_eq.2 rfl
  refine Call.enter' (N := 47) (rs := [.tmp 4]) Tryz.func57 rfl rfl rfl (by decide) rfl ?_; simp only [argT]; have hD : (0 : Nat) = 0 := rfl
  repeat' first | (refine SW.seq_k fun K hK => ?_) | (refine SW.block ?_) | ((first | refine SW.region ?_ | refine SW.cond ?_ | refine SW.skip ?_ | refine Call.of_pure (cs) ?_ | (refine allF_i fun b hb => ?_; replace hD := And.intro hb hD; clear hb; try simp only [fresh_cons, fresh_nil, and_true, ne_eq, neF] at hD)); try simp only [go_sem, hD, true_implies, ee]) | (apply hK; clear hK K)
  obtain ⟨b3, rfl⟩ : ∃ x, x = b := ⟨_, rfl⟩
  obtain ⟨b2, rfl⟩ : ∃ x, x = b := ⟨_, rfl⟩
  have e1 : ¬ b2 = b3 := by simp [hD]
  clear hD
  have hD := And.intro (eq_false e1) (eq_false (Ne.symm e1))
  obtain ⟨I, hI⟩ : ∃ I : Nat → St → Prop, ∀ k S, I k S ↔ (∃ (i : Nat) , k = tr.length - i ∧ i ≤ tr.length ∧ S = ⟨[(2, .op b2 0), (3, .op b3 0), (5, I64 i)], [(b3, .svs [Str tn, SL ta, RL tr]), (b2, .svs [Str tn, SL ta, RL tr])]⟩) := ⟨fun k S => _, fun _ _ => Iff.rfl⟩
  refine SW.loop' I (tr.length) ((hI _ _).2 ⟨0, rfl, Nat.zero_le _, rfl⟩) (by repeat' (first | exact rfl | exact trivial | constructor)) ?_
  intro k S hIn
  obtain ⟨i, rfl, hi, rfl⟩ := (hI _ _).1 hIn
  clear hIn
  have ie : ((i : Nat) : Int).toNat = i := Int.toNat_natCast _
  have i0 : (0 : Int) ≤ ((i : Nat) : Int) := by omega
  by_cases hlt : i < tr.length
  · have hli : ((i : Nat) : Int) < (((tr.length) : Nat) : Int) := by omega
    have w1 : IntKind.i64.wrap ((i : Int) + 1) = ((i + 1 : Nat) : Int) := by rw [i64_wrap (by omega) (by omega)]; omega
    have fi : rF tr i = [I64 (tr.getD i r0).1, VL (tr.getD i r0).2] := rfl
    have c := rows_rr (tr.getD i r0) (hs _ (getD_mem r0 hlt))
    generalize tr.getD i r0 = r at *
    obtain ⟨a, v⟩ := r
    have c2 : PCall Tryz.prog 83 [.agg [I64 a, VL v], .agg [I64 a, VL v]] (SB true) := c
    simp only at fi
    repeat' first | (refine SW.seq_k fun K hK => ?_) | (refine SW.block ?_) | ((first | refine SW.region ?_ | refine SW.regionD (Checked.mixed Tryz.checked) (by kernel_rfl) ?_ | refine SW.cond ?_ | refine SW.skip ?_ | refine ⟨_, c2, ?_⟩); try simp only [go_sem, hD, hli, ie, i0, w1, fi, true_implies]) | (apply hK; clear hK K)
    refine Rnd.sub (tr.length - (i + 1)) (by omega) ((hI _ _).2 ⟨i + 1, rfl, by omega, rfl⟩) (by repeat' (first | exact rfl | exact trivial | constructor))
  · have hli : ¬ ((i : Nat) : Int) < (((tr.length) : Nat) : Int) := by omega
    repeat' first | (refine SW.seq_k fun K hK => ?_) | ((first | refine SW.region ?_ | refine SW.cond ?_ | refine SW.exit ?_ | refine SW.ret ?_); try simp only [go_sem, hD, hli, true_implies]) | (apply hK; clear hK K) | (clear hK K; apply hK; clear hK K)
    refine ret_pure ?_; simp only [resL_tmp, resL_nil, tupOf, go_sem, hD]
theorem equald_rr (R : List Tb) (hn : R.length ≤ 1000000) (h : ∀ t ∈ R, t.attrs.length ≤ 1000000 ∧ t.rows.length ≤ 1000000 ∧ ∀ r ∈ t.rows, SzV r.2) : PCall Tryz.prog 24 [DB R, DB R] (SB true) := by
  refine Call.enter' (N := 32) (rs := [.tmp 4]) Tryz.func24 rfl rfl rfl (by decide) rfl ?_; simp only [argT]; have hD : (0 : Nat) = 0 := rfl
  repeat' first | (refine SW.seq_k fun K hK => ?_) | (refine SW.block ?_) | ((first | refine SW.region ?_ | refine SW.cond ?_ | refine SW.skip ?_ | (refine allF_i fun b hb => ?_; replace hD := And.intro hb hD; clear hb; try simp only [fresh_cons, fresh_nil, and_true, ne_eq, neF] at hD)); try simp only [go_sem, hD, true_implies]) | (apply hK; clear hK K)
  obtain ⟨b3, rfl⟩ : ∃ x, x = b := ⟨_, rfl⟩
  obtain ⟨b2, rfl⟩ : ∃ x, x = b := ⟨_, rfl⟩
  have e1 : ¬ b2 = b3 := by simp [hD]
  clear hD
  have hD := And.intro (eq_false e1) (eq_false (Ne.symm e1))
  obtain ⟨I, hI⟩ : ∃ I : Nat → St → Prop, ∀ k S, I k S ↔ (∃ (i : Nat) , k = R.length - i ∧ i ≤ R.length ∧ S = ⟨[(2, .op b2 0), (3, .op b3 0), (5, I64 i)], [(b3, .svs [TL R]), (b2, .svs [TL R])]⟩) := ⟨fun k S => _, fun _ _ => Iff.rfl⟩
  refine SW.loop' I (R.length) ((hI _ _).2 ⟨0, rfl, Nat.zero_le _, rfl⟩) (by repeat' (first | exact rfl | exact trivial | constructor)) ?_
  intro k S hIn
  obtain ⟨i, rfl, hi, rfl⟩ := (hI _ _).1 hIn
  clear hIn
  have ie : ((i : Nat) : Int).toNat = i := Int.toNat_natCast _
  have i0 : (0 : Int) ≤ ((i : Nat) : Int) := by omega
  by_cases hlt : i < R.length
  · have hli : ((i : Nat) : Int) < (((R.length) : Nat) : Int) := by omega
    have w1 : IntKind.i64.wrap ((i : Int) + 1) = ((i + 1 : Nat) : Int) := by rw [i64_wrap (by omega) (by omega)]; omega
    have ft : tF R i = tC (R.getD i t0) := rfl
    obtain ⟨h1, h2, h3⟩ := h _ (getD_mem' t0 hlt)
    have c := equal_rr (R.getD i t0) h1 h2 h3
    generalize R.getD i t0 = T at *
    obtain ⟨tn, ta, tr⟩ := T
    have c2 : PCall Tryz.prog 57 [.agg [Str tn, SL ta, RL tr], .agg [Str tn, SL ta, RL tr]] (SB true) := c
    repeat' first | (refine SW.seq_k fun K hK => ?_) | (refine SW.block ?_) | ((first | refine SW.region ?_ | refine SW.regionD (Checked.mixed Tryz.checked) (by kernel_rfl) ?_ | refine SW.cond ?_ | refine SW.skip ?_ | refine ⟨_, c2, ?_⟩); try simp only [go_sem, hD, hli, ie, i0, w1, ft, true_implies]) | (apply hK; clear hK K)
    refine Rnd.sub (R.length - (i + 1)) (by omega) ((hI _ _).2 ⟨i + 1, rfl, by omega, rfl⟩) (by repeat' (first | exact rfl | exact trivial | constructor))
  · have hli : ¬ ((i : Nat) : Int) < (((R.length) : Nat) : Int) := by omega
    repeat' first | (refine SW.seq_k fun K hK => ?_) | ((first | refine SW.region ?_ | refine SW.cond ?_ | refine SW.exit ?_ | refine SW.ret ?_); try simp only [go_sem, hD, hli, true_implies]) | (apply hK; clear hK K) | (clear hK K; apply hK; clear hK K)
    refine ret_pure ?_; simp only [resL_tmp, resL_nil, tupOf, go_sem, hD]
end Go.Proofs.YtblfodnajpamfaaGreatDoor
namespace Go.Ab.A15
open Go Go.Ab Go.Ab.A34
def allR : Nat → List (List Int)
  | 0 => [[]]
  | n + 1 => ([0, 1, 2, 3] : List Int).flatMap fun a => (allR n).map (a :: ·)
theorem mem_allR : ∀ {n : Nat} {r : List Int}, r.length = n → (∀ i, 0 ≤ r.getD i 0 ∧ r.getD i 0 ≤ 3) → r ∈ allR n
  | 0, r, h, _ => by
    rw [List.eq_nil_of_length_eq_zero h]
    exact List.mem_cons_self
  | n + 1, [], h, _ => by simp at h
  | n + 1, a :: r, h, hv => by
    unfold allR
    rw [List.mem_flatMap]
    have h0 := hv 0
    rw [List.getD_cons_zero] at h0
    refine ⟨a, ?_, List.mem_map.2 ⟨r, mem_allR (by simpa using h) (fun i => by have := hv (i + 1); rwa [List.getD_cons_succ] at this), rfl⟩⟩
    have : a = 0 ∨ a = 1 ∨ a = 2 ∨ a = 3 := by omega
    rcases this with rfl | rfl | rfl | rfl <;> simp
open Classical in
theorem nodup_of (p : List Int → Prop) : ∀ M : List (List Int), ∃ N : List (List Int), N.Nodup ∧ ∀ x, x ∈ N ↔ x ∈ M ∧ p x
  | [] => ⟨[], List.nodup_nil, fun x => by simp⟩
  | a :: M => by
    obtain ⟨N, h1, h2⟩ := nodup_of p M
    by_cases h : a ∈ N ∨ ¬ p a
    · refine ⟨N, h1, fun x => ?_⟩
      rw [h2, List.mem_cons]
      constructor
      · rintro ⟨a1, a2⟩; exact ⟨.inr a1, a2⟩
      · rintro ⟨rfl | a1, a2⟩
        · rcases h with h | h
          · exact (h2 x).1 h
          · exact absurd a2 h
        · exact ⟨a1, a2⟩
    · have hp : p a := Classical.byContradiction fun q => h (.inr q)
      refine ⟨a :: N, List.nodup_cons.2 ⟨fun q => h (.inl q), h1⟩, fun x => ?_⟩
      rw [List.mem_cons, List.mem_cons, h2]
      constructor
      · rintro (rfl | ⟨a1, a2⟩)
        · exact ⟨.inl rfl, hp⟩
        · exact ⟨.inr a1, a2⟩
      · rintro ⟨rfl | a1, a2⟩
        · exact .inl rfl
        · exact .inr ⟨a1, a2⟩
theorem tot_range (F : Nat → List (List Int)) (h : ∀ s, (F s).length ≤ 64) : ∀ n, tot ((List.range n).map fun s => ((0 : Nat), F s)) ≤ n * 64
  | 0 => by simp [tot]
  | n + 1 => by
    have ih := tot_range F h n
    have := h n
    rw [List.range_succ, List.map_append]
    unfold tot at *
    rw [List.map_append, List.sum_append]
    simp only [List.map_cons, List.map_nil, List.sum_cons, List.sum_nil]
    omega
theorem goodW_ex {db : List Tb} {l : List Dp} {g : Dp} (V : Vall db l g) (h4 : db.length ≤ 4) (ha3 : ∀ t ∈ db, t.attrs.length ≤ 3) (hg3 : g.l.length ≤ 3) : ∃ ws z, GoodW db l g ws z := by
  have hx : ∀ s, ∃ N : List (List Int), N.Nodup ∧ ∀ r, r ∈ N ↔ Cl (nmsOf db) (nsOf db) l g s r := fun s => by
    obtain ⟨N, h1, h2⟩ := nodup_of (Cl (nmsOf db) (nsOf db) l g s) (allR ((nsOf db).getD s 0))
    refine ⟨N, h1, fun r => ?_⟩
    rw [h2]
    refine ⟨fun h => h.2, fun h => ⟨mem_allR h.len fun i => ?_, h⟩⟩
    have := h.val i
    omega
  obtain ⟨F, hF⟩ : ∃ F : Nat → List (List Int), ∀ s, (F s).Nodup ∧ ∀ r, r ∈ F s ↔ Cl (nmsOf db) (nsOf db) l g s r := ⟨fun s => Classical.choose (hx s), fun s => Classical.choose_spec (hx s)⟩
  have h64 : ∀ s, (F s).length ≤ 64 := fun s => by
    have hn : (nsOf db).getD s 0 ≤ 3 := by
      unfold nsOf
      rw [List.getD_eq_getElem?_getD, List.getElem?_map]
      rcases Nat.lt_or_ge s db.length with h | h
      · rw [List.getElem?_eq_getElem h]; exact ha3 _ (List.getElem_mem h)
      · rw [List.getElem?_eq_none h]; exact Nat.zero_le _
    refine rows_bound hn (hF s).1 fun r hr => ?_
    have hc := ((hF s).2 r).1 hr
    exact ⟨hc.len, fun i => by have := hc.val i; omega⟩
  have hg : ∀ s, s < db.length → (((List.range db.length).map fun s => ((0 : Nat), F s)).getD s w0).2 = F s := fun s hs => by rw [getD_range _ _ hs]
  have nl : (nmsOf db).length = db.length := by unfold nmsOf; rw [List.length_map]
  refine ⟨(List.range db.length).map fun s => (0, F s), _, ⟨⟨fun s hs => ?_, fun s hs r hr => ?_, rfl⟩, by simp, ?_, fun d hd r hr => ?_, ?_⟩⟩
  · have hs2 : s < db.length := by simpa using hs
    rw [hg s hs2]
    exact (hF s).1
  · have hs2 : s < db.length := by simpa using hs
    rw [hg s hs2] at hr
    exact ((hF s).2 r).1 hr
  · have h1 := idxN_lt V.g.f
    rw [hg _ (by omega)]
    exact ((hF _).2 _).2 Cl.first
  · have h1 := idxN_lt (V.l d hd).f
    have h2 := idxN_lt (V.l d hd).t
    have hr2 : r ∈ (((List.range db.length).map fun s => ((0 : Nat), F s)).getD (idxN d.f (nmsOf db)) w0).2 := hr
    rw [hg _ (by omega)] at hr2
    show _ ∈ (((List.range db.length).map fun s => ((0 : Nat), F s)).getD (idxN d.t (nmsOf db)) w0).2
    rw [hg _ (by omega)]
    exact ((hF _).2 _).2 (Cl.step d r hd (((hF _).2 _).1 hr2))
  · have := tot_range F h64 db.length
    omega
def totT (R : List Tb) : Nat := (R.map fun t => t.rows.length).sum
theorem totT_take {R : List Tb} {i : Nat} (h : i < R.length) : totT (R.take (i + 1)) = totT (R.take i) + (R.getD i t0).rows.length := by
  unfold totT
  rw [List.take_add_one, List.getElem?_eq_getElem h, List.map_append, List.sum_append, List.getD_eq_getElem?_getD, List.getElem?_eq_getElem h]
  simp only [Option.toList_some, List.map_cons, List.map_nil, List.sum_cons, List.sum_nil, Option.getD_some, Nat.add_zero]
theorem totT_W {db : List Tb} {ws : List Wt} : ∀ i, i ≤ db.length → i ≤ ws.length → totT ((refW db ws).take i) = tot (ws.take i)
  | 0, _, _ => by simp [totT, tot]
  | i + 1, h1, h2 => by
    rw [totT_take (by rw [refW_len]; omega), totT_W i (by omega) (by omega), refW_get (by omega)]
    unfold tot
    rw [List.take_add_one, List.getElem?_eq_getElem (show i < ws.length by omega), List.map_append, List.sum_append]
    have e : ws.getD i w0 = ws[i] := by simp [List.getD_eq_getElem?_getD, show i < ws.length by omega]
    rw [e]
    show _ + (rowsP (srtL ws[i].2) (srtL ws[i].2).length).length = _
    rw [rowsP_len, srt_len]
    simp only [Option.toList_some, List.map_cons, List.map_nil, List.sum_cons, List.sum_nil, Nat.add_zero]
theorem totT_good {db : List Tb} {l : List Dp} {g : Dp} {ws : List Wt} {z : Int} (h : GoodW db l g ws z) : totT (refW db ws) ≤ 400 := by
  have e := totT_W (db := db) (ws := ws) db.length (Nat.le_refl _) (by rw [h.len]; exact Nat.le_refl _)
  rw [List.take_of_length_le (by rw [refW_len]; exact Nat.le_refl _), List.take_of_length_le (by rw [h.len]; exact Nat.le_refl _)] at e
  have h1 := h.wi.z
  have h2 := h.z
  omega
end Go.Ab.A15
namespace Go.Proofs.YtblfodnajpamfaaGreatDoor
open Go Go.Ab Go.Ab.A34 Go.Ab.A15
variable [Gl] [Tabs]
theorem not_f (db : List Tb) (d : Dp) (h : PCall Tryz.prog 23 [DB db, DV d] (SB (hldB db d))) : PCall Tryz.prog 22 [DV d, .fp [TL db]] (SB (!hldB db d)) := by
  generalize hldB db d = z at *
  obtain ⟨df, dl, dt, dr⟩ := d
  refine Call.enter' (N := 8) (rs := [.tmp 3]) Tryz.func22 rfl rfl rfl (by decide) rfl ?_; simp only [argT]; have hD : (0 : Nat) = 0 := rfl
  repeat' first | (refine SW.seq_k fun K hK => ?_) | ((first | refine SW.region ?_ | refine SW.ret ?_ | refine Call.of_pure (h) ?_ | (refine allF_i fun b hb => ?_; replace hD := And.intro hb hD; clear hb; try simp only [fresh_cons, fresh_nil, and_true, ne_eq, neF] at hD)); try simp only [go_sem, hD, true_implies]) | (apply hK; clear hK K)
  refine ret_pure ?_; simp only [resL_tmp, resL_nil, tupOf, go_sem, hD]
theorem rows_f (R : List Tb) (hn : R.length ≤ 1000) (hr : ∀ t ∈ R, t.rows.length ≤ 1000) : PCall Tryz.prog 20 [DB R] (I64 (totT R)) := by
  have htl : ∀ i, i ≤ R.length → totT (R.take i) ≤ i * 1000 := by
    intro i
    induction i with
    | zero => intro _; simp [totT]
    | succ i ih =>
      intro hi
      rw [totT_take (by omega)]
      have := ih (by omega)
      have := hr _ (getD_mem' t0 (show i < R.length by omega))
      omega
  obtain ⟨X, hX⟩ : ∃ X, X = totT R := ⟨_, rfl⟩
  rw [← hX]
  refine Call.enter' (N := 22) (rs := [.tmp 2]) Tryz.func20 rfl rfl rfl (by decide) rfl ?_; simp only [argT]; have hD : (0 : Nat) = 0 := rfl
  repeat' first | (refine SW.seq_k fun K hK => ?_) | (refine SW.block ?_) | ((first | refine SW.region ?_ | (refine allF_i fun b hb => ?_; replace hD := And.intro hb hD; clear hb; try simp only [fresh_cons, fresh_nil, and_true, ne_eq, neF] at hD)); try simp only [go_sem, hD, true_implies]) | (apply hK; clear hK K)
  obtain ⟨b1, rfl⟩ : ∃ x, x = b := ⟨_, rfl⟩
  obtain ⟨I, hI⟩ : ∃ I : Nat → St → Prop, ∀ k S, I k S ↔ (∃ (i : Nat) , k = R.length - i ∧ i ≤ R.length ∧ S = ⟨[(1, .op b1 0), (3, I64 (totT (R.take i))), (4, I64 i)], [(b1, .svs [TL R])]⟩) := ⟨fun k S => _, fun _ _ => Iff.rfl⟩
  refine SW.loop' I (R.length) ((hI _ _).2 ⟨0, rfl, Nat.zero_le _, rfl⟩) (by repeat' (first | exact rfl | exact trivial | constructor)) ?_
  intro k S hIn
  obtain ⟨i, rfl, hi, rfl⟩ := (hI _ _).1 hIn
  clear hIn
  have ie : ((i : Nat) : Int).toNat = i := Int.toNat_natCast _
  have i0 : (0 : Int) ≤ ((i : Nat) : Int) := by omega
  by_cases hlt : i < R.length
  · have hli : ((i : Nat) : Int) < (((R.length) : Nat) : Int) := by omega
    have w1 : IntKind.i64.wrap ((i : Int) + 1) = ((i + 1 : Nat) : Int) := by rw [i64_wrap (by omega) (by omega)]; omega
    have ft : tF R i = tC (R.getD i t0) := rfl
    have h1 := hr _ (getD_mem' t0 hlt)
    have h2 := htl i hi
    have hst := totT_take hlt
    have w2 : IntKind.i64.wrap ((totT (R.take i) : Int) + ((R.getD i t0).rows.length : Int)) = ((totT (R.take (i + 1)) : Nat) : Int) := by rw [i64_wrap (by omega) (by omega)]; omega
    generalize R.getD i t0 = T at *
    obtain ⟨tn, ta, tr⟩ := T
    simp only at w2
    repeat' first | (refine SW.seq_k fun K hK => ?_) | (refine SW.block ?_) | ((first | refine SW.region ?_ | refine SW.cond ?_ | refine SW.skip ?_); try simp only [go_sem, hD, hli, ie, i0, w1, w2, ft, true_implies]) | (apply hK; clear hK K)
    refine Rnd.sub (R.length - (i + 1)) (by omega) ((hI _ _).2 ⟨i + 1, rfl, by omega, rfl⟩) (by repeat' (first | exact rfl | exact trivial | constructor))
  · have hli : ¬ ((i : Nat) : Int) < (((R.length) : Nat) : Int) := by omega
    obtain rfl : i = R.length := by omega
    rw [List.take_length, ← hX]
    repeat' first | (refine SW.seq_k fun K hK => ?_) | ((first | refine SW.region ?_ | refine SW.cond ?_ | refine SW.exit ?_ | refine SW.ret ?_); try simp only [go_sem, hD, hli, true_implies]) | (apply hK; clear hK K) | (clear hK K; apply hK; clear hK K)
    refine ret_pure ?_; simp only [resL_tmp, resL_nil, tupOf, go_sem, hD]
theorem law_refute (d : List Rc) (l : List Lk) (g : Lk) (hd : OkRcs d) (hdl : d.length ≤ 9223372036854775807) (hl : OkKs l) (hg : OkK g) :
    PCall Tryz.prog 5 [RcL d, LkL l, LkV g] (SB true) := by
  have of := of_r d hd hdl
  have aw := awake_c
  obtain ⟨gf, gt, gl, gr⟩ := g
  rcases draft_cases d l with h1 | ⟨h1, h2⟩ | ⟨h1, h5, h0, h3⟩ | ⟨h1, h5, h0, h3⟩
  · rw [ofV_bad h1] at of
    have li := list_nil l
    refine Call.enter' (N := 95) (rs := [.tmp 6]) Tryz.func5 rfl rfl rfl (by decide) rfl ?_; simp only [argT]; have hD : (0 : Nat) = 0 := rfl
    repeat' first | (refine SW.seq_k fun K hK => ?_) | ((first | refine SW.region ?_ | refine SW.cond ?_ | refine SW.ret ?_ | refine Call.of_pure (of) ?_ | refine Call.of_pure (li) ?_ | refine Call.of_pure (aw) ?_ | (refine allF_i fun b hb => ?_; replace hD := And.intro hb hD; clear hb; try simp only [fresh_cons, fresh_nil, and_true, ne_eq, neF] at hD)); try simp only [go_sem, hD, true_implies]) | (apply hK; clear hK K)
    refine ret_pure ?_; simp only [resL_tmp, resL_nil, tupOf, go_sem, hD]
  · rw [ofV_good h1] at of
    have li := list_bad (ofT d) l h2
    generalize ofT d = db at *
    generalize decide (d.length ≤ 3) = D3 at *
    cases D3
    · refine Call.enter' (N := 95) (rs := [.tmp 6]) Tryz.func5 rfl rfl rfl (by decide) rfl ?_; simp only [argT]; have hD : (0 : Nat) = 0 := rfl
      repeat' first | (refine SW.seq_k fun K hK => ?_) | ((first | refine SW.region ?_ | refine SW.cond ?_ | refine SW.ret ?_ | refine Call.of_pure (of) ?_ | refine Call.of_pure (li) ?_ | refine Call.of_pure (aw) ?_ | (refine allF_i fun b hb => ?_; replace hD := And.intro hb hD; clear hb; try simp only [fresh_cons, fresh_nil, and_true, ne_eq, neF] at hD)); try simp only [go_sem, hD, true_implies]) | (apply hK; clear hK K)
      refine ret_pure ?_; simp only [resL_tmp, resL_nil, tupOf, go_sem, hD]
    · refine Call.enter' (N := 95) (rs := [.tmp 6]) Tryz.func5 rfl rfl rfl (by decide) rfl ?_; simp only [argT]; have hD : (0 : Nat) = 0 := rfl
      repeat' first | (refine SW.seq_k fun K hK => ?_) | ((first | refine SW.region ?_ | refine SW.cond ?_ | refine SW.ret ?_ | refine Call.of_pure (of) ?_ | refine Call.of_pure (li) ?_ | refine Call.of_pure (aw) ?_ | (refine allF_i fun b hb => ?_; replace hD := And.intro hb hD; clear hb; try simp only [fresh_cons, fresh_nil, and_true, ne_eq, neF] at hD)); try simp only [go_sem, hD, true_implies]) | (apply hK; clear hK K)
      refine ret_pure ?_; simp only [resL_tmp, resL_nil, tupOf, go_sem, hD]
  · rw [ofV_good h1, decide_eq_false h3] at of
    have Dr := ofT_dra h1
    have h3' := Dr.n3
    have li := list_r (ofT d) l hl h5 h0 (by omega) (dra_at Dr)
    clear Dr
    generalize (l.map (indS (ofT d))) = L at *
    generalize ofT d = db at *
    refine Call.enter' (N := 95) (rs := [.tmp 6]) Tryz.func5 rfl rfl rfl (by decide) rfl ?_; simp only [argT]; have hD : (0 : Nat) = 0 := rfl
    repeat' first | (refine SW.seq_k fun K hK => ?_) | ((first | refine SW.region ?_ | refine SW.cond ?_ | refine SW.ret ?_ | refine Call.of_pure (of) ?_ | refine Call.of_pure (li) ?_ | refine Call.of_pure (aw) ?_ | (refine allF_i fun b hb => ?_; replace hD := And.intro hb hD; clear hb; try simp only [fresh_cons, fresh_nil, and_true, ne_eq, neF] at hD)); try simp only [go_sem, hD, true_implies]) | (apply hK; clear hK K)
    refine ret_pure ?_; simp only [resL_tmp, resL_nil, tupOf, go_sem, hD]
  rw [ofV_good h1, decide_eq_true h3] at of
  have Dr := ofT_dra h1
  have h3' := Dr.n3
  have ha3 := Dr.a3
  have li := list_r (ofT d) l hl h5 h0 (by omega) (dra_at Dr)
  have ig := ind_r (ofT d) ⟨gf, gt, gl, gr⟩ hg h0 (by omega) (dra_at Dr)
  have hf := dra_few Dr h0 l ⟨gf, gt, gl, gr⟩ h5
  have V := dra_vall Dr h0 l ⟨gf, gt, gl, gr⟩
  clear Dr
  generalize indS (ofT d) ⟨gf, gt, gl, gr⟩ = G at *
  generalize (l.map (indS (ofT d))) = L at *
  generalize ofT d = db at *
  have hall := allS_of V (by omega)
  have hS := V.small hf.d4 hf.g3
  have dr := dist_r L G (nmsOf db) hS V.okL hf.ll (by have := hf.r3; omega)
  by_cases hn : findS G.t G.r 0 (states L G) < 0
  · have hneg := (dist_neg (l := L) (g := G)).2 hn
    have rf := refute_no db L G hf hall hn
    obtain ⟨ws, z, hG⟩ := goodW_ex V hf.d4 ha3 hf.g3
    rw [refOut_yes hG] at rf
    have K := ref_k V hG hf.d4 hf.g3 hneg
    have h400 := totT_good hG
    have hR4 : (refW db ws).length ≤ 4 := by rw [K.len]; exact hf.d4
    have hrows : ∀ t ∈ refW db ws, t.rows.length ≤ 1000 ∧ ∀ r ∈ t.rows, SzV r.2 := fun t ht => by
      obtain ⟨i, hi, rfl⟩ := List.mem_map.1 ht
      have hi2 : i < db.length := List.mem_range.1 hi
      have hl1 : (ws.getD i w0).2.length ≤ 400 := by
        have := len_tot (ws := ws) (s := i) (by rw [hG.len]; exact hi2)
        have := hG.wi.z
        have := hG.z
        omega
      refine ⟨by show (rowsP _ _).length ≤ _; rw [rowsP_len, srt_len]; omega, fun r hr => ?_⟩
      obtain ⟨x, hx, e⟩ := rows_mem (Nat.le_refl _) hr
      rw [e]
      have hc := (hG.mem i x).1 ((srt_perm _).mem_iff.1 hx)
      refine szv_nv ?_
      rw [hc.len, ns_at]
      have := ha3 _ (getD_mem' t0 hi2)
      omega
    have rv0 := refuting_r db L G V hf.d4 ha3 hf.g3 hf.ll
    have rv : PCall Tryz.prog 19 [DB db, DpL L, DV G] (DB (refW db ws)) := Call.mono rv0 fun r h' ⟨ws', z', hG', e1, e2⟩ => ⟨by rw [e1, hG.same hG'], e2⟩
    clear rv0
    have eq := equald_rr (refW db ws) (by omega) (fun t ht => ⟨by have := K.at16 t ht; omega, by have := (hrows t ht).1; omega, (hrows t ht).2⟩)
    have rw1 := rows_f (refW db ws) (by omega) (fun t ht => (hrows t ht).1)
    clear hrows hG
    generalize refW db ws = R at *
    have hc := fun x (hx : x ∈ L) => not_f R x (holds_r R x (by omega) K.okd (hf.okl x hx))
    have ct := contF_d 22 [.fp [TL R]] (fun x => !hldB R x) L hf.ll hc
    have hany : L.any (fun x => !hldB R x) = false := by
      rw [List.any_eq_false]
      intro x hx
      rw [K.all x hx]
      simp
    rw [hany] at ct
    have hr := holds_r R G (by omega) K.okd hf.okg
    rw [K.no] at hr
    have hd0 : ¬ 0 ≤ distS L G := by omega
    have h4i : ¬ (400 : Int) < ((totT R : Nat) : Int) := by omega
    clear hc K hany
    generalize distS L G = X at *
    obtain ⟨Gf, Gl', Gt, Gr⟩ := G
    refine Call.enter' (N := 95) (rs := [.tmp 6]) Tryz.func5 rfl rfl rfl (by decide) rfl ?_; simp only [argT]; have hD : (0 : Nat) = 0 := rfl
    repeat' first | ((refine Ab.SW.le (St.le_freezeP (i := 12) (n := 1) rfl (by rw [find_cons, if_pos rfl]) (by exact Nat.le_refl 1)) ?_); (rw [del_head]); (simp only [getN, Blk.get])) | (refine SW.seq_k fun K hK => ?_) | ((first | refine SW.region ?_ | refine SW.cond ?_ | refine SW.skip ?_ | refine SW.ret ?_ | refine Call.of_pure (of) ?_ | refine Call.of_pure (li) ?_ | refine Call.of_pure (aw) ?_ | refine Call.of_pure (ig) ?_ | refine Call.of_pure (rf) ?_ | refine Call.of_pure (dr) ?_ | refine Call.of_pure (rv) ?_ | refine Call.of_pure (rw1) ?_ | refine Call.of_pure (ct) ?_ | refine Call.of_pure (eq) ?_ | refine Call.of_pure (hr) ?_ | (refine allF_i fun b hb => ?_; replace hD := And.intro hb hD; clear hb; try simp only [fresh_cons, fresh_nil, and_true, ne_eq, neF] at hD)); try simp only [go_sem, hD, hd0, h4i, true_implies]) | (apply hK; clear hK K)
    refine ret_pure ?_; simp only [resL_tmp, resL_nil, tupOf, go_sem, hD]
  · have rf := refute_yes db L G hf hall (by omega)
    have hd0 : 0 ≤ distS L G := by
      have := mt (dist_neg (l := L) (g := G)).1 hn
      omega
    generalize distS L G = X at *
    obtain ⟨Gf, Gl', Gt, Gr⟩ := G
    refine Call.enter' (N := 95) (rs := [.tmp 6]) Tryz.func5 rfl rfl rfl (by decide) rfl ?_; simp only [argT]; have hD : (0 : Nat) = 0 := rfl
    repeat' first | (refine SW.seq_k fun K hK => ?_) | ((first | refine SW.region ?_ | refine SW.cond ?_ | refine SW.skip ?_ | refine SW.ret ?_ | refine Call.of_pure (of) ?_ | refine Call.of_pure (li) ?_ | refine Call.of_pure (aw) ?_ | refine Call.of_pure (ig) ?_ | refine Call.of_pure (rf) ?_ | refine Call.of_pure (dr) ?_ | (refine allF_i fun b hb => ?_; replace hD := And.intro hb hD; clear hb; try simp only [fresh_cons, fresh_nil, and_true, ne_eq, neF] at hD)); try simp only [go_sem, hD, hd0, true_implies]) | (apply hK; clear hK K)
    refine ret_pure ?_; simp only [resL_tmp, resL_nil, tupOf, go_sem, hD]
end Go.Proofs.YtblfodnajpamfaaGreatDoor
