/- Several texts in one: SB, L4. -/
import Derived.Test.YtblfodnajpamfaaGreatDoorQ6
import Derived.Test.YtblfodnajpamfaaGreatDoorQ4
set_option linter.unusedSimpArgs false
set_option linter.unusedVariables false
set_option linter.unusedSectionVars false
set_option maxHeartbeats 4000000
set_option maxRecDepth 20000
namespace Go.Ab.A15
open Go Go.Ab Go.Ab.A34
structure Sp where
  g : Lk
  kind : Int
  at_ : Int
  delta : Int
abbrev SpC (s : Sp) : List SV := [U8 s.g.f, U8 s.g.t, UL s.g.l, UL s.g.r, U8 s.kind, U8 s.at_, .sc (.int .i8 s.delta)]
structure OkSp (s : Sp) : Prop where
  g : OkK s.g
  k : 0 ≤ s.kind ∧ s.kind < 256
  a : 0 ≤ s.at_ ∧ s.at_ < 256
  d : -128 ≤ s.delta ∧ s.delta < 128
def SpX (ps : List Int) (ob : Nat) (X : SV) (hX : Heap) : Prop := (ps = [] ∧ X = SN ∧ hX = []) ∨ (∃ pb, ¬ pb = ob ∧ X = .os pb 0 ps.length 1 ∧ hX = [(pb, .svs (ps.map fun x => I64 x))])
theorem cutB_c [Gl] {k : Blk} (m : Nat) (cs : List SV) (hk : k = .svs cs) (hm : m ≤ cs.length) : (cutB k m).cells = cs.take m := by
  subst hk
  unfold cutB
  cases h : Nat.beq m (Blk.svs cs).len with
  | true =>
    rw [Nat.beq_eq] at h
    rw [h]
    exact List.take_length.symm
  | false =>
    have := getN_take (.svs cs) m 0 (by rw [Blk.len_svs]; omega)
    rw [List.drop_zero] at this
    exact this
theorem getN_all [Gl] {C : List SV} (h : C.all single = true) (a n : Nat) (hn : a + n ≤ C.length) : (getN (.svs C) a n).all single = true := by
  rw [getN_take _ _ _ (by rw [Blk.len_svs]; exact hn), List.all_eq_true]
  intro x hx
  exact List.all_eq_true.1 h x (List.mem_of_mem_drop (List.mem_of_mem_take hx))
theorem fin_sp [Gl] {t : List (Nat × SV)} {h : Heap} {b n : Nat} {kb : Blk} {P' : List P2} (ht : look t 4 = .os b 0 n 2) (hk : h.find b = some kb) (hc : kb.cells = fC pC P') (hn : n = P'.length) : (St.mk t h).le ⟨[(4, PL P')], []⟩ := by
  subst hn
  have hl : (fC pC P').length = P'.length * 2 := by rw [← fC_len (enc := pC) (k := 2) pC_len]
  have hkl : kb.len = P'.length * 2 := by rw [← Blk.length_cells, hc, hl]
  refine St.le.trans (St.le_freeze (i := 4) (b := b) (off := 0) (len := P'.length) (sz := 2) (k := kb) ht hk (by omega) (pF P') (fun j hj => ?_)) (St.le.trans St.le_drop (St.le_sub (by repeat' (first | exact rfl | exact trivial | exact int_eq (by omega) | exact int_eq (by (rw [i64_wrap] <;> omega)) | constructor))))
  rw [getN_take _ _ _ (by omega), Nat.zero_add, hc]
  exact fC_at (enc := pC) (k := 2) pC_len p0 P' j hj
theorem fin_x [Gl] {t : List (Nat × SV)} {h : Heap} {ob pb n k m : Nat} {C : List SV} {kb : Blk} {P' : List P2} {l : List Int} (ht : look t 4 = .os ob 0 n 2) (hne : ¬ ob = pb) (ho : h.find ob = some (.svs C)) (hp : h.find pb = some kb) (hkb : kb.cells = l.map fun x => I64 x)
    (hf : ((h.del pb).upd ob (.svs (fC pC P'))).find ob = some (.svs (fC pC P'))) (hx : C.getD (k * 2 + 1) .any = .os pb 0 m 1) (hm : m = l.length) (hl : k * 2 + 1 < C.length) (hC : C.set (k * 2 + 1) (IL l) = fC pC P') (hn : n = P'.length) : (St.mk t h).le ⟨[(4, PL P')], []⟩ := by
  subst hm
  have hkl : kb.len = l.length := by rw [← Blk.length_cells, hkb, List.length_map]
  refine St.le.trans (St.le_freezeC (c := ob) (j := k * 2 + 1) (b := pb) (off := 0) (len := l.length) (sz := 1) (k := kb) ho hne hl hx hp (by omega) (iF l) (fun j hj => ?_)) ?_
  · rw [getN_take _ _ _ (by omega), Nat.zero_add, Nat.mul_one, hkb]
    exact i64s_at hj
  · have e : C.set (k * 2 + 1) (.fl l.length 1 (iF l)) = fC pC P' := hC
    rw [e]
    exact fin_sp ht hf rfl hn
theorem fin_x0 [Gl] {t : List (Nat × SV)} {h : Heap} {ob n k : Nat} {C : List SV} {P' : List P2} (ht : look t 4 = .os ob 0 n 2) (ho : h.find ob = some (.svs C))
    (hf : (h.upd ob (.svs (fC pC P'))).find ob = some (.svs (fC pC P'))) (hx : C.getD (k * 2 + 1) .any = SN) (hl : k * 2 + 1 < C.length) (hC : C.set (k * 2 + 1) (IL []) = fC pC P') (hn : n = P'.length) : (St.mk t h).le ⟨[(4, PL P')], []⟩ := by
  refine St.le.trans (St.le_nilC (c := ob) (j := k * 2 + 1) (sz := 1) (f := iF []) ho hl hx) ?_
  have e : C.set (k * 2 + 1) (.fl 0 1 (iF [])) = fC pC P' := hC
  rw [e]
  exact fin_sp ht hf rfl hn
theorem fin_nil [Gl] {t : List (Nat × SV)} {h : Heap} (ht : look t 4 = SN) : (St.mk t h).le ⟨[(4, PL [])], []⟩ :=
  St.le.trans (St.le_nil_fl (i := 4) (sz := 2) (f := pF []) ht) (St.le_sub (by repeat' (first | exact rfl | exact trivial | exact int_eq (by omega) | exact int_eq (by (rw [i64_wrap] <;> omega)) | constructor)))
theorem cut_cells [Gl] {P : List P2} {k : Nat} {X : SV} (h : k < P.length) : (appB (cutB (.svs (spC P k X)) (k * 2)) (getN (.svs (spC P k X)) ((k + 1) * 2) ((P.length - (k + 1)) * 2))).cells = fC pC (P.take k ++ P.drop (k + 1)) := by
  have sl := spC_len P k X
  rw [appB_cells, cutB_c _ _ rfl (by rw [sl]; omega), getN_take _ _ _ (by rw [Blk.len_svs, sl]; omega)]
  have e : (fC pC (P.drop (k + 1))).take ((P.length - (k + 1)) * 2) = fC pC (P.drop (k + 1)) := List.take_of_length_le (by rw [← fC_len (enc := pC) (k := 2) pC_len, List.length_drop]; omega)
  show (spC P k X).take (k * 2) ++ ((spC P k X).drop ((k + 1) * 2)).take ((P.length - (k + 1)) * 2) = _
  rw [spC_take h, spC_drop h, e]
  unfold fC
  rw [List.flatMap_append]
end Go.Ab.A15
namespace Go.Ab
theorem appX_cut {e sz bytes b len off2 n : Nat} {z : List Value} {d : Option Tmp} {K : St → Prop} {S : St} {k : Blk} (h0 : 0 < off2) (hk : S.h.find b = some k) (h1 : off2 + n * sz ≤ k.len) (h2 : len * sz ≤ k.len) (h3 : (getN k off2 (n * sz)).all single = true) (hz : z.length = sz) (hs : 0 < sz)
    (h4 : (len + n) * bytes ≤ 140737488355328) (h5 : len + n ≤ 140737488355328) (h6 : allF (S.h.del b) fun b' => K ((⟨S.t, S.h.ren b b' (appB (cutB k (len * sz)) (getN k off2 (n * sz)))⟩ : St).put d (.os b' 0 (len + n) sz))) :
    appX (some (e, sz, bytes)) (some z) (.os b 0 len sz) (.os b off2 n sz) d K S := by
  unfold appX
  have hb : sameB (.os b 0 len sz) (.os b off2 n sz) = true := by
    have e : Nat.beq off2 0 = false := by
      cases off2 with
      | zero => omega
      | succ m => rfl
    show (Nat.beq b b && !(Nat.beq off2 0)) = true
    rw [e, Nat.beq_refl]
    rfl
  rw [hb]
  exact ⟨e, sz, bytes, z, n, getN k off2 (n * sz), b, len, k, rfl, rfl, by simp [srcCells, hk], by simp [srcOk, hk, h1], h3, hz, hs, rfl, hk, h2, h4, h5, h6⟩
end Go.Ab
namespace Go.Proofs.YtblfodnajpamfaaGreatDoor
open Go Go.Ab Go.Ab.A34 Go.Ab.A15
variable [Gl] [Tabs]
theorem spoiled_i (P : List P2) (s : Sp) (hP : OkP P) (hs : OkSp s) (hP2 : P.length ≤ 100000 ∧ ∀ p ∈ P, p.2.length ≤ 100000) :
    Ab.Call Tryz.prog 17 [PL P, .agg (SpC s)] [] (fun r h' => ∃ P', OkP P' ∧ r = PL P' ∧ h' = []) := by
  obtain ⟨sg, kind, at_, delta⟩ := s
  have hk : 0 ≤ kind ∧ kind < 256 := hs.k
  have ha : 0 ≤ at_ ∧ at_ < 256 := hs.a
  have hd : -128 ≤ delta ∧ delta < 128 := hs.d
  have hp1 := hP2.1
  obtain ⟨kk, hkk⟩ : ∃ kk : Nat, at_ % ((P.length : Nat) + 1 : Int) = (kk : Int) := ⟨(at_ % ((P.length : Nat) + 1 : Int)).toNat, by have := Int.emod_nonneg at_ (show ((P.length : Nat) + 1 : Int) ≠ 0 by omega); omega⟩
  have hkn : kk ≤ P.length := by have := Int.emod_lt_of_pos at_ (show (0 : Int) < ((P.length : Nat) + 1 : Int) by omega); omega
  have wa : IntKind.i64.wrap at_ = at_ := i64_wrap (by omega) (by omega)
  have wn : IntKind.i64.wrap ((P.length : Nat) + 1 : Int) = ((P.length : Nat) + 1 : Int) := i64_wrap (by omega) (by omega)
  have wm : at_.tmod ((P.length : Nat) + 1 : Int) = (kk : Int) := by rw [Int.tmod_eq_emod_of_nonneg ha.1, hkk]
  have wk : IntKind.i64.wrap (kk : Int) = (kk : Int) := i64_wrap (by omega) (by omega)
  clear hkk
  refine Call.enter' (N := 116) (rs := [.tmp 4]) Tryz.func17 rfl rfl rfl (by decide) rfl ?_; simp only [argT]; have hD : (0 : Nat) = 0 := rfl
  repeat' first | (with_reducible refine And.intro (by omega) ?_) | (refine SW.seq_k fun K hK => ?_) | (refine SW.block ?_) | ((first | refine SW.region ?_ | refine SW.regionD (Checked.mixed Tryz.checked) (by kernel_rfl) ?_ | refine SW.cond ?_ | refine SW.skip ?_ | refine SW.exit ?_ | refine SW.ret ?_ | (refine allF_i fun b hb => ?_; replace hD := And.intro hb hD; clear hb; try simp only [fresh_cons, fresh_nil, and_true, ne_eq, neF] at hD) | simp only [appK, appOsK]); try simp only [go_sem, hD, true_implies]) | (refine And.intro (by omega) ?_) | (refine ifI (fun hc => ?_) (fun hc => ?_) <;> first | (exfalso; omega) | skip) | (apply hK; clear hK K) | (clear hK K; apply hK; clear hK K) | (clear hK K; clear hK K; apply hK; clear hK K) | (clear hK K; clear hK K; clear hK K; apply hK; clear hK K) | (clear hK K; clear hK K; clear hK K; clear hK K; apply hK; clear hK K) | (clear hK K; clear hK K; clear hK K; clear hK K; clear hK K; apply hK; clear hK K)
  obtain ⟨sb, rfl⟩ : ∃ x, x = b := ⟨_, rfl⟩
  refine Ab.SW.le (St.le_freezeP (i := 3) (b := sb) (off := 0) (n := 7) (k := .svs (SpC ⟨sg, kind, at_, delta⟩)) rfl (by simp [find_cons, hD]) (by exact Nat.le_refl 7)) ?_
  rw [del_head]
  simp only [getN, Blk.get, go_sem, hD]
  clear hD
  have hD : (0 : Nat) = 0 := rfl
  obtain ⟨I, hI⟩ : ∃ I : Nat → St → Prop, ∀ k S, I k S ↔ (∃ (i : Nat) (x : SV) (h : Heap), k = P.length - i ∧ i ≤ P.length ∧ ((i = 0 ∧ x = SN ∧ h = []) ∨ (0 < i ∧ i ≤ kk ∧ ∃ ob, x = .os ob 0 i 2 ∧ h = [(ob, .svs (fC pC (P.take i)))]) ∨ (kk < i ∧ ∃ ob X hX, SpX (P.getD kk p0).2 ob X hX ∧ x = .os ob 0 i 2 ∧ h = (ob, .svs (spC (P.take i) kk X)) :: hX)) ∧ S = ⟨[(3, .fp (SpC ⟨sg, kind, at_, delta⟩)), (5, x), (10, PL P), (11, I64 P.length), (12, I64 i)], h⟩) := ⟨fun k S => _, fun _ _ => Iff.rfl⟩
  refine SW.loop' I (P.length) ((hI _ _).2 ⟨0, SN, [], rfl, Nat.zero_le _, .inl ⟨rfl, rfl, rfl⟩, rfl⟩) (by repeat' (first | exact rfl | exact trivial | exact int_eq (by omega) | exact int_eq (by (rw [i64_wrap] <;> omega)) | constructor)) ?_
  intro k S hIn
  obtain ⟨i, x, h, rfl, hi, hB, rfl⟩ := (hI _ _).1 hIn
  clear hIn
  have ie : ((i : Nat) : Int).toNat = i := Int.toNat_natCast _
  have i0 : (0 : Int) ≤ ((i : Nat) : Int) := by omega
  by_cases hlt : i < P.length
  · have hli : ((i : Nat) : Int) < (((P.length) : Nat) : Int) := by omega
    have w1 : IntKind.i64.wrap ((i : Int) + 1) = ((i + 1 : Nat) : Int) := by rw [i64_wrap (by omega) (by omega)]; omega
    have fp : pF P i = pC (P.getD i p0) := rfl
    have hpl := hP2.2 _ (getD_mem' p0 hlt)
    have ba : (i + 1) * 32 ≤ 140737488355328 := by omega
    have hl1 : (fC pC (P.take i)).length = i * 2 := by rw [← fC_len (enc := pC) (k := 2) pC_len, take_len (by omega)]
    have cf := clone_fz (P.getD i p0).2 (by omega)
    have ci := clone_i (P.getD i p0).2 (by omega)
    by_cases hik : i = kk
    · subst hik
      have ht := fun X => spC_this (P := P) (k := i) (X := X) hlt
      have h3 : ∀ X ob hX, SpX (P.getD i p0).2 ob X hX → SpX (P.getD i p0).2 ob X hX := fun _ _ _ h => h
      clear cf
      rcases hB with ⟨rfl, rfl, rfl⟩ | ⟨hi0, _, ob, rfl, rfl⟩ | ⟨hki, _⟩
      · generalize P.getD 0 p0 = p at *
        obtain ⟨q, ps⟩ := p
        simp only at ci hpl ht
        have ht0 : ∀ X, spC (P.take (0 + 1)) 0 X = [I64 q, X] := fun X => by rw [ht]; rfl
        repeat' first | ((refine Call.mono (Call.frameN (h1 := []) ci) ?_); (intro r h' hx); (obtain ⟨h1, rfl, hcl, hnd⟩ := hx); (rcases hcl with ⟨hg0, rfl, rfl⟩ | ⟨ab, rfl, rfl⟩ <;> (simp only [List.nil_append, List.cons_append] at hnd ⊢; have hf := fresh_of_nodup hnd; simp only [fresh_cons, fresh_nil, and_true, ne_eq, neF] at hf; replace hD := And.intro hf hD; clear hf hnd; try simp only [go_sem, hD]))) | (with_reducible refine And.intro (by omega) ?_) | (refine SW.seq_k fun K hK => ?_) | (refine SW.block ?_) | ((first | refine SW.region ?_ | refine SW.regionY [5] (id := 5) (Checked.mixed Tryz.checked) ((.one 3 [3, 4, 5, 6, 7, 8, 9] (.one 4 [4, 5, 6, 7, 8, 9] (.alt 0 false (.alt 1 false (.alt 2 false (.alt 5 true (.one 6 [6, 7, 8, 9] (.alt 7 false (.alt 8 false (.one 9 [9] .done) .nil) .nil)) .nil) (.alt 5 true (.one 2 [2, 6, 7, 8, 9] (.one 6 [6, 7, 8, 9] (.alt 7 false (.alt 8 false (.one 9 [9] .done) .nil) .nil))) .nil)) (.alt 5 true (.one 1 [1, 2, 6, 7, 8, 9] (.one 2 [2, 6, 7, 8, 9] (.one 6 [6, 7, 8, 9] (.alt 7 false (.alt 8 false (.one 9 [9] .done) .nil) .nil)))) .nil)) (.alt 1 false (.alt 0 false (.alt 2 false (.alt 5 true (.one 6 [6, 7, 8, 9] (.alt 7 false (.alt 8 false (.one 9 [9] .done) .nil) .nil)) .nil) (.alt 5 true (.one 2 [2, 6, 7, 8, 9] (.one 6 [6, 7, 8, 9] (.alt 7 false (.alt 8 false (.one 9 [9] .done) .nil) .nil))) .nil)) (.alt 2 false (.alt 0 false (.alt 5 true (.one 6 [6, 7, 8, 9] (.alt 7 false (.alt 8 false (.one 9 [9] .done) .nil) .nil)) .nil) (.alt 5 true (.one 0 [0, 8, 9] (.one 6 [6, 7, 8, 9] (.alt 7 false (.alt 8 false (.one 9 [9] .done) .nil) .nil))) .nil)) (.alt 5 true (.one 0 [0, 8, 9] (.one 2 [2, 6, 7, 8, 9] (.one 6 [6, 7, 8, 9] (.alt 7 false (.alt 8 false (.one 9 [9] .done) .nil) .nil)))) .nil))) (.alt 5 true (.one 0 [0, 8, 9] (.one 1 [1, 2, 6, 7, 8, 9] (.one 2 [2, 6, 7, 8, 9] (.one 6 [6, 7, 8, 9] (.alt 7 false (.alt 8 false (.one 9 [9] .done) .nil) .nil))))) .nil))))) : OY) (by kernel_rfl) ?_ | refine SW.regionZ (id := 15) (Checked.mixed Tryz.checked) ((.one 0 [0, 1, 2, 3, 7, 8, 9, 10] (.one 1 [1, 2, 3, 7, 8, 9, 10] (.one 2 [2, 3, 7, 8, 9, 10] (.one 3 [3, 7, 8, 9, 10] (.one 4 [4, 5, 6, 7, 8, 9, 10] (.one 5 [5, 6, 7, 8, 9, 10] (.one 6 [6, 7, 8, 9, 10] (.one 7 [7, 8, 9, 10] (.one 8 [8, 9, 10] (.one 9 [9, 10] (.alt 10 .done .nil))))))))))) : OZ) (by kernel_rfl) ?_ | refine SW.regionZ (id := 18) (Checked.mixed Tryz.checked) ((.one 0 [0, 1, 2, 3, 4, 5, 9, 10, 11] (.one 1 [1, 2, 3, 4, 5, 9, 10, 11] (.one 2 [2, 3, 4, 5, 9, 10, 11] (.one 3 [3, 4, 5, 9, 10, 11] (.one 4 [4, 5, 9, 10, 11] (.one 5 [5, 9, 10, 11] (.one 6 [6, 7, 8, 9, 10, 11] (.one 7 [7, 8, 9, 10, 11] (.one 8 [8, 9, 10, 11] (.one 9 [9, 10, 11] (.one 10 [10, 11] (.alt 11 .done .nil)))))))))))) : OZ) (by kernel_rfl) ?_ | refine SW.regionZ (id := 22) (Checked.mixed Tryz.checked) ((.one 0 [0, 2, 7, 8] (.one 1 [1, 2, 7, 8] (.one 2 [2, 7, 8] (.one 3 [3, 6, 7, 8] (.one 4 [4, 5, 6, 7, 8] (.one 5 [5, 6, 7, 8] (.one 6 [6, 7, 8] (.alt 7 (.one 8 [8] .done) .nil)))))))) : OZ) (by kernel_rfl) ?_ | refine SW.regionD (Checked.mixed Tryz.checked) (by kernel_rfl) ?_ | refine SW.cond ?_ | refine SW.skip ?_ | refine SW.exit ?_ | refine SW.ret ?_ | (refine allF_i fun b hb => ?_; replace hD := And.intro hb hD; clear hb; try simp only [fresh_cons, fresh_nil, and_true, ne_eq, neF] at hD) | simp only [appK, appOsK]); try simp only [go_sem, hD, hli, ie, i0, w1, fp, ba, true_implies]) | (refine And.intro (by omega) ?_) | (refine ifI (fun hc => ?_) (fun hc => ?_) <;> first | (exfalso; omega) | skip) | (apply hK; clear hK K) | (clear hK K; apply hK; clear hK K) | (clear hK K; clear hK K; apply hK; clear hK K) | (clear hK K; clear hK K; clear hK K; apply hK; clear hK K) | (clear hK K; clear hK K; clear hK K; clear hK K; apply hK; clear hK K) | (clear hK K; clear hK K; clear hK K; clear hK K; clear hK K; apply hK; clear hK K) | (refine And.intro ?_ ?_)
        all_goals first
          | (refine Rnd.le (St.le_slist (List.Sublist.cons_cons _ (List.nil_sublist _))) ?_
             exact Rnd.sub (P.length - (0 + 1)) (by omega) ((hI _ _).2 ⟨0 + 1, _, _, rfl, by omega, .inr (.inr ⟨by omega, b, SN, [], .inl ⟨by assumption, rfl, rfl⟩, rfl, by rw [ht0]⟩), rfl⟩) (by repeat' (first | exact rfl | exact trivial | exact int_eq (by omega) | exact int_eq (by (rw [i64_wrap] <;> omega)) | constructor)))
          | (refine Rnd.le (St.le_pick [(b, .svs [I64 q, .os ab 0 ps.length 1]), (ab, .svs (ps.map fun x => I64 x))] ?_ ?_) (Rnd.sub (P.length - (0 + 1)) (by omega) ((hI _ _).2 ⟨0 + 1, _, _, rfl, by omega, .inr (.inr ⟨by omega, b, .os ab 0 ps.length 1, _, .inr ⟨ab, by simp [hD], rfl, rfl⟩, rfl, by rw [ht0]⟩), rfl⟩) (by repeat' (first | exact rfl | exact trivial | exact int_eq (by omega) | exact int_eq (by (rw [i64_wrap] <;> omega)) | constructor)))
             · repeat' (first | exact (fun x hx => (List.not_mem_nil hx).elim) | refine List.forall_mem_cons.2 ⟨?_, ?_⟩ | exact List.mem_cons_self | apply List.mem_cons_of_mem)
             · simp [fresh_cons, fresh_nil, hD])
      · generalize P.getD i p0 = p at *
        obtain ⟨q, ps⟩ := p
        simp only at ci hpl ht
        generalize fC pC (P.take i) = C at *
        repeat' first | ((refine Call.mono (Call.frameN (h1 := []) ci) ?_); (intro r h' hx); (obtain ⟨h1, rfl, hcl, hnd⟩ := hx); (rcases hcl with ⟨hg0, rfl, rfl⟩ | ⟨ab, rfl, rfl⟩ <;> (simp only [List.nil_append, List.cons_append] at hnd ⊢; have hf := fresh_of_nodup hnd; simp only [fresh_cons, fresh_nil, and_true, ne_eq, neF] at hf; replace hD := And.intro hf hD; clear hf hnd; try simp only [go_sem, hD]))) | (with_reducible refine And.intro (by omega) ?_) | (refine SW.seq_k fun K hK => ?_) | (refine SW.block ?_) | ((first | refine SW.region ?_ | refine SW.regionY [5] (id := 5) (Checked.mixed Tryz.checked) ((.one 3 [3, 4, 5, 6, 7, 8, 9] (.one 4 [4, 5, 6, 7, 8, 9] (.alt 0 false (.alt 1 false (.alt 2 false (.alt 5 true (.one 6 [6, 7, 8, 9] (.alt 7 false (.alt 8 false (.one 9 [9] .done) .nil) .nil)) .nil) (.alt 5 true (.one 2 [2, 6, 7, 8, 9] (.one 6 [6, 7, 8, 9] (.alt 7 false (.alt 8 false (.one 9 [9] .done) .nil) .nil))) .nil)) (.alt 5 true (.one 1 [1, 2, 6, 7, 8, 9] (.one 2 [2, 6, 7, 8, 9] (.one 6 [6, 7, 8, 9] (.alt 7 false (.alt 8 false (.one 9 [9] .done) .nil) .nil)))) .nil)) (.alt 1 false (.alt 0 false (.alt 2 false (.alt 5 true (.one 6 [6, 7, 8, 9] (.alt 7 false (.alt 8 false (.one 9 [9] .done) .nil) .nil)) .nil) (.alt 5 true (.one 2 [2, 6, 7, 8, 9] (.one 6 [6, 7, 8, 9] (.alt 7 false (.alt 8 false (.one 9 [9] .done) .nil) .nil))) .nil)) (.alt 2 false (.alt 0 false (.alt 5 true (.one 6 [6, 7, 8, 9] (.alt 7 false (.alt 8 false (.one 9 [9] .done) .nil) .nil)) .nil) (.alt 5 true (.one 0 [0, 8, 9] (.one 6 [6, 7, 8, 9] (.alt 7 false (.alt 8 false (.one 9 [9] .done) .nil) .nil))) .nil)) (.alt 5 true (.one 0 [0, 8, 9] (.one 2 [2, 6, 7, 8, 9] (.one 6 [6, 7, 8, 9] (.alt 7 false (.alt 8 false (.one 9 [9] .done) .nil) .nil)))) .nil))) (.alt 5 true (.one 0 [0, 8, 9] (.one 1 [1, 2, 6, 7, 8, 9] (.one 2 [2, 6, 7, 8, 9] (.one 6 [6, 7, 8, 9] (.alt 7 false (.alt 8 false (.one 9 [9] .done) .nil) .nil))))) .nil))))) : OY) (by kernel_rfl) ?_ | refine SW.regionZ (id := 15) (Checked.mixed Tryz.checked) ((.one 0 [0, 1, 2, 3, 7, 8, 9, 10] (.one 1 [1, 2, 3, 7, 8, 9, 10] (.one 2 [2, 3, 7, 8, 9, 10] (.one 3 [3, 7, 8, 9, 10] (.one 4 [4, 5, 6, 7, 8, 9, 10] (.one 5 [5, 6, 7, 8, 9, 10] (.one 6 [6, 7, 8, 9, 10] (.one 7 [7, 8, 9, 10] (.one 8 [8, 9, 10] (.one 9 [9, 10] (.alt 10 .done .nil))))))))))) : OZ) (by kernel_rfl) ?_ | refine SW.regionZ (id := 18) (Checked.mixed Tryz.checked) ((.one 0 [0, 1, 2, 3, 4, 5, 9, 10, 11] (.one 1 [1, 2, 3, 4, 5, 9, 10, 11] (.one 2 [2, 3, 4, 5, 9, 10, 11] (.one 3 [3, 4, 5, 9, 10, 11] (.one 4 [4, 5, 9, 10, 11] (.one 5 [5, 9, 10, 11] (.one 6 [6, 7, 8, 9, 10, 11] (.one 7 [7, 8, 9, 10, 11] (.one 8 [8, 9, 10, 11] (.one 9 [9, 10, 11] (.one 10 [10, 11] (.alt 11 .done .nil)))))))))))) : OZ) (by kernel_rfl) ?_ | refine SW.regionZ (id := 22) (Checked.mixed Tryz.checked) ((.one 0 [0, 2, 7, 8] (.one 1 [1, 2, 7, 8] (.one 2 [2, 7, 8] (.one 3 [3, 6, 7, 8] (.one 4 [4, 5, 6, 7, 8] (.one 5 [5, 6, 7, 8] (.one 6 [6, 7, 8] (.alt 7 (.one 8 [8] .done) .nil)))))))) : OZ) (by kernel_rfl) ?_ | refine SW.regionD (Checked.mixed Tryz.checked) (by kernel_rfl) ?_ | refine SW.cond ?_ | refine SW.skip ?_ | refine SW.exit ?_ | refine SW.ret ?_ | (refine allF_i fun b hb => ?_; replace hD := And.intro hb hD; clear hb; try simp only [fresh_cons, fresh_nil, and_true, ne_eq, neF] at hD) | simp only [appK, appOsK]); try simp only [go_sem, hD, hli, ie, i0, w1, fp, ba, hl1, true_implies]) | (refine And.intro (by omega) ?_) | (refine ifI (fun hc => ?_) (fun hc => ?_) <;> first | (exfalso; omega) | skip) | (apply hK; clear hK K) | (clear hK K; apply hK; clear hK K) | (clear hK K; clear hK K; apply hK; clear hK K) | (clear hK K; clear hK K; clear hK K; apply hK; clear hK K) | (clear hK K; clear hK K; clear hK K; clear hK K; apply hK; clear hK K) | (clear hK K; clear hK K; clear hK K; clear hK K; clear hK K; apply hK; clear hK K) | (refine And.intro ?_ ?_)
        all_goals first
          | (refine Rnd.le (St.le_pick [(b, .svs (C ++ [I64 q, SN]))] ?_ ?_) (Rnd.sub (P.length - (i + 1)) (by omega) ((hI _ _).2 ⟨i + 1, _, _, rfl, by omega, .inr (.inr ⟨by omega, b, SN, [], .inl ⟨by assumption, rfl, rfl⟩, rfl, by rw [ht]⟩), rfl⟩) (by repeat' (first | exact rfl | exact trivial | exact int_eq (by omega) | exact int_eq (by (rw [i64_wrap] <;> omega)) | constructor)))
             · repeat' (first | exact (fun x hx => (List.not_mem_nil hx).elim) | refine List.forall_mem_cons.2 ⟨?_, ?_⟩ | exact List.mem_cons_self | apply List.mem_cons_of_mem)
             · simp [fresh_cons, fresh_nil, hD])
          | (refine Rnd.le (St.le_pick [(b, .svs (C ++ [I64 q, .os ab 0 ps.length 1])), (ab, .svs (ps.map fun x => I64 x))] ?_ ?_) (Rnd.sub (P.length - (i + 1)) (by omega) ((hI _ _).2 ⟨i + 1, _, _, rfl, by omega, .inr (.inr ⟨by omega, b, .os ab 0 ps.length 1, _, .inr ⟨ab, by simp [hD], rfl, rfl⟩, rfl, by rw [ht]⟩), rfl⟩) (by repeat' (first | exact rfl | exact trivial | exact int_eq (by omega) | exact int_eq (by (rw [i64_wrap] <;> omega)) | constructor)))
             · repeat' (first | exact (fun x hx => (List.not_mem_nil hx).elim) | refine List.forall_mem_cons.2 ⟨?_, ?_⟩ | exact List.mem_cons_self | apply List.mem_cons_of_mem)
             · simp [fresh_cons, fresh_nil, hD])
      · omega
    · clear ci
      have hts : fC pC (P.take (i + 1)) = fC pC (P.take i) ++ [I64 (P.getD i p0).1, IL (P.getD i p0).2] := by rw [take_snoc hlt, ← fC_snoc]
      have hto := fun X => spC_other (P := P) (k := kk) (X := X) hlt hik
      have hls := fun X => spC_len (P.take i) kk X
      simp only [take_len hi] at hls
      rcases hB with ⟨rfl, rfl, rfl⟩ | ⟨hi0, hik2, ob, rfl, rfl⟩ | ⟨hki, ob, X, hX, hsx, rfl, rfl⟩
      · generalize P.getD 0 p0 = p at *
        obtain ⟨q, ps⟩ := p
        simp only at cf hpl hts
        have ht0 : fC pC (P.take (0 + 1)) = [I64 q, IL ps] := by rw [hts]; rfl
        repeat' first | (with_reducible refine And.intro (by omega) ?_) | (refine SW.seq_k fun K hK => ?_) | (refine SW.block ?_) | ((first | refine SW.region ?_ | refine SW.regionZ (id := 5) (Checked.mixed Tryz.checked) ((.one 0 [0, 8, 9] (.one 1 [1, 2, 6, 7, 8, 9] (.one 2 [2, 6, 7, 8, 9] (.one 3 [3, 4, 5, 6, 7, 8, 9] (.one 4 [4, 5, 6, 7, 8, 9] (.one 5 [5, 6, 7, 8, 9] (.one 6 [6, 7, 8, 9] (.alt 7 (.alt 8 (.one 9 [9] .done) .nil) .nil)))))))) : OZ) (by kernel_rfl) ?_ | refine SW.regionZ (id := 15) (Checked.mixed Tryz.checked) ((.one 0 [0, 1, 2, 3, 7, 8, 9, 10] (.one 1 [1, 2, 3, 7, 8, 9, 10] (.one 2 [2, 3, 7, 8, 9, 10] (.one 3 [3, 7, 8, 9, 10] (.one 4 [4, 5, 6, 7, 8, 9, 10] (.one 5 [5, 6, 7, 8, 9, 10] (.one 6 [6, 7, 8, 9, 10] (.one 7 [7, 8, 9, 10] (.one 8 [8, 9, 10] (.one 9 [9, 10] (.alt 10 .done .nil))))))))))) : OZ) (by kernel_rfl) ?_ | refine SW.regionZ (id := 18) (Checked.mixed Tryz.checked) ((.one 0 [0, 1, 2, 3, 4, 5, 9, 10, 11] (.one 1 [1, 2, 3, 4, 5, 9, 10, 11] (.one 2 [2, 3, 4, 5, 9, 10, 11] (.one 3 [3, 4, 5, 9, 10, 11] (.one 4 [4, 5, 9, 10, 11] (.one 5 [5, 9, 10, 11] (.one 6 [6, 7, 8, 9, 10, 11] (.one 7 [7, 8, 9, 10, 11] (.one 8 [8, 9, 10, 11] (.one 9 [9, 10, 11] (.one 10 [10, 11] (.alt 11 .done .nil)))))))))))) : OZ) (by kernel_rfl) ?_ | refine SW.regionZ (id := 22) (Checked.mixed Tryz.checked) ((.one 0 [0, 2, 7, 8] (.one 1 [1, 2, 7, 8] (.one 2 [2, 7, 8] (.one 3 [3, 6, 7, 8] (.one 4 [4, 5, 6, 7, 8] (.one 5 [5, 6, 7, 8] (.one 6 [6, 7, 8] (.alt 7 (.one 8 [8] .done) .nil)))))))) : OZ) (by kernel_rfl) ?_ | refine SW.regionD (Checked.mixed Tryz.checked) (by kernel_rfl) ?_ | refine SW.cond ?_ | refine SW.skip ?_ | refine SW.exit ?_ | refine SW.ret ?_ | refine Call.of_pure (cf) ?_ | refine ⟨_, cf, ?_⟩ | (refine allF_i fun b hb => ?_; replace hD := And.intro hb hD; clear hb; try simp only [fresh_cons, fresh_nil, and_true, ne_eq, neF] at hD) | simp only [appK, appOsK]); try simp only [go_sem, hD, hli, ie, i0, w1, fp, ba, true_implies]) | (refine And.intro (by omega) ?_) | (refine ifI (fun hc => ?_) (fun hc => ?_) <;> first | (exfalso; omega) | skip) | (apply hK; clear hK K) | (clear hK K; apply hK; clear hK K) | (clear hK K; clear hK K; apply hK; clear hK K) | (clear hK K; clear hK K; clear hK K; apply hK; clear hK K) | (clear hK K; clear hK K; clear hK K; clear hK K; apply hK; clear hK K) | (clear hK K; clear hK K; clear hK K; clear hK K; clear hK K; apply hK; clear hK K) | (refine And.intro ?_ ?_)
        all_goals
          refine Rnd.le (St.le_slist (List.Sublist.cons_cons _ (List.nil_sublist _))) ?_
          exact Rnd.sub (P.length - (0 + 1)) (by omega) ((hI _ _).2 ⟨0 + 1, _, _, rfl, by omega, .inr (.inl ⟨by omega, by omega, b, rfl, by rw [ht0]⟩), rfl⟩) (by repeat' (first | exact rfl | exact trivial | exact int_eq (by omega) | exact int_eq (by (rw [i64_wrap] <;> omega)) | constructor))
      · generalize P.getD i p0 = p at *
        obtain ⟨q, ps⟩ := p
        simp only at cf hpl hts
        generalize fC pC (P.take i) = C at *
        repeat' first | (with_reducible refine And.intro (by omega) ?_) | (refine SW.seq_k fun K hK => ?_) | (refine SW.block ?_) | ((first | refine SW.region ?_ | refine SW.regionZ (id := 5) (Checked.mixed Tryz.checked) ((.one 0 [0, 8, 9] (.one 1 [1, 2, 6, 7, 8, 9] (.one 2 [2, 6, 7, 8, 9] (.one 3 [3, 4, 5, 6, 7, 8, 9] (.one 4 [4, 5, 6, 7, 8, 9] (.one 5 [5, 6, 7, 8, 9] (.one 6 [6, 7, 8, 9] (.alt 7 (.alt 8 (.one 9 [9] .done) .nil) .nil)))))))) : OZ) (by kernel_rfl) ?_ | refine SW.regionZ (id := 15) (Checked.mixed Tryz.checked) ((.one 0 [0, 1, 2, 3, 7, 8, 9, 10] (.one 1 [1, 2, 3, 7, 8, 9, 10] (.one 2 [2, 3, 7, 8, 9, 10] (.one 3 [3, 7, 8, 9, 10] (.one 4 [4, 5, 6, 7, 8, 9, 10] (.one 5 [5, 6, 7, 8, 9, 10] (.one 6 [6, 7, 8, 9, 10] (.one 7 [7, 8, 9, 10] (.one 8 [8, 9, 10] (.one 9 [9, 10] (.alt 10 .done .nil))))))))))) : OZ) (by kernel_rfl) ?_ | refine SW.regionZ (id := 18) (Checked.mixed Tryz.checked) ((.one 0 [0, 1, 2, 3, 4, 5, 9, 10, 11] (.one 1 [1, 2, 3, 4, 5, 9, 10, 11] (.one 2 [2, 3, 4, 5, 9, 10, 11] (.one 3 [3, 4, 5, 9, 10, 11] (.one 4 [4, 5, 9, 10, 11] (.one 5 [5, 9, 10, 11] (.one 6 [6, 7, 8, 9, 10, 11] (.one 7 [7, 8, 9, 10, 11] (.one 8 [8, 9, 10, 11] (.one 9 [9, 10, 11] (.one 10 [10, 11] (.alt 11 .done .nil)))))))))))) : OZ) (by kernel_rfl) ?_ | refine SW.regionZ (id := 22) (Checked.mixed Tryz.checked) ((.one 0 [0, 2, 7, 8] (.one 1 [1, 2, 7, 8] (.one 2 [2, 7, 8] (.one 3 [3, 6, 7, 8] (.one 4 [4, 5, 6, 7, 8] (.one 5 [5, 6, 7, 8] (.one 6 [6, 7, 8] (.alt 7 (.one 8 [8] .done) .nil)))))))) : OZ) (by kernel_rfl) ?_ | refine SW.regionD (Checked.mixed Tryz.checked) (by kernel_rfl) ?_ | refine SW.cond ?_ | refine SW.skip ?_ | refine SW.exit ?_ | refine SW.ret ?_ | refine Call.of_pure (cf) ?_ | refine ⟨_, cf, ?_⟩ | (refine allF_i fun b hb => ?_; replace hD := And.intro hb hD; clear hb; try simp only [fresh_cons, fresh_nil, and_true, ne_eq, neF] at hD) | simp only [appK, appOsK]); try simp only [go_sem, hD, hli, ie, i0, w1, fp, ba, hl1, true_implies]) | (refine And.intro (by omega) ?_) | (refine ifI (fun hc => ?_) (fun hc => ?_) <;> first | (exfalso; omega) | skip) | (apply hK; clear hK K) | (clear hK K; apply hK; clear hK K) | (clear hK K; clear hK K; apply hK; clear hK K) | (clear hK K; clear hK K; clear hK K; apply hK; clear hK K) | (clear hK K; clear hK K; clear hK K; clear hK K; apply hK; clear hK K) | (clear hK K; clear hK K; clear hK K; clear hK K; clear hK K; apply hK; clear hK K) | (refine And.intro ?_ ?_)
        all_goals
          refine Rnd.le (St.le_pick [(b, .svs (C ++ [I64 q, IL ps]))] ?_ ?_) (Rnd.sub (P.length - (i + 1)) (by omega) ((hI _ _).2 ⟨i + 1, _, _, rfl, by omega, .inr (.inl ⟨by omega, by omega, b, rfl, by rw [hts]⟩), rfl⟩) (by repeat' (first | exact rfl | exact trivial | exact int_eq (by omega) | exact int_eq (by (rw [i64_wrap] <;> omega)) | constructor)))
          · repeat' (first | exact (fun x hx => (List.not_mem_nil hx).elim) | refine List.forall_mem_cons.2 ⟨?_, ?_⟩ | exact List.mem_cons_self | apply List.mem_cons_of_mem)
          · simp [fresh_cons, fresh_nil, hD]
      · have ba : (i + 1) * 32 ≤ 140737488355328 := by omega
        have hl2 := hls X
        have ht2 := hto X
        generalize P.getD i p0 = p at *
        obtain ⟨q, ps⟩ := p
        simp only at cf hpl ht2
        rcases hsx with ⟨h0, rfl, rfl⟩ | ⟨pb, hpb, rfl, rfl⟩
        · clear hls hto hts
          generalize hC : spC (P.take i) kk SN = C at *
          clear hC
          repeat' first | (with_reducible refine And.intro (by omega) ?_) | (refine SW.seq_k fun K hK => ?_) | (refine SW.block ?_) | ((first | refine SW.region ?_ | refine SW.regionZ (id := 5) (Checked.mixed Tryz.checked) ((.one 0 [0, 8, 9] (.one 1 [1, 2, 6, 7, 8, 9] (.one 2 [2, 6, 7, 8, 9] (.one 3 [3, 4, 5, 6, 7, 8, 9] (.one 4 [4, 5, 6, 7, 8, 9] (.one 5 [5, 6, 7, 8, 9] (.one 6 [6, 7, 8, 9] (.alt 7 (.alt 8 (.one 9 [9] .done) .nil) .nil)))))))) : OZ) (by kernel_rfl) ?_ | refine SW.regionZ (id := 15) (Checked.mixed Tryz.checked) ((.one 0 [0, 1, 2, 3, 7, 8, 9, 10] (.one 1 [1, 2, 3, 7, 8, 9, 10] (.one 2 [2, 3, 7, 8, 9, 10] (.one 3 [3, 7, 8, 9, 10] (.one 4 [4, 5, 6, 7, 8, 9, 10] (.one 5 [5, 6, 7, 8, 9, 10] (.one 6 [6, 7, 8, 9, 10] (.one 7 [7, 8, 9, 10] (.one 8 [8, 9, 10] (.one 9 [9, 10] (.alt 10 .done .nil))))))))))) : OZ) (by kernel_rfl) ?_ | refine SW.regionZ (id := 18) (Checked.mixed Tryz.checked) ((.one 0 [0, 1, 2, 3, 4, 5, 9, 10, 11] (.one 1 [1, 2, 3, 4, 5, 9, 10, 11] (.one 2 [2, 3, 4, 5, 9, 10, 11] (.one 3 [3, 4, 5, 9, 10, 11] (.one 4 [4, 5, 9, 10, 11] (.one 5 [5, 9, 10, 11] (.one 6 [6, 7, 8, 9, 10, 11] (.one 7 [7, 8, 9, 10, 11] (.one 8 [8, 9, 10, 11] (.one 9 [9, 10, 11] (.one 10 [10, 11] (.alt 11 .done .nil)))))))))))) : OZ) (by kernel_rfl) ?_ | refine SW.regionZ (id := 22) (Checked.mixed Tryz.checked) ((.one 0 [0, 2, 7, 8] (.one 1 [1, 2, 7, 8] (.one 2 [2, 7, 8] (.one 3 [3, 6, 7, 8] (.one 4 [4, 5, 6, 7, 8] (.one 5 [5, 6, 7, 8] (.one 6 [6, 7, 8] (.alt 7 (.one 8 [8] .done) .nil)))))))) : OZ) (by kernel_rfl) ?_ | refine SW.regionD (Checked.mixed Tryz.checked) (by kernel_rfl) ?_ | refine SW.cond ?_ | refine SW.skip ?_ | refine SW.exit ?_ | refine SW.ret ?_ | refine Call.of_pure (cf) ?_ | refine ⟨_, cf, ?_⟩ | (refine allF_i fun b hb => ?_; replace hD := And.intro hb hD; clear hb; try simp only [fresh_cons, fresh_nil, and_true, ne_eq, neF] at hD) | simp only [appK, appOsK]); try simp only [go_sem, hD, hli, ie, i0, w1, fp, ba, hl2, true_implies]) | (refine And.intro (by omega) ?_) | (refine ifI (fun hc => ?_) (fun hc => ?_) <;> first | (exfalso; omega) | skip) | (apply hK; clear hK K) | (clear hK K; apply hK; clear hK K) | (clear hK K; clear hK K; apply hK; clear hK K) | (clear hK K; clear hK K; clear hK K; apply hK; clear hK K) | (clear hK K; clear hK K; clear hK K; clear hK K; apply hK; clear hK K) | (clear hK K; clear hK K; clear hK K; clear hK K; clear hK K; apply hK; clear hK K) | (refine And.intro ?_ ?_)
          all_goals
            refine Rnd.le (St.le_pick [(b, .svs (C ++ [I64 q, IL ps]))] ?_ ?_) (Rnd.sub (P.length - (i + 1)) (by omega) ((hI _ _).2 ⟨i + 1, _, _, rfl, by omega, .inr (.inr ⟨by omega, b, SN, [], .inl ⟨h0, rfl, rfl⟩, rfl, by rw [ht2]⟩), rfl⟩) (by repeat' (first | exact rfl | exact trivial | exact int_eq (by omega) | exact int_eq (by (rw [i64_wrap] <;> omega)) | constructor)))
            · repeat' (first | exact (fun x hx => (List.not_mem_nil hx).elim) | refine List.forall_mem_cons.2 ⟨?_, ?_⟩ | exact List.mem_cons_self | apply List.mem_cons_of_mem)
            · simp [fresh_cons, fresh_nil, hD]
        · clear hls hto hts
          have hD := And.intro (eq_false hpb) (eq_false (Ne.symm hpb))
          generalize hY : SV.os pb 0 (P.getD kk p0).2.length 1 = Y at *
          generalize hC : spC (P.take i) kk Y = C at *
          clear hC
          repeat' first | (with_reducible refine And.intro (by omega) ?_) | (refine SW.seq_k fun K hK => ?_) | (refine SW.block ?_) | ((first | refine SW.region ?_ | refine SW.regionZ (id := 5) (Checked.mixed Tryz.checked) ((.one 0 [0, 8, 9] (.one 1 [1, 2, 6, 7, 8, 9] (.one 2 [2, 6, 7, 8, 9] (.one 3 [3, 4, 5, 6, 7, 8, 9] (.one 4 [4, 5, 6, 7, 8, 9] (.one 5 [5, 6, 7, 8, 9] (.one 6 [6, 7, 8, 9] (.alt 7 (.alt 8 (.one 9 [9] .done) .nil) .nil)))))))) : OZ) (by kernel_rfl) ?_ | refine SW.regionZ (id := 15) (Checked.mixed Tryz.checked) ((.one 0 [0, 1, 2, 3, 7, 8, 9, 10] (.one 1 [1, 2, 3, 7, 8, 9, 10] (.one 2 [2, 3, 7, 8, 9, 10] (.one 3 [3, 7, 8, 9, 10] (.one 4 [4, 5, 6, 7, 8, 9, 10] (.one 5 [5, 6, 7, 8, 9, 10] (.one 6 [6, 7, 8, 9, 10] (.one 7 [7, 8, 9, 10] (.one 8 [8, 9, 10] (.one 9 [9, 10] (.alt 10 .done .nil))))))))))) : OZ) (by kernel_rfl) ?_ | refine SW.regionZ (id := 18) (Checked.mixed Tryz.checked) ((.one 0 [0, 1, 2, 3, 4, 5, 9, 10, 11] (.one 1 [1, 2, 3, 4, 5, 9, 10, 11] (.one 2 [2, 3, 4, 5, 9, 10, 11] (.one 3 [3, 4, 5, 9, 10, 11] (.one 4 [4, 5, 9, 10, 11] (.one 5 [5, 9, 10, 11] (.one 6 [6, 7, 8, 9, 10, 11] (.one 7 [7, 8, 9, 10, 11] (.one 8 [8, 9, 10, 11] (.one 9 [9, 10, 11] (.one 10 [10, 11] (.alt 11 .done .nil)))))))))))) : OZ) (by kernel_rfl) ?_ | refine SW.regionZ (id := 22) (Checked.mixed Tryz.checked) ((.one 0 [0, 2, 7, 8] (.one 1 [1, 2, 7, 8] (.one 2 [2, 7, 8] (.one 3 [3, 6, 7, 8] (.one 4 [4, 5, 6, 7, 8] (.one 5 [5, 6, 7, 8] (.one 6 [6, 7, 8] (.alt 7 (.one 8 [8] .done) .nil)))))))) : OZ) (by kernel_rfl) ?_ | refine SW.regionD (Checked.mixed Tryz.checked) (by kernel_rfl) ?_ | refine SW.cond ?_ | refine SW.skip ?_ | refine SW.exit ?_ | refine SW.ret ?_ | refine Call.of_pure (cf) ?_ | refine ⟨_, cf, ?_⟩ | (refine allF_i fun b hb => ?_; replace hD := And.intro hb hD; clear hb; try simp only [fresh_cons, fresh_nil, and_true, ne_eq, neF] at hD) | simp only [appK, appOsK]); try simp only [go_sem, hD, hli, ie, i0, w1, fp, ba, hl2, true_implies]) | (refine And.intro (by omega) ?_) | (refine ifI (fun hc => ?_) (fun hc => ?_) <;> first | (exfalso; omega) | skip) | (apply hK; clear hK K) | (clear hK K; apply hK; clear hK K) | (clear hK K; clear hK K; apply hK; clear hK K) | (clear hK K; clear hK K; clear hK K; apply hK; clear hK K) | (clear hK K; clear hK K; clear hK K; clear hK K; apply hK; clear hK K) | (clear hK K; clear hK K; clear hK K; clear hK K; clear hK K; apply hK; clear hK K) | (refine And.intro ?_ ?_)
          all_goals
            refine Rnd.le (St.le_pick [(b, .svs (C ++ [I64 q, IL ps])), (pb, .svs ((P.getD kk p0).2.map fun x => I64 x))] ?_ ?_) (Rnd.sub (P.length - (i + 1)) (by omega) ((hI _ _).2 ⟨i + 1, _, _, rfl, by omega, .inr (.inr ⟨by omega, b, Y, _, .inr ⟨pb, by simp [hD], hY.symm, rfl⟩, rfl, by rw [ht2]⟩), rfl⟩) (by repeat' (first | exact rfl | exact trivial | exact int_eq (by omega) | exact int_eq (by (rw [i64_wrap] <;> omega)) | constructor)))
            · repeat' (first | exact (fun x hx => (List.not_mem_nil hx).elim) | refine List.forall_mem_cons.2 ⟨?_, ?_⟩ | exact List.mem_cons_self | apply List.mem_cons_of_mem)
            · simp [fresh_cons, fresh_nil, hD]
  · have hli : ¬ ((i : Nat) : Int) < (((P.length) : Nat) : Int) := by omega
    obtain rfl : i = P.length := by omega
    rw [List.take_length] at hB
    clear hI
    rcases hB with ⟨h0, rfl, rfl⟩ | ⟨hi0, hik, ob, rfl, rfl⟩ | ⟨hki, ob, X, hX, hsx, rfl, rfl⟩
    · obtain rfl : P = [] := List.eq_nil_of_length_eq_zero h0
      obtain rfl : kk = 0 := by simpa using hkn
      simp only [List.length_nil, Int.natCast_zero, Int.zero_add] at wn wm
      have w01 : IntKind.i64.wrap (0 + 1) = 1 := by decide
      have n10 : ¬ (1 : Int) = 0 := by decide
      repeat' first | (with_reducible refine And.intro (by omega) ?_) | (refine SW.seq_k fun K hK => ?_) | (refine SW.block ?_) | ((first | refine SW.region ?_ | refine SW.regionZ (id := 5) (Checked.mixed Tryz.checked) ((.one 0 [0, 8, 9] (.one 1 [1, 2, 6, 7, 8, 9] (.one 2 [2, 6, 7, 8, 9] (.one 3 [3, 4, 5, 6, 7, 8, 9] (.one 4 [4, 5, 6, 7, 8, 9] (.one 5 [5, 6, 7, 8, 9] (.one 6 [6, 7, 8, 9] (.alt 7 (.alt 8 (.one 9 [9] .done) .nil) .nil)))))))) : OZ) (by kernel_rfl) ?_ | refine SW.regionZ (id := 15) (Checked.mixed Tryz.checked) ((.one 0 [0, 1, 2, 3, 7, 8, 9, 10] (.one 1 [1, 2, 3, 7, 8, 9, 10] (.one 2 [2, 3, 7, 8, 9, 10] (.one 3 [3, 7, 8, 9, 10] (.one 4 [4, 5, 6, 7, 8, 9, 10] (.one 5 [5, 6, 7, 8, 9, 10] (.one 6 [6, 7, 8, 9, 10] (.one 7 [7, 8, 9, 10] (.one 8 [8, 9, 10] (.one 9 [9, 10] (.alt 10 .done .nil))))))))))) : OZ) (by kernel_rfl) ?_ | refine SW.regionZ (id := 18) (Checked.mixed Tryz.checked) ((.one 0 [0, 1, 2, 3, 4, 5, 9, 10, 11] (.one 1 [1, 2, 3, 4, 5, 9, 10, 11] (.one 2 [2, 3, 4, 5, 9, 10, 11] (.one 3 [3, 4, 5, 9, 10, 11] (.one 4 [4, 5, 9, 10, 11] (.one 5 [5, 9, 10, 11] (.one 6 [6, 7, 8, 9, 10, 11] (.one 7 [7, 8, 9, 10, 11] (.one 8 [8, 9, 10, 11] (.one 9 [9, 10, 11] (.one 10 [10, 11] (.alt 11 .done .nil)))))))))))) : OZ) (by kernel_rfl) ?_ | refine SW.regionZ (id := 22) (Checked.mixed Tryz.checked) ((.one 0 [0, 2, 7, 8] (.one 1 [1, 2, 7, 8] (.one 2 [2, 7, 8] (.one 3 [3, 6, 7, 8] (.one 4 [4, 5, 6, 7, 8] (.one 5 [5, 6, 7, 8] (.one 6 [6, 7, 8] (.alt 7 (.one 8 [8] .done) .nil)))))))) : OZ) (by kernel_rfl) ?_ | refine SW.regionD (Checked.mixed Tryz.checked) (by kernel_rfl) ?_ | refine SW.cond ?_ | refine SW.skip ?_ | refine SW.exit ?_ | refine SW.ret ?_ | (refine allF_i fun b hb => ?_; replace hD := And.intro hb hD; clear hb; try simp only [fresh_cons, fresh_nil, and_true, ne_eq, neF] at hD) | simp only [appK, appOsK]); try simp only [go_sem, hD, hli, wa, wn, wm, wk, w01, n10, true_implies]) | (refine And.intro (by omega) ?_) | (refine ifI (fun hc => ?_) (fun hc => ?_) <;> first | (exfalso; omega) | skip) | (apply hK; clear hK K) | (clear hK K; apply hK; clear hK K) | (clear hK K; clear hK K; apply hK; clear hK K) | (clear hK K; clear hK K; clear hK K; apply hK; clear hK K) | (clear hK K; clear hK K; clear hK K; clear hK K; apply hK; clear hK K) | (clear hK K; clear hK K; clear hK K; clear hK K; clear hK K; apply hK; clear hK K) | (refine And.intro ?_ ?_)
      all_goals first
        | (refine retQ_le (fin_nil rfl) ?_
           simp only [resL_tmp, resL_nil, tupOf, go_sem, hD]
           first | exact ⟨[], hP, rfl⟩ | exact ⟨[], hP, rfl, rfl⟩)
        | (rename_i pb tb
           refine retQ_le (fin_x (k := 0) (ob := b) (pb := pb) (P' := [(IntKind.i64.wrap delta, [0])]) (l := [0]) rfl (by simp [hD]) (by rw [find_cons, if_pos rfl]) (show Heap.find _ _ = some (.svs [.sc (.int .i64 0)]) by simp [find_cons, hD]) rfl (by simp [find_cons, del_cons, upd_cons, hD]) rfl rfl (by simp) rfl rfl) ?_
           simp only [resL_tmp, resL_nil, tupOf, go_sem, hD]
           exact ⟨_, ⟨by simp, fun p hp => by obtain rfl := List.mem_singleton.1 hp; simp⟩, rfl⟩)
        | (rw [w01]; decide)
    · obtain rfl : kk = P.length := by omega
      have hcl : (fC pC P).length = P.length * 2 := by rw [← fC_len (enc := pC) (k := 2) pC_len]
      have ba : (P.length + 1) * 32 ≤ 140737488355328 := by omega
      repeat' first | (with_reducible refine And.intro (by omega) ?_) | (refine SW.seq_k fun K hK => ?_) | (refine SW.block ?_) | ((first | refine SW.region ?_ | refine SW.regionZ (id := 5) (Checked.mixed Tryz.checked) ((.one 0 [0, 8, 9] (.one 1 [1, 2, 6, 7, 8, 9] (.one 2 [2, 6, 7, 8, 9] (.one 3 [3, 4, 5, 6, 7, 8, 9] (.one 4 [4, 5, 6, 7, 8, 9] (.one 5 [5, 6, 7, 8, 9] (.one 6 [6, 7, 8, 9] (.alt 7 (.alt 8 (.one 9 [9] .done) .nil) .nil)))))))) : OZ) (by kernel_rfl) ?_ | refine SW.regionZ (id := 15) (Checked.mixed Tryz.checked) ((.one 0 [0, 1, 2, 3, 7, 8, 9, 10] (.one 1 [1, 2, 3, 7, 8, 9, 10] (.one 2 [2, 3, 7, 8, 9, 10] (.one 3 [3, 7, 8, 9, 10] (.one 4 [4, 5, 6, 7, 8, 9, 10] (.one 5 [5, 6, 7, 8, 9, 10] (.one 6 [6, 7, 8, 9, 10] (.one 7 [7, 8, 9, 10] (.one 8 [8, 9, 10] (.one 9 [9, 10] (.alt 10 .done .nil))))))))))) : OZ) (by kernel_rfl) ?_ | refine SW.regionZ (id := 18) (Checked.mixed Tryz.checked) ((.one 0 [0, 1, 2, 3, 4, 5, 9, 10, 11] (.one 1 [1, 2, 3, 4, 5, 9, 10, 11] (.one 2 [2, 3, 4, 5, 9, 10, 11] (.one 3 [3, 4, 5, 9, 10, 11] (.one 4 [4, 5, 9, 10, 11] (.one 5 [5, 9, 10, 11] (.one 6 [6, 7, 8, 9, 10, 11] (.one 7 [7, 8, 9, 10, 11] (.one 8 [8, 9, 10, 11] (.one 9 [9, 10, 11] (.one 10 [10, 11] (.alt 11 .done .nil)))))))))))) : OZ) (by kernel_rfl) ?_ | refine SW.regionZ (id := 22) (Checked.mixed Tryz.checked) ((.one 0 [0, 2, 7, 8] (.one 1 [1, 2, 7, 8] (.one 2 [2, 7, 8] (.one 3 [3, 6, 7, 8] (.one 4 [4, 5, 6, 7, 8] (.one 5 [5, 6, 7, 8] (.one 6 [6, 7, 8] (.alt 7 (.one 8 [8] .done) .nil)))))))) : OZ) (by kernel_rfl) ?_ | refine SW.regionD (Checked.mixed Tryz.checked) (by kernel_rfl) ?_ | refine SW.cond ?_ | refine SW.skip ?_ | refine SW.exit ?_ | refine SW.ret ?_ | (refine allF_i fun b hb => ?_; replace hD := And.intro hb hD; clear hb; try simp only [fresh_cons, fresh_nil, and_true, ne_eq, neF] at hD) | simp only [appK, appOsK]); try simp only [go_sem, hD, hli, wa, wn, wm, wk, hcl, ba, true_implies]) | (refine And.intro (by omega) ?_) | (refine ifI (fun hc => ?_) (fun hc => ?_) <;> first | (exfalso; omega) | skip) | (apply hK; clear hK K) | (clear hK K; apply hK; clear hK K) | (clear hK K; clear hK K; apply hK; clear hK K) | (clear hK K; clear hK K; clear hK K; apply hK; clear hK K) | (clear hK K; clear hK K; clear hK K; clear hK K; apply hK; clear hK K) | (clear hK K; clear hK K; clear hK K; clear hK K; clear hK K; apply hK; clear hK K) | (refine And.intro ?_ ?_)
      all_goals first
        | (refine retQ_le (fin_sp (P' := P) rfl (by rw [find_cons, if_pos rfl]) rfl rfl) ?_
           simp only [resL_tmp, resL_nil, tupOf, go_sem, hD]
           first | exact ⟨P, hP, rfl⟩ | exact ⟨P, hP, rfl, rfl⟩)
        | (rename_i pb tb
           have e1 : (fC pC P ++ [SV.sc (Value.int IntKind.i64 (IntKind.i64.wrap delta)), SV.os pb 0 1 1]).getD (P.length * 2 + 1) .any = SV.os pb 0 1 1 := by
             rw [List.getD_eq_getElem?_getD, List.getElem?_append_right (by omega), hcl, show P.length * 2 + 1 - P.length * 2 = 1 by omega]
             rfl
           have e2 : (fC pC P ++ [SV.sc (Value.int IntKind.i64 (IntKind.i64.wrap delta)), SV.os pb 0 1 1]).set (P.length * 2 + 1) (IL [0]) = fC pC (P ++ [(IntKind.i64.wrap delta, [0])]) := by
             rw [List.set_append, if_neg (by omega), hcl, show P.length * 2 + 1 - P.length * 2 = 1 by omega, ← fC_snoc]
             rfl
           refine retQ_le (fin_x (k := P.length) (ob := b) (pb := pb) (P' := P ++ [(IntKind.i64.wrap delta, [0])]) (l := [0]) rfl (by simp [hD]) (by simp only [find_cons, hD, if_true, if_false]) (show Heap.find _ _ = some (.svs [.sc (.int .i64 0)]) by simp [find_cons, hD]) rfl (by simp [find_cons, del_cons, upd_cons, hD]) e1 rfl (by rw [List.length_append, hcl]; simp) e2 (by simp)) ?_
           simp only [resL_tmp, resL_nil, tupOf, go_sem, hD]
           refine ⟨_, ⟨by rw [List.length_append]; simp; omega, fun p hp => ?_⟩, rfl⟩
           rcases List.mem_append.1 hp with hp | hp
           · exact hP.2 p hp
           · obtain rfl := List.mem_singleton.1 hp
             simp)
    · have hkl : kk < P.length := by omega
      have sl := spC_len P kk X
      have gx := spC_x (X := X) hkl
      have gq := spC_q (X := X) hkl
      have nk : ¬ ((kk : Nat) : Int) = ((P.length : Nat) : Int) := by omega
      have lk : ((kk : Nat) : Int) < ((P.length : Nat) : Int) := by omega
      have pk : (0 : Int) ≤ ((kk : Nat) : Int) := by omega
      have ek : ((kk : Nat) : Int).toNat = kk := Int.toNat_natCast _
      have zk : 0 + kk * 2 = kk * 2 := Nat.zero_add _
      have mk1 : kk * 2 + 1 < P.length * 2 := by omega
      have mk0 : kk * 2 < P.length * 2 := by omega
      have wd : IntKind.i64.wrap delta = delta := i64_wrap (by omega) (by omega)
      have w1 : IntKind.i64.wrap ((kk : Int) + 1) = ((kk + 1 : Nat) : Int) := by rw [i64_wrap (by omega) (by omega)]; omega
      have ek1 : (((kk + 1 : Nat) : Int)).toNat = kk + 1 := Int.toNat_natCast _
      have ek0 : (((kk : Nat) : Int) - 0).toNat = kk := by omega
      have em : (((P.length : Nat) : Int) - ((kk + 1 : Nat) : Int)).toNat = P.length - (kk + 1) := by omega
      have hlq := hP2.2 _ (getD_mem' p0 hkl)
      have hfq := fun (q : Int) (l : List Int) => spC_finq2 (X := X) q l hkl
      have hfl := fun (l : List Int) => spC_fin2 (X := X) l hkl
      have hxq := fun (v : SV) => spC_xq (X := X) v hkl
      have hcut := cut_cells (X := X) hkl
      have hct := spC_take (X := X) hkl
      have hokc := okp_cut (k := kk) hP
      have hoks := fun (q : Int) (l : List Int) h => okp_set (k := kk) (q := q) (l := l) hP h
      have hall := fun h => spC_all (P := P) (k := kk) (X := X) h
      generalize hq : P.getD kk p0 = qq at *
      obtain ⟨q, ps⟩ := qq
      simp only at hlq hfl gq hsx
      have hn1 : ∀ (v : P2), P.length = (P.set kk v).length := fun v => by simp
      have hn2 : kk + (P.length - (kk + 1)) = (P.take kk ++ P.drop (kk + 1)).length := by rw [List.length_append, List.length_take, List.length_drop]; omega
      rcases hsx with ⟨h0, rfl, rfl⟩ | ⟨pb, hpb, rfl, rfl⟩
      · subst h0
        have rn := rev_in
        by_cases hlast : kk + 1 = P.length
        · generalize hC : spC P kk SN = C at *
          clear hC
          have w1 : IntKind.i64.wrap ((kk : Int) + 1) = ((P.length : Nat) : Int) := by rw [w1, hlast]
          repeat' first | ((refine SW.regionM (id := 22) (b := ob) (kk * 2) (Checked.mixed Tryz.checked) ((.one 0 [0, 2, 7, 8] (.one 1 [1, 2, 7, 8] (.one 2 [2, 7, 8] (.one 3 [3, 6, 7, 8] (.one 4 [4, 5, 6, 7, 8] (.one 5 [5, 6, 7, 8] (.one 6 [6, 7, 8] (.alt 7 (.one 8 [8] .done) .nil)))))))) : OZ) (by kernel_rfl) ?_)) | (with_reducible refine And.intro (by omega) ?_) | (refine SW.seq_k fun K hK => ?_) | (refine SW.block ?_) | ((first | refine SW.region ?_ | refine SW.regionZ (id := 5) (Checked.mixed Tryz.checked) ((.one 0 [0, 8, 9] (.one 1 [1, 2, 6, 7, 8, 9] (.one 2 [2, 6, 7, 8, 9] (.one 3 [3, 4, 5, 6, 7, 8, 9] (.one 4 [4, 5, 6, 7, 8, 9] (.one 5 [5, 6, 7, 8, 9] (.one 6 [6, 7, 8, 9] (.alt 7 (.alt 8 (.one 9 [9] .done) .nil) .nil)))))))) : OZ) (by kernel_rfl) ?_ | refine SW.regionZ (id := 15) (Checked.mixed Tryz.checked) ((.one 0 [0, 1, 2, 3, 7, 8, 9, 10] (.one 1 [1, 2, 3, 7, 8, 9, 10] (.one 2 [2, 3, 7, 8, 9, 10] (.one 3 [3, 7, 8, 9, 10] (.one 4 [4, 5, 6, 7, 8, 9, 10] (.one 5 [5, 6, 7, 8, 9, 10] (.one 6 [6, 7, 8, 9, 10] (.one 7 [7, 8, 9, 10] (.one 8 [8, 9, 10] (.one 9 [9, 10] (.alt 10 .done .nil))))))))))) : OZ) (by kernel_rfl) ?_ | refine SW.regionZ (id := 18) (Checked.mixed Tryz.checked) ((.one 0 [0, 1, 2, 3, 4, 5, 9, 10, 11] (.one 1 [1, 2, 3, 4, 5, 9, 10, 11] (.one 2 [2, 3, 4, 5, 9, 10, 11] (.one 3 [3, 4, 5, 9, 10, 11] (.one 4 [4, 5, 9, 10, 11] (.one 5 [5, 9, 10, 11] (.one 6 [6, 7, 8, 9, 10, 11] (.one 7 [7, 8, 9, 10, 11] (.one 8 [8, 9, 10, 11] (.one 9 [9, 10, 11] (.one 10 [10, 11] (.alt 11 .done .nil)))))))))))) : OZ) (by kernel_rfl) ?_ | refine SW.regionZ (id := 22) (Checked.mixed Tryz.checked) ((.one 0 [0, 2, 7, 8] (.one 1 [1, 2, 7, 8] (.one 2 [2, 7, 8] (.one 3 [3, 6, 7, 8] (.one 4 [4, 5, 6, 7, 8] (.one 5 [5, 6, 7, 8] (.one 6 [6, 7, 8] (.alt 7 (.one 8 [8] .done) .nil)))))))) : OZ) (by kernel_rfl) ?_ | refine SW.regionD (Checked.mixed Tryz.checked) (by kernel_rfl) ?_ | refine SW.cond ?_ | refine SW.skip ?_ | refine SW.exit ?_ | refine SW.ret ?_ | refine Call.of_pure (rn) ?_ | refine ⟨_, rn, ?_⟩ | (refine allF_i fun b hb => ?_; replace hD := And.intro hb hD; clear hb; try simp only [fresh_cons, fresh_nil, and_true, ne_eq, neF] at hD) | simp only [appK, appOsK]); try simp only [go_sem, hD, hli, wa, wn, wm, wk, sl, gx, gq, nk, lk, pk, ek, zk, mk1, mk0, wd, w1, ek1, ek0, true_implies]) | (refine And.intro (by omega) ?_) | (refine ifI (fun hc => ?_) (fun hc => ?_) <;> first | (exfalso; omega) | skip) | (apply hK; clear hK K) | (clear hK K; apply hK; clear hK K) | (clear hK K; clear hK K; apply hK; clear hK K) | (clear hK K; clear hK K; clear hK K; apply hK; clear hK K) | (clear hK K; clear hK K; clear hK K; clear hK K; apply hK; clear hK K) | (clear hK K; clear hK K; clear hK K; clear hK K; clear hK K; apply hK; clear hK K) | (refine And.intro ?_ ?_)
          · refine retQ_le (fin_x0 (k := kk) (ob := ob) (C := C.set (kk * 2) (I64 (IntKind.i64.wrap (q + delta)))) (P' := P.set kk (IntKind.i64.wrap (q + delta), [])) rfl (by rw [find_cons, if_pos rfl]) (by simp only [upd_cons, find_cons, if_true]) (hxq _) (by rw [List.length_set, sl]; exact mk1) (hfq _ _) (hn1 _)) ?_
            simp only [resL_tmp, resL_nil, tupOf, go_sem, hD]
            exact ⟨_, hoks _ _ (by simp), rfl⟩
          · refine retQ_le (fin_x0 (k := kk) (ob := ob) (C := C) (P' := P.set kk (q, [])) rfl (by rw [find_cons, if_pos rfl]) (by simp only [upd_cons, find_cons, if_true]) gx (by rw [sl]; exact mk1) (hfl _) (hn1 _)) ?_
            simp only [resL_tmp, resL_nil, tupOf, go_sem, hD]
            exact ⟨_, hoks _ _ (by simp), rfl⟩
          · refine retQ_le (fin_x (k := kk) (ob := ob) (pb := b) (C := C.set (kk * 2 + 1) (.os b 0 1 1)) (l := [0]) (P' := P.set kk (q, [0])) rfl (by simp [hD]) (by simp only [find_cons, hD, if_true, if_false]) (by rw [find_cons, if_pos rfl]) rfl (by simp only [del_cons, upd_cons, find_cons, hD, if_true, if_false]) (by rw [List.getD_eq_getElem?_getD, List.getElem?_set_self (by rw [sl]; exact mk1)]; rfl) rfl (by rw [List.length_set, sl]; exact mk1) (by rw [List.set_set]; exact hfl _) (hn1 _)) ?_
            simp only [resL_tmp, resL_nil, tupOf, go_sem, hD]
            exact ⟨_, hoks _ _ (by simp), rfl⟩
          · iterate 6 (refine vcA_one rfl rfl ?_; simp only [go_sem, hD, upd_cons, wk, ek, ek0, lk, pk, w1, if_true]; repeat (refine And.intro (by omega) ?_))
            refine vcA_tail (e := 88) (b := ob) (off := 0) (n := P.length) (sz := 2) (bytes := 32) (fun _ => []) rfl rfl (show 106 < 116 by decide) rfl slk_41 rfl rfl ?_
            refine vcA_alt rfl rfl ?_
            have tl : (C.take (kk * 2)).length = kk * 2 := by rw [List.length_take, sl]; omega
            have flc : flCells (fun _ => ([] : List SV)) 0 = [] := rfl
            simp only [appK, appOsK, go_sem, hD, flc, tl, if_true]
            refine ⟨by omega, by omega, allF_i fun b hb => ?_⟩
            try simp only [go_sem, hD, if_true]
            refine vcA_one rfl rfl ?_
            try simp only [go_sem, hD, if_true]
            refine vcA_done ?_
            try simp only [go_sem, hD]
            clear hb
            have hD := (rfl : (0 : Nat) = 0)
            repeat' first | (with_reducible refine And.intro (by omega) ?_) | (refine SW.seq_k fun K hK => ?_) | (refine SW.block ?_) | ((first | refine SW.region ?_ | refine SW.regionD (Checked.mixed Tryz.checked) (by kernel_rfl) ?_ | refine SW.cond ?_ | refine SW.skip ?_ | refine SW.exit ?_ | refine SW.ret ?_ | (refine allF_i fun b hb => ?_; replace hD := And.intro hb hD; clear hb; try simp only [fresh_cons, fresh_nil, and_true, ne_eq, neF] at hD) | simp only [appK, appOsK]); try simp only [go_sem, hD]) | (refine And.intro (by omega) ?_) | (refine ifI (fun hc => ?_) (fun hc => ?_) <;> first | (exfalso; omega) | skip) | (apply hK; clear hK K) | (clear hK K; apply hK; clear hK K) | (clear hK K; clear hK K; apply hK; clear hK K) | (clear hK K; clear hK K; clear hK K; apply hK; clear hK K) | (clear hK K; clear hK K; clear hK K; clear hK K; apply hK; clear hK K) | (clear hK K; clear hK K; clear hK K; clear hK K; clear hK K; apply hK; clear hK K)
            refine retQ_le (fin_sp (P' := P.take kk) rfl (by rw [find_cons, if_pos rfl]) (by first | exact hct | (rw [← hct]; simp [Blk.cells])) (by rw [List.length_take]; omega)) ?_
            simp only [resL_tmp, resL_nil, tupOf, go_sem, hD]
            exact ⟨_, okp_take hP, rfl⟩
          · refine retQ_le (fin_x0 (k := kk) (ob := ob) (C := C) (P' := P.set kk (q, [])) rfl (by rw [find_cons, if_pos rfl]) (by simp only [upd_cons, find_cons, if_true]) gx (by rw [sl]; exact mk1) (hfl _) (hn1 _)) ?_
            simp only [resL_tmp, resL_nil, tupOf, go_sem, hD]
            exact ⟨_, hoks _ _ (by simp), rfl⟩
          · refine retQ_le (fin_x0 (k := kk) (ob := ob) (C := C) (P' := P.set kk (q, [])) rfl (by rw [find_cons, if_pos rfl]) (by simp only [upd_cons, find_cons, if_true]) gx (by rw [sl]; exact mk1) (hfl _) (hn1 _)) ?_
            simp only [resL_tmp, resL_nil, tupOf, go_sem, hD]
            exact ⟨_, hoks _ _ (by simp), rfl⟩
        · generalize hC : spC P kk SN = C at *
          clear hC
          have lt1 : ((kk + 1 : Nat) : Int) < ((P.length : Nat) : Int) := by omega
          have le1 : ((kk + 1 : Nat) : Int) ≤ ((P.length : Nat) : Int) := by omega
          have p1 : (0 : Int) ≤ ((kk + 1 : Nat) : Int) := by omega
          have hgall := getN_all (hall rfl) ((kk + 1) * 2) ((P.length - (kk + 1)) * 2) (by rw [sl]; omega)
          repeat' first | ((refine appX_cut (k := .svs C) (by omega) (by rw [find_cons, if_pos rfl]) (by rw [Blk.len_svs, sl]; omega) (by rw [Blk.len_svs, sl]; omega) hgall (by rfl) (by omega) (by omega) (by omega) ?_)) | (with_reducible refine And.intro (by omega) ?_) | (refine SW.seq_k fun K hK => ?_) | (refine SW.block ?_) | ((first | refine SW.region ?_ | refine SW.regionZ (id := 5) (Checked.mixed Tryz.checked) ((.one 0 [0, 8, 9] (.one 1 [1, 2, 6, 7, 8, 9] (.one 2 [2, 6, 7, 8, 9] (.one 3 [3, 4, 5, 6, 7, 8, 9] (.one 4 [4, 5, 6, 7, 8, 9] (.one 5 [5, 6, 7, 8, 9] (.one 6 [6, 7, 8, 9] (.alt 7 (.alt 8 (.one 9 [9] .done) .nil) .nil)))))))) : OZ) (by kernel_rfl) ?_ | refine SW.regionZ (id := 15) (Checked.mixed Tryz.checked) ((.one 0 [0, 1, 2, 3, 7, 8, 9, 10] (.one 1 [1, 2, 3, 7, 8, 9, 10] (.one 2 [2, 3, 7, 8, 9, 10] (.one 3 [3, 7, 8, 9, 10] (.one 4 [4, 5, 6, 7, 8, 9, 10] (.one 5 [5, 6, 7, 8, 9, 10] (.one 6 [6, 7, 8, 9, 10] (.one 7 [7, 8, 9, 10] (.one 8 [8, 9, 10] (.one 9 [9, 10] (.alt 10 .done .nil))))))))))) : OZ) (by kernel_rfl) ?_ | refine SW.regionZ (id := 18) (Checked.mixed Tryz.checked) ((.one 0 [0, 1, 2, 3, 4, 5, 9, 10, 11] (.one 1 [1, 2, 3, 4, 5, 9, 10, 11] (.one 2 [2, 3, 4, 5, 9, 10, 11] (.one 3 [3, 4, 5, 9, 10, 11] (.one 4 [4, 5, 9, 10, 11] (.one 5 [5, 9, 10, 11] (.one 6 [6, 7, 8, 9, 10, 11] (.one 7 [7, 8, 9, 10, 11] (.one 8 [8, 9, 10, 11] (.one 9 [9, 10, 11] (.one 10 [10, 11] (.alt 11 .done .nil)))))))))))) : OZ) (by kernel_rfl) ?_ | refine SW.regionZ (id := 22) (Checked.mixed Tryz.checked) ((.one 0 [0, 2, 7, 8] (.one 1 [1, 2, 7, 8] (.one 2 [2, 7, 8] (.one 3 [3, 6, 7, 8] (.one 4 [4, 5, 6, 7, 8] (.one 5 [5, 6, 7, 8] (.one 6 [6, 7, 8] (.alt 7 (.one 8 [8] .done) .nil)))))))) : OZ) (by kernel_rfl) ?_ | refine SW.regionD (Checked.mixed Tryz.checked) (by kernel_rfl) ?_ | refine SW.cond ?_ | refine SW.skip ?_ | refine SW.exit ?_ | refine SW.ret ?_ | refine Call.of_pure (rn) ?_ | refine ⟨_, rn, ?_⟩ | (refine allF_i fun b hb => ?_; replace hD := And.intro hb hD; clear hb; try simp only [fresh_cons, fresh_nil, and_true, ne_eq, neF] at hD) | simp only [appK, appOsK]); try simp only [go_sem, hD, hli, wa, wn, wm, wk, sl, gx, gq, nk, lk, pk, ek, zk, mk1, mk0, wd, w1, ek1, ek0, em, lt1, le1, p1, true_implies]) | (refine And.intro (by omega) ?_) | (refine ifI (fun hc => ?_) (fun hc => ?_) <;> first | (exfalso; omega) | skip) | (apply hK; clear hK K) | (clear hK K; apply hK; clear hK K) | (clear hK K; clear hK K; apply hK; clear hK K) | (clear hK K; clear hK K; clear hK K; apply hK; clear hK K) | (clear hK K; clear hK K; clear hK K; clear hK K; apply hK; clear hK K) | (clear hK K; clear hK K; clear hK K; clear hK K; clear hK K; apply hK; clear hK K) | (refine And.intro ?_ ?_)
          · refine retQ_le (fin_x0 (k := kk) (ob := ob) (C := C.set (kk * 2) (I64 (IntKind.i64.wrap (q + delta)))) (P' := P.set kk (IntKind.i64.wrap (q + delta), [])) rfl (by rw [find_cons, if_pos rfl]) (by simp only [upd_cons, find_cons, if_true]) (hxq _) (by rw [List.length_set, sl]; exact mk1) (hfq _ _) (hn1 _)) ?_
            simp only [resL_tmp, resL_nil, tupOf, go_sem, hD]
            exact ⟨_, hoks _ _ (by simp), rfl⟩
          · refine retQ_le (fin_x0 (k := kk) (ob := ob) (C := C) (P' := P.set kk (q, [])) rfl (by rw [find_cons, if_pos rfl]) (by simp only [upd_cons, find_cons, if_true]) gx (by rw [sl]; exact mk1) (hfl _) (hn1 _)) ?_
            simp only [resL_tmp, resL_nil, tupOf, go_sem, hD]
            exact ⟨_, hoks _ _ (by simp), rfl⟩
          · refine retQ_le (fin_x (k := kk) (ob := ob) (pb := b) (C := C.set (kk * 2 + 1) (.os b 0 1 1)) (l := [0]) (P' := P.set kk (q, [0])) rfl (by simp [hD]) (by simp only [find_cons, hD, if_true, if_false]) (by rw [find_cons, if_pos rfl]) rfl (by simp only [del_cons, upd_cons, find_cons, hD, if_true, if_false]) (by rw [List.getD_eq_getElem?_getD, List.getElem?_set_self (by rw [sl]; exact mk1)]; rfl) rfl (by rw [List.length_set, sl]; exact mk1) (by rw [List.set_set]; exact hfl _) (hn1 _)) ?_
            simp only [resL_tmp, resL_nil, tupOf, go_sem, hD]
            exact ⟨_, hoks _ _ (by simp), rfl⟩
          · refine retQ_le (fin_sp (P' := P.take kk ++ P.drop (kk + 1)) rfl (by rw [find_cons, if_pos rfl]) hcut hn2) ?_
            simp only [resL_tmp, resL_nil, tupOf, go_sem, hD]
            exact ⟨_, hokc, rfl⟩
          · refine retQ_le (fin_x0 (k := kk) (ob := ob) (C := C) (P' := P.set kk (q, [])) rfl (by rw [find_cons, if_pos rfl]) (by simp only [upd_cons, find_cons, if_true]) gx (by rw [sl]; exact mk1) (hfl _) (hn1 _)) ?_
            simp only [resL_tmp, resL_nil, tupOf, go_sem, hD]
            exact ⟨_, hoks _ _ (by simp), rfl⟩
          · refine retQ_le (fin_x0 (k := kk) (ob := ob) (C := C) (P' := P.set kk (q, [])) rfl (by rw [find_cons, if_pos rfl]) (by simp only [upd_cons, find_cons, if_true]) gx (by rw [sl]; exact mk1) (hfl _) (hn1 _)) ?_
            simp only [resL_tmp, resL_nil, tupOf, go_sem, hD]
            exact ⟨_, hoks _ _ (by simp), rfl⟩
      · cases ps with
        | nil =>
          by_cases hlast : kk + 1 = P.length
          · have hD := And.intro (eq_false hpb) (eq_false (Ne.symm hpb))
            have rp := Call.frameP (p := [(ob, .svs (spC P kk (.os pb 0 ([] : List Int).length 1)))]) (rev_i pb [] (by first | omega | simp))
            generalize hC : spC P kk (.os pb 0 ([] : List Int).length 1) = C at *
            clear hC
            simp only [List.cons_append, List.nil_append] at rp
            have w1 : IntKind.i64.wrap ((kk : Int) + 1) = ((P.length : Nat) : Int) := by rw [w1, hlast]
            repeat' first | ((refine Call.mono rp ?_); (intro rr hh hx); (obtain ⟨h2, rfl, rfl, l2, hl2, rfl⟩ := hx); (try simp only [List.cons_append, List.nil_append]); (try simp only [go_sem, hD])) | ((refine SW.regionM (id := 22) (b := ob) (kk * 2) (Checked.mixed Tryz.checked) ((.one 0 [0, 2, 7, 8] (.one 1 [1, 2, 7, 8] (.one 2 [2, 7, 8] (.one 3 [3, 6, 7, 8] (.one 4 [4, 5, 6, 7, 8] (.one 5 [5, 6, 7, 8] (.one 6 [6, 7, 8] (.alt 7 (.one 8 [8] .done) .nil)))))))) : OZ) (by kernel_rfl) ?_)) | (with_reducible refine And.intro (by omega) ?_) | (refine SW.seq_k fun K hK => ?_) | (refine SW.block ?_) | ((first | refine SW.region ?_ | refine SW.regionZ (id := 5) (Checked.mixed Tryz.checked) ((.one 0 [0, 8, 9] (.one 1 [1, 2, 6, 7, 8, 9] (.one 2 [2, 6, 7, 8, 9] (.one 3 [3, 4, 5, 6, 7, 8, 9] (.one 4 [4, 5, 6, 7, 8, 9] (.one 5 [5, 6, 7, 8, 9] (.one 6 [6, 7, 8, 9] (.alt 7 (.alt 8 (.one 9 [9] .done) .nil) .nil)))))))) : OZ) (by kernel_rfl) ?_ | refine SW.regionZ (id := 15) (Checked.mixed Tryz.checked) ((.one 0 [0, 1, 2, 3, 7, 8, 9, 10] (.one 1 [1, 2, 3, 7, 8, 9, 10] (.one 2 [2, 3, 7, 8, 9, 10] (.one 3 [3, 7, 8, 9, 10] (.one 4 [4, 5, 6, 7, 8, 9, 10] (.one 5 [5, 6, 7, 8, 9, 10] (.one 6 [6, 7, 8, 9, 10] (.one 7 [7, 8, 9, 10] (.one 8 [8, 9, 10] (.one 9 [9, 10] (.alt 10 .done .nil))))))))))) : OZ) (by kernel_rfl) ?_ | refine SW.regionZ (id := 18) (Checked.mixed Tryz.checked) ((.one 0 [0, 1, 2, 3, 4, 5, 9, 10, 11] (.one 1 [1, 2, 3, 4, 5, 9, 10, 11] (.one 2 [2, 3, 4, 5, 9, 10, 11] (.one 3 [3, 4, 5, 9, 10, 11] (.one 4 [4, 5, 9, 10, 11] (.one 5 [5, 9, 10, 11] (.one 6 [6, 7, 8, 9, 10, 11] (.one 7 [7, 8, 9, 10, 11] (.one 8 [8, 9, 10, 11] (.one 9 [9, 10, 11] (.one 10 [10, 11] (.alt 11 .done .nil)))))))))))) : OZ) (by kernel_rfl) ?_ | refine SW.regionZ (id := 22) (Checked.mixed Tryz.checked) ((.one 0 [0, 2, 7, 8] (.one 1 [1, 2, 7, 8] (.one 2 [2, 7, 8] (.one 3 [3, 6, 7, 8] (.one 4 [4, 5, 6, 7, 8] (.one 5 [5, 6, 7, 8] (.one 6 [6, 7, 8] (.alt 7 (.one 8 [8] .done) .nil)))))))) : OZ) (by kernel_rfl) ?_ | refine SW.regionD (Checked.mixed Tryz.checked) (by kernel_rfl) ?_ | refine SW.cond ?_ | refine SW.skip ?_ | refine SW.exit ?_ | refine SW.ret ?_ | (refine allF_i fun b hb => ?_; replace hD := And.intro hb hD; clear hb; try simp only [fresh_cons, fresh_nil, and_true, ne_eq, neF] at hD) | simp only [appK, appOsK]); try simp only [go_sem, hD, hli, wa, wn, wm, wk, sl, gx, gq, nk, lk, pk, ek, zk, mk1, mk0, wd, w1, ek1, ek0, true_implies]) | (refine And.intro (by omega) ?_) | (refine ifI (fun hc => ?_) (fun hc => ?_) <;> first | (exfalso; omega) | skip) | (apply hK; clear hK K) | (clear hK K; apply hK; clear hK K) | (clear hK K; clear hK K; apply hK; clear hK K) | (clear hK K; clear hK K; clear hK K; apply hK; clear hK K) | (clear hK K; clear hK K; clear hK K; clear hK K; apply hK; clear hK K) | (clear hK K; clear hK K; clear hK K; clear hK K; clear hK K; apply hK; clear hK K) | (refine And.intro ?_ ?_)
            · refine retQ_le (fin_x (k := kk) (ob := ob) (pb := pb) (C := C.set (kk * 2) (I64 (IntKind.i64.wrap (q + delta)))) (l := ([] : List Int)) (P' := P.set kk (IntKind.i64.wrap (q + delta), ([] : List Int))) rfl (by simp [hD]) (by simp only [find_cons, hD, if_true, if_false]) (by simp only [find_cons, hD, if_true, if_false]; rfl) rfl (by simp only [del_cons, upd_cons, find_cons, hD, if_true, if_false]) (hxq _) rfl (by rw [List.length_set, sl]; exact mk1) (hfq _ _) (hn1 _)) ?_
              simp only [resL_tmp, resL_nil, tupOf, go_sem, hD]
              exact ⟨_, hoks _ _ (by first | omega | (simp; done) | (simp; omega) | (simp only [List.length_cons]; omega)), rfl⟩
            · refine retQ_le (fin_x (k := kk) (ob := ob) (pb := pb) (C := C) (l := ([] : List Int)) (P' := P.set kk (q, ([] : List Int))) rfl (by simp [hD]) (by simp only [find_cons, hD, if_true, if_false]) (by simp only [find_cons, hD, if_true, if_false]; rfl) rfl (by simp only [del_cons, upd_cons, find_cons, hD, if_true, if_false]) gx rfl (by rw [sl]; exact mk1) (hfl _) (hn1 _)) ?_
              simp only [resL_tmp, resL_nil, tupOf, go_sem, hD]
              exact ⟨_, hoks _ _ (by first | omega | (simp; done) | (simp; omega) | (simp only [List.length_cons]; omega)), rfl⟩
            · refine retQ_le (fin_x (k := kk) (ob := ob) (pb := b) (C := C.set (kk * 2 + 1) (.os b 0 1 1)) (l := [0]) (P' := P.set kk (q, [0])) rfl (by simp [hD]) (by simp only [find_cons, hD, if_true, if_false]) (by simp only [find_cons, hD, if_true, if_false]; rfl) rfl (by simp only [del_cons, upd_cons, find_cons, hD, if_true, if_false]) (by rw [List.getD_eq_getElem?_getD, List.getElem?_set_self (by rw [sl]; exact mk1)]; rfl) rfl (by rw [List.length_set, sl]; exact mk1) (by rw [List.set_set]; exact hfl _) (hn1 _)) ?_
              simp only [resL_tmp, resL_nil, tupOf, go_sem, hD]
              exact ⟨_, hoks _ _ (by first | omega | (simp; done) | (simp; omega) | (simp only [List.length_cons]; omega)), rfl⟩
            · iterate 6 (refine vcA_one rfl rfl ?_; simp only [go_sem, hD, upd_cons, wk, ek, ek0, lk, pk, w1, if_true]; repeat (refine And.intro (by omega) ?_))
              refine vcA_tail (e := 88) (b := ob) (off := 0) (n := P.length) (sz := 2) (bytes := 32) (fun _ => []) rfl rfl (show 106 < 116 by decide) rfl slk_41 rfl rfl ?_
              refine vcA_alt rfl rfl ?_
              have tl : (C.take (kk * 2)).length = kk * 2 := by rw [List.length_take, sl]; omega
              have flc : flCells (fun _ => ([] : List SV)) 0 = [] := rfl
              simp only [appK, appOsK, go_sem, hD, flc, tl, if_true]
              refine ⟨by omega, by omega, allF_i fun b hb => ?_⟩
              try simp only [go_sem, hD, if_true]
              refine vcA_one rfl rfl ?_
              try simp only [go_sem, hD, if_true]
              refine vcA_done ?_
              try simp only [go_sem, hD]
              repeat' first | (with_reducible refine And.intro (by omega) ?_) | (refine SW.seq_k fun K hK => ?_) | (refine SW.block ?_) | ((first | refine SW.region ?_ | refine SW.regionD (Checked.mixed Tryz.checked) (by kernel_rfl) ?_ | refine SW.cond ?_ | refine SW.skip ?_ | refine SW.exit ?_ | refine SW.ret ?_ | (refine allF_i fun b hb => ?_; replace hD := And.intro hb hD; clear hb; try simp only [fresh_cons, fresh_nil, and_true, ne_eq, neF] at hD) | simp only [appK, appOsK]); try simp only [go_sem, hD]) | (refine And.intro (by omega) ?_) | (refine ifI (fun hc => ?_) (fun hc => ?_) <;> first | (exfalso; omega) | skip) | (apply hK; clear hK K) | (clear hK K; apply hK; clear hK K) | (clear hK K; clear hK K; apply hK; clear hK K) | (clear hK K; clear hK K; clear hK K; apply hK; clear hK K) | (clear hK K; clear hK K; clear hK K; clear hK K; apply hK; clear hK K) | (clear hK K; clear hK K; clear hK K; clear hK K; clear hK K; apply hK; clear hK K)
              refine retQ_le (fin_sp (P' := P.take kk) rfl (by simp only [find_cons, if_true]; rfl) (by first | exact hct | (rw [← hct]; simp [Blk.cells])) (by rw [List.length_take]; omega)) ?_
              simp only [resL_tmp, resL_nil, tupOf, go_sem, hD]
              exact ⟨_, okp_take hP, rfl⟩
            · refine retQ_le (fin_x (k := kk) (ob := ob) (pb := pb) (C := C) (l := l2) (P' := P.set kk (q, l2)) rfl (by simp [hD]) (by simp only [find_cons, hD, if_true, if_false]) (by simp only [find_cons, hD, if_true, if_false]; rfl) rfl (by simp only [del_cons, upd_cons, find_cons, hD, if_true, if_false]) gx hl2.symm (by rw [sl]; exact mk1) (hfl _) (hn1 _)) ?_
              simp only [resL_tmp, resL_nil, tupOf, go_sem, hD]
              exact ⟨_, hoks _ _ (by first | omega | (simp; done) | (simp; omega) | (simp only [List.length_cons]; omega)), rfl⟩
            · refine retQ_le (fin_x (k := kk) (ob := ob) (pb := pb) (C := C) (l := ([] : List Int)) (P' := P.set kk (q, ([] : List Int))) rfl (by simp [hD]) (by simp only [find_cons, hD, if_true, if_false]) (by simp only [find_cons, hD, if_true, if_false]; rfl) rfl (by simp only [del_cons, upd_cons, find_cons, hD, if_true, if_false]) gx rfl (by rw [sl]; exact mk1) (hfl _) (hn1 _)) ?_
              simp only [resL_tmp, resL_nil, tupOf, go_sem, hD]
              exact ⟨_, hoks _ _ (by first | omega | (simp; done) | (simp; omega) | (simp only [List.length_cons]; omega)), rfl⟩
          · have hD := And.intro (eq_false hpb) (eq_false (Ne.symm hpb))
            have rp := Call.frameP (p := [(ob, .svs (spC P kk (.os pb 0 ([] : List Int).length 1)))]) (rev_i pb [] (by first | omega | simp))
            generalize hC : spC P kk (.os pb 0 ([] : List Int).length 1) = C at *
            clear hC
            simp only [List.cons_append, List.nil_append] at rp
            have lt1 : ((kk + 1 : Nat) : Int) < ((P.length : Nat) : Int) := by omega
            have le1 : ((kk + 1 : Nat) : Int) ≤ ((P.length : Nat) : Int) := by omega
            have p1 : (0 : Int) ≤ ((kk + 1 : Nat) : Int) := by omega
            have hgall := getN_all (hall rfl) ((kk + 1) * 2) ((P.length - (kk + 1)) * 2) (by rw [sl]; omega)
            repeat' first | ((refine Call.mono rp ?_); (intro rr hh hx); (obtain ⟨h2, rfl, rfl, l2, hl2, rfl⟩ := hx); (try simp only [List.cons_append, List.nil_append]); (try simp only [go_sem, hD])) | ((refine appX_cut (k := .svs C) (by omega) (by rw [find_cons, if_pos rfl]) (by rw [Blk.len_svs, sl]; omega) (by rw [Blk.len_svs, sl]; omega) hgall (by rfl) (by omega) (by omega) (by omega) ?_)) | (with_reducible refine And.intro (by omega) ?_) | (refine SW.seq_k fun K hK => ?_) | (refine SW.block ?_) | ((first | refine SW.region ?_ | refine SW.regionZ (id := 5) (Checked.mixed Tryz.checked) ((.one 0 [0, 8, 9] (.one 1 [1, 2, 6, 7, 8, 9] (.one 2 [2, 6, 7, 8, 9] (.one 3 [3, 4, 5, 6, 7, 8, 9] (.one 4 [4, 5, 6, 7, 8, 9] (.one 5 [5, 6, 7, 8, 9] (.one 6 [6, 7, 8, 9] (.alt 7 (.alt 8 (.one 9 [9] .done) .nil) .nil)))))))) : OZ) (by kernel_rfl) ?_ | refine SW.regionZ (id := 15) (Checked.mixed Tryz.checked) ((.one 0 [0, 1, 2, 3, 7, 8, 9, 10] (.one 1 [1, 2, 3, 7, 8, 9, 10] (.one 2 [2, 3, 7, 8, 9, 10] (.one 3 [3, 7, 8, 9, 10] (.one 4 [4, 5, 6, 7, 8, 9, 10] (.one 5 [5, 6, 7, 8, 9, 10] (.one 6 [6, 7, 8, 9, 10] (.one 7 [7, 8, 9, 10] (.one 8 [8, 9, 10] (.one 9 [9, 10] (.alt 10 .done .nil))))))))))) : OZ) (by kernel_rfl) ?_ | refine SW.regionZ (id := 18) (Checked.mixed Tryz.checked) ((.one 0 [0, 1, 2, 3, 4, 5, 9, 10, 11] (.one 1 [1, 2, 3, 4, 5, 9, 10, 11] (.one 2 [2, 3, 4, 5, 9, 10, 11] (.one 3 [3, 4, 5, 9, 10, 11] (.one 4 [4, 5, 9, 10, 11] (.one 5 [5, 9, 10, 11] (.one 6 [6, 7, 8, 9, 10, 11] (.one 7 [7, 8, 9, 10, 11] (.one 8 [8, 9, 10, 11] (.one 9 [9, 10, 11] (.one 10 [10, 11] (.alt 11 .done .nil)))))))))))) : OZ) (by kernel_rfl) ?_ | refine SW.regionZ (id := 22) (Checked.mixed Tryz.checked) ((.one 0 [0, 2, 7, 8] (.one 1 [1, 2, 7, 8] (.one 2 [2, 7, 8] (.one 3 [3, 6, 7, 8] (.one 4 [4, 5, 6, 7, 8] (.one 5 [5, 6, 7, 8] (.one 6 [6, 7, 8] (.alt 7 (.one 8 [8] .done) .nil)))))))) : OZ) (by kernel_rfl) ?_ | refine SW.regionD (Checked.mixed Tryz.checked) (by kernel_rfl) ?_ | refine SW.cond ?_ | refine SW.skip ?_ | refine SW.exit ?_ | refine SW.ret ?_ | (refine allF_i fun b hb => ?_; replace hD := And.intro hb hD; clear hb; try simp only [fresh_cons, fresh_nil, and_true, ne_eq, neF] at hD) | simp only [appK, appOsK]); try simp only [go_sem, hD, hli, wa, wn, wm, wk, sl, gx, gq, nk, lk, pk, ek, zk, mk1, mk0, wd, w1, ek1, ek0, em, lt1, le1, p1, true_implies]) | (refine And.intro (by omega) ?_) | (refine ifI (fun hc => ?_) (fun hc => ?_) <;> first | (exfalso; omega) | skip) | (apply hK; clear hK K) | (clear hK K; apply hK; clear hK K) | (clear hK K; clear hK K; apply hK; clear hK K) | (clear hK K; clear hK K; clear hK K; apply hK; clear hK K) | (clear hK K; clear hK K; clear hK K; clear hK K; apply hK; clear hK K) | (clear hK K; clear hK K; clear hK K; clear hK K; clear hK K; apply hK; clear hK K) | (refine And.intro ?_ ?_)
            · refine retQ_le (fin_x (k := kk) (ob := ob) (pb := pb) (C := C.set (kk * 2) (I64 (IntKind.i64.wrap (q + delta)))) (l := ([] : List Int)) (P' := P.set kk (IntKind.i64.wrap (q + delta), ([] : List Int))) rfl (by simp [hD]) (by simp only [find_cons, hD, if_true, if_false]) (by simp only [find_cons, hD, if_true, if_false]; rfl) rfl (by simp only [del_cons, upd_cons, find_cons, hD, if_true, if_false]) (hxq _) rfl (by rw [List.length_set, sl]; exact mk1) (hfq _ _) (hn1 _)) ?_
              simp only [resL_tmp, resL_nil, tupOf, go_sem, hD]
              exact ⟨_, hoks _ _ (by first | omega | (simp; done) | (simp; omega) | (simp only [List.length_cons]; omega)), rfl⟩
            · refine retQ_le (fin_x (k := kk) (ob := ob) (pb := pb) (C := C) (l := ([] : List Int)) (P' := P.set kk (q, ([] : List Int))) rfl (by simp [hD]) (by simp only [find_cons, hD, if_true, if_false]) (by simp only [find_cons, hD, if_true, if_false]; rfl) rfl (by simp only [del_cons, upd_cons, find_cons, hD, if_true, if_false]) gx rfl (by rw [sl]; exact mk1) (hfl _) (hn1 _)) ?_
              simp only [resL_tmp, resL_nil, tupOf, go_sem, hD]
              exact ⟨_, hoks _ _ (by first | omega | (simp; done) | (simp; omega) | (simp only [List.length_cons]; omega)), rfl⟩
            · refine retQ_le (fin_x (k := kk) (ob := ob) (pb := b) (C := C.set (kk * 2 + 1) (.os b 0 1 1)) (l := [0]) (P' := P.set kk (q, [0])) rfl (by simp [hD]) (by simp only [find_cons, hD, if_true, if_false]) (by simp only [find_cons, hD, if_true, if_false]; rfl) rfl (by simp only [del_cons, upd_cons, find_cons, hD, if_true, if_false]) (by rw [List.getD_eq_getElem?_getD, List.getElem?_set_self (by rw [sl]; exact mk1)]; rfl) rfl (by rw [List.length_set, sl]; exact mk1) (by rw [List.set_set]; exact hfl _) (hn1 _)) ?_
              simp only [resL_tmp, resL_nil, tupOf, go_sem, hD]
              exact ⟨_, hoks _ _ (by first | omega | (simp; done) | (simp; omega) | (simp only [List.length_cons]; omega)), rfl⟩
            · refine retQ_le (fin_sp (P' := P.take kk ++ P.drop (kk + 1)) rfl (by rw [find_cons, if_pos rfl]) hcut hn2) ?_
              simp only [resL_tmp, resL_nil, tupOf, go_sem, hD]
              exact ⟨_, hokc, rfl⟩
            · refine retQ_le (fin_x (k := kk) (ob := ob) (pb := pb) (C := C) (l := l2) (P' := P.set kk (q, l2)) rfl (by simp [hD]) (by simp only [find_cons, hD, if_true, if_false]) (by simp only [find_cons, hD, if_true, if_false]; rfl) rfl (by simp only [del_cons, upd_cons, find_cons, hD, if_true, if_false]) gx hl2.symm (by rw [sl]; exact mk1) (hfl _) (hn1 _)) ?_
              simp only [resL_tmp, resL_nil, tupOf, go_sem, hD]
              exact ⟨_, hoks _ _ (by first | omega | (simp; done) | (simp; omega) | (simp only [List.length_cons]; omega)), rfl⟩
            · refine retQ_le (fin_x (k := kk) (ob := ob) (pb := pb) (C := C) (l := ([] : List Int)) (P' := P.set kk (q, ([] : List Int))) rfl (by simp [hD]) (by simp only [find_cons, hD, if_true, if_false]) (by simp only [find_cons, hD, if_true, if_false]; rfl) rfl (by simp only [del_cons, upd_cons, find_cons, hD, if_true, if_false]) gx rfl (by rw [sl]; exact mk1) (hfl _) (hn1 _)) ?_
              simp only [resL_tmp, resL_nil, tupOf, go_sem, hD]
              exact ⟨_, hoks _ _ (by first | omega | (simp; done) | (simp; omega) | (simp only [List.length_cons]; omega)), rfl⟩
        | cons a r =>
          by_cases hlast : kk + 1 = P.length
          · have hD := And.intro (eq_false hpb) (eq_false (Ne.symm hpb))
            have rp := Call.frameP (p := [(ob, .svs (spC P kk (.os pb 0 ((a :: r) : List Int).length 1)))]) (rev_i pb (a :: r) (by first | omega | simp))
            generalize hC : spC P kk (.os pb 0 ((a :: r) : List Int).length 1) = C at *
            clear hC
            simp only [List.cons_append, List.nil_append] at rp
            have hml : ((a :: r).map fun x => I64 x).length = (a :: r).length := List.length_map _
            have gp0 : ((a :: r).map fun x => I64 x).getD 0 .any = I64 a := rfl
            have pl0 : (0 : Int) < (((a :: r).length : Nat) : Int) := by rw [List.length_cons]; omega
            have sp0 : ∀ v : Int, ((a :: r).map fun x => I64 x).set 0 (I64 v) = (v :: r).map fun x => I64 x := fun v => rfl
            have bl0 : ((a :: r).length + 1) * 8 ≤ 140737488355328 := by omega
            have hmr : r.length + 1 = (a :: r).length := rfl
            generalize hPS : (a :: r) = ps at *
            generalize hMM : (ps.map fun x => I64 x) = MM at *
            have w1 : IntKind.i64.wrap ((kk : Int) + 1) = ((P.length : Nat) : Int) := by rw [w1, hlast]
            repeat' first | ((refine Call.mono rp ?_); (intro rr hh hx); (obtain ⟨h2, rfl, rfl, l2, hl2, rfl⟩ := hx); (try simp only [List.cons_append, List.nil_append]); (try simp only [go_sem, hD])) | ((refine SW.regionM (id := 22) (b := ob) (kk * 2) (Checked.mixed Tryz.checked) ((.one 0 [0, 2, 7, 8] (.one 1 [1, 2, 7, 8] (.one 2 [2, 7, 8] (.one 3 [3, 6, 7, 8] (.one 4 [4, 5, 6, 7, 8] (.one 5 [5, 6, 7, 8] (.one 6 [6, 7, 8] (.alt 7 (.one 8 [8] .done) .nil)))))))) : OZ) (by kernel_rfl) ?_)) | (with_reducible refine And.intro (by omega) ?_) | (refine SW.seq_k fun K hK => ?_) | (refine SW.block ?_) | ((first | refine SW.region ?_ | refine SW.regionZ (id := 5) (Checked.mixed Tryz.checked) ((.one 0 [0, 8, 9] (.one 1 [1, 2, 6, 7, 8, 9] (.one 2 [2, 6, 7, 8, 9] (.one 3 [3, 4, 5, 6, 7, 8, 9] (.one 4 [4, 5, 6, 7, 8, 9] (.one 5 [5, 6, 7, 8, 9] (.one 6 [6, 7, 8, 9] (.alt 7 (.alt 8 (.one 9 [9] .done) .nil) .nil)))))))) : OZ) (by kernel_rfl) ?_ | refine SW.regionZ (id := 15) (Checked.mixed Tryz.checked) ((.one 0 [0, 1, 2, 3, 7, 8, 9, 10] (.one 1 [1, 2, 3, 7, 8, 9, 10] (.one 2 [2, 3, 7, 8, 9, 10] (.one 3 [3, 7, 8, 9, 10] (.one 4 [4, 5, 6, 7, 8, 9, 10] (.one 5 [5, 6, 7, 8, 9, 10] (.one 6 [6, 7, 8, 9, 10] (.one 7 [7, 8, 9, 10] (.one 8 [8, 9, 10] (.one 9 [9, 10] (.alt 10 .done .nil))))))))))) : OZ) (by kernel_rfl) ?_ | refine SW.regionZ (id := 18) (Checked.mixed Tryz.checked) ((.one 0 [0, 1, 2, 3, 4, 5, 9, 10, 11] (.one 1 [1, 2, 3, 4, 5, 9, 10, 11] (.one 2 [2, 3, 4, 5, 9, 10, 11] (.one 3 [3, 4, 5, 9, 10, 11] (.one 4 [4, 5, 9, 10, 11] (.one 5 [5, 9, 10, 11] (.one 6 [6, 7, 8, 9, 10, 11] (.one 7 [7, 8, 9, 10, 11] (.one 8 [8, 9, 10, 11] (.one 9 [9, 10, 11] (.one 10 [10, 11] (.alt 11 .done .nil)))))))))))) : OZ) (by kernel_rfl) ?_ | refine SW.regionZ (id := 22) (Checked.mixed Tryz.checked) ((.one 0 [0, 2, 7, 8] (.one 1 [1, 2, 7, 8] (.one 2 [2, 7, 8] (.one 3 [3, 6, 7, 8] (.one 4 [4, 5, 6, 7, 8] (.one 5 [5, 6, 7, 8] (.one 6 [6, 7, 8] (.alt 7 (.one 8 [8] .done) .nil)))))))) : OZ) (by kernel_rfl) ?_ | refine SW.regionD (Checked.mixed Tryz.checked) (by kernel_rfl) ?_ | refine SW.cond ?_ | refine SW.skip ?_ | refine SW.exit ?_ | refine SW.ret ?_ | (refine allF_i fun b hb => ?_; replace hD := And.intro hb hD; clear hb; try simp only [fresh_cons, fresh_nil, and_true, ne_eq, neF] at hD) | simp only [appK, appOsK]); try simp only [go_sem, hD, hli, wa, wn, wm, wk, sl, gx, gq, nk, lk, pk, ek, zk, mk1, mk0, wd, w1, ek1, ek0, hml, gp0, pl0, true_implies]) | (refine And.intro (by omega) ?_) | (refine ifI (fun hc => ?_) (fun hc => ?_) <;> first | (exfalso; omega) | skip) | (apply hK; clear hK K) | (clear hK K; apply hK; clear hK K) | (clear hK K; clear hK K; apply hK; clear hK K) | (clear hK K; clear hK K; clear hK K; apply hK; clear hK K) | (clear hK K; clear hK K; clear hK K; clear hK K; apply hK; clear hK K) | (clear hK K; clear hK K; clear hK K; clear hK K; clear hK K; apply hK; clear hK K) | (refine And.intro ?_ ?_)
            · refine retQ_le (fin_x (k := kk) (ob := ob) (pb := pb) (C := C.set (kk * 2) (I64 (IntKind.i64.wrap (q + delta)))) (kb := .svs MM) (l := ps) (P' := P.set kk (IntKind.i64.wrap (q + delta), ps)) rfl (by simp [hD]) (by simp only [find_cons, hD, if_true, if_false]) (by simp only [find_cons, hD, if_true, if_false]) hMM.symm (by simp only [del_cons, upd_cons, find_cons, hD, if_true, if_false]) (hxq _) rfl (by rw [List.length_set, sl]; exact mk1) (hfq _ _) (hn1 _)) ?_
              simp only [resL_tmp, resL_nil, tupOf, go_sem, hD]
              exact ⟨_, hoks _ _ (by first | omega | (simp; done) | (simp; omega) | (simp only [List.length_cons]; omega)), rfl⟩
            · refine retQ_le (fin_x (k := kk) (ob := ob) (pb := pb) (C := C) (kb := .svs (MM.set 0 (I64 (IntKind.i64.wrap (a + delta))))) (l := (IntKind.i64.wrap (a + delta) :: r)) (P' := P.set kk (q, (IntKind.i64.wrap (a + delta) :: r))) rfl (by simp [hD]) (by simp only [find_cons, hD, if_true, if_false]) (by simp only [find_cons, hD, if_true, if_false]) (sp0 _) (by simp only [del_cons, upd_cons, find_cons, hD, if_true, if_false]) gx (by rw [List.length_cons]; omega) (by rw [sl]; exact mk1) (hfl _) (hn1 _)) ?_
              simp only [resL_tmp, resL_nil, tupOf, go_sem, hD]
              exact ⟨_, hoks _ _ (by first | omega | (simp; done) | (simp; omega) | (simp only [List.length_cons]; omega)), rfl⟩
            · refine retQ_le (fin_x (k := kk) (ob := ob) (pb := b) (C := C.set (kk * 2 + 1) (.os b 0 (ps.length + 1) 1)) (l := (ps ++ [0])) (P' := P.set kk (q, (ps ++ [0]))) rfl (by simp [hD]) (by simp only [find_cons, hD, if_true, if_false]) (by simp only [find_cons, hD, if_true, if_false]; rfl) (by rw [List.map_append, hMM]; rfl) (by simp only [del_cons, upd_cons, find_cons, hD, if_true, if_false]) (by rw [List.getD_eq_getElem?_getD, List.getElem?_set_self (by rw [sl]; exact mk1)]; rfl) (by simp) (by rw [List.length_set, sl]; exact mk1) (by rw [List.set_set]; exact hfl _) (hn1 _)) ?_
              simp only [resL_tmp, resL_nil, tupOf, go_sem, hD]
              exact ⟨_, hoks _ _ (by first | omega | (simp; done) | (simp; omega) | (simp only [List.length_cons]; omega)), rfl⟩
            · iterate 6 (refine vcA_one rfl rfl ?_; simp only [go_sem, hD, upd_cons, wk, ek, ek0, lk, pk, w1, if_true]; repeat (refine And.intro (by omega) ?_))
              refine vcA_tail (e := 88) (b := ob) (off := 0) (n := P.length) (sz := 2) (bytes := 32) (fun _ => []) rfl rfl (show 106 < 116 by decide) rfl slk_41 rfl rfl ?_
              refine vcA_alt rfl rfl ?_
              have tl : (C.take (kk * 2)).length = kk * 2 := by rw [List.length_take, sl]; omega
              have flc : flCells (fun _ => ([] : List SV)) 0 = [] := rfl
              simp only [appK, appOsK, go_sem, hD, flc, tl, if_true]
              refine ⟨by omega, by omega, allF_i fun b hb => ?_⟩
              try simp only [go_sem, hD, if_true]
              refine vcA_one rfl rfl ?_
              try simp only [go_sem, hD, if_true]
              refine vcA_done ?_
              try simp only [go_sem, hD]
              repeat' first | (with_reducible refine And.intro (by omega) ?_) | (refine SW.seq_k fun K hK => ?_) | (refine SW.block ?_) | ((first | refine SW.region ?_ | refine SW.regionD (Checked.mixed Tryz.checked) (by kernel_rfl) ?_ | refine SW.cond ?_ | refine SW.skip ?_ | refine SW.exit ?_ | refine SW.ret ?_ | (refine allF_i fun b hb => ?_; replace hD := And.intro hb hD; clear hb; try simp only [fresh_cons, fresh_nil, and_true, ne_eq, neF] at hD) | simp only [appK, appOsK]); try simp only [go_sem, hD]) | (refine And.intro (by omega) ?_) | (refine ifI (fun hc => ?_) (fun hc => ?_) <;> first | (exfalso; omega) | skip) | (apply hK; clear hK K) | (clear hK K; apply hK; clear hK K) | (clear hK K; clear hK K; apply hK; clear hK K) | (clear hK K; clear hK K; clear hK K; apply hK; clear hK K) | (clear hK K; clear hK K; clear hK K; clear hK K; apply hK; clear hK K) | (clear hK K; clear hK K; clear hK K; clear hK K; clear hK K; apply hK; clear hK K)
              refine retQ_le (fin_sp (P' := P.take kk) rfl (by simp only [find_cons, if_true]; rfl) (by first | exact hct | (rw [← hct]; simp [Blk.cells])) (by rw [List.length_take]; omega)) ?_
              simp only [resL_tmp, resL_nil, tupOf, go_sem, hD]
              exact ⟨_, okp_take hP, rfl⟩
            · refine retQ_le (fin_x (k := kk) (ob := ob) (pb := pb) (C := C) (l := l2) (P' := P.set kk (q, l2)) rfl (by simp [hD]) (by simp only [find_cons, hD, if_true, if_false]) (by simp only [find_cons, hD, if_true, if_false]; rfl) rfl (by simp only [del_cons, upd_cons, find_cons, hD, if_true, if_false]) gx hl2.symm (by rw [sl]; exact mk1) (hfl _) (hn1 _)) ?_
              simp only [resL_tmp, resL_nil, tupOf, go_sem, hD]
              exact ⟨_, hoks _ _ (by first | omega | (simp; done) | (simp; omega) | (simp only [List.length_cons]; omega)), rfl⟩
            · refine retQ_le (fin_x (k := kk) (ob := ob) (pb := pb) (C := C) (kb := .svs MM) (l := ps) (P' := P.set kk (q, ps)) rfl (by simp [hD]) (by simp only [find_cons, hD, if_true, if_false]) (by simp only [find_cons, hD, if_true, if_false]) hMM.symm (by simp only [del_cons, upd_cons, find_cons, hD, if_true, if_false]) gx rfl (by rw [sl]; exact mk1) (hfl _) (hn1 _)) ?_
              simp only [resL_tmp, resL_nil, tupOf, go_sem, hD]
              exact ⟨_, hoks _ _ (by first | omega | (simp; done) | (simp; omega) | (simp only [List.length_cons]; omega)), rfl⟩
          · have hD := And.intro (eq_false hpb) (eq_false (Ne.symm hpb))
            have rp := Call.frameP (p := [(ob, .svs (spC P kk (.os pb 0 ((a :: r) : List Int).length 1)))]) (rev_i pb (a :: r) (by first | omega | simp))
            generalize hC : spC P kk (.os pb 0 ((a :: r) : List Int).length 1) = C at *
            clear hC
            simp only [List.cons_append, List.nil_append] at rp
            have hml : ((a :: r).map fun x => I64 x).length = (a :: r).length := List.length_map _
            have gp0 : ((a :: r).map fun x => I64 x).getD 0 .any = I64 a := rfl
            have pl0 : (0 : Int) < (((a :: r).length : Nat) : Int) := by rw [List.length_cons]; omega
            have sp0 : ∀ v : Int, ((a :: r).map fun x => I64 x).set 0 (I64 v) = (v :: r).map fun x => I64 x := fun v => rfl
            have bl0 : ((a :: r).length + 1) * 8 ≤ 140737488355328 := by omega
            have hmr : r.length + 1 = (a :: r).length := rfl
            generalize hPS : (a :: r) = ps at *
            generalize hMM : (ps.map fun x => I64 x) = MM at *
            have lt1 : ((kk + 1 : Nat) : Int) < ((P.length : Nat) : Int) := by omega
            have le1 : ((kk + 1 : Nat) : Int) ≤ ((P.length : Nat) : Int) := by omega
            have p1 : (0 : Int) ≤ ((kk + 1 : Nat) : Int) := by omega
            have hgall := getN_all (hall rfl) ((kk + 1) * 2) ((P.length - (kk + 1)) * 2) (by rw [sl]; omega)
            repeat' first | ((refine Call.mono rp ?_); (intro rr hh hx); (obtain ⟨h2, rfl, rfl, l2, hl2, rfl⟩ := hx); (try simp only [List.cons_append, List.nil_append]); (try simp only [go_sem, hD])) | ((refine appX_cut (k := .svs C) (by omega) (by rw [find_cons, if_pos rfl]) (by rw [Blk.len_svs, sl]; omega) (by rw [Blk.len_svs, sl]; omega) hgall (by rfl) (by omega) (by omega) (by omega) ?_)) | (with_reducible refine And.intro (by omega) ?_) | (refine SW.seq_k fun K hK => ?_) | (refine SW.block ?_) | ((first | refine SW.region ?_ | refine SW.regionZ (id := 5) (Checked.mixed Tryz.checked) ((.one 0 [0, 8, 9] (.one 1 [1, 2, 6, 7, 8, 9] (.one 2 [2, 6, 7, 8, 9] (.one 3 [3, 4, 5, 6, 7, 8, 9] (.one 4 [4, 5, 6, 7, 8, 9] (.one 5 [5, 6, 7, 8, 9] (.one 6 [6, 7, 8, 9] (.alt 7 (.alt 8 (.one 9 [9] .done) .nil) .nil)))))))) : OZ) (by kernel_rfl) ?_ | refine SW.regionZ (id := 15) (Checked.mixed Tryz.checked) ((.one 0 [0, 1, 2, 3, 7, 8, 9, 10] (.one 1 [1, 2, 3, 7, 8, 9, 10] (.one 2 [2, 3, 7, 8, 9, 10] (.one 3 [3, 7, 8, 9, 10] (.one 4 [4, 5, 6, 7, 8, 9, 10] (.one 5 [5, 6, 7, 8, 9, 10] (.one 6 [6, 7, 8, 9, 10] (.one 7 [7, 8, 9, 10] (.one 8 [8, 9, 10] (.one 9 [9, 10] (.alt 10 .done .nil))))))))))) : OZ) (by kernel_rfl) ?_ | refine SW.regionZ (id := 18) (Checked.mixed Tryz.checked) ((.one 0 [0, 1, 2, 3, 4, 5, 9, 10, 11] (.one 1 [1, 2, 3, 4, 5, 9, 10, 11] (.one 2 [2, 3, 4, 5, 9, 10, 11] (.one 3 [3, 4, 5, 9, 10, 11] (.one 4 [4, 5, 9, 10, 11] (.one 5 [5, 9, 10, 11] (.one 6 [6, 7, 8, 9, 10, 11] (.one 7 [7, 8, 9, 10, 11] (.one 8 [8, 9, 10, 11] (.one 9 [9, 10, 11] (.one 10 [10, 11] (.alt 11 .done .nil)))))))))))) : OZ) (by kernel_rfl) ?_ | refine SW.regionZ (id := 22) (Checked.mixed Tryz.checked) ((.one 0 [0, 2, 7, 8] (.one 1 [1, 2, 7, 8] (.one 2 [2, 7, 8] (.one 3 [3, 6, 7, 8] (.one 4 [4, 5, 6, 7, 8] (.one 5 [5, 6, 7, 8] (.one 6 [6, 7, 8] (.alt 7 (.one 8 [8] .done) .nil)))))))) : OZ) (by kernel_rfl) ?_ | refine SW.regionD (Checked.mixed Tryz.checked) (by kernel_rfl) ?_ | refine SW.cond ?_ | refine SW.skip ?_ | refine SW.exit ?_ | refine SW.ret ?_ | (refine allF_i fun b hb => ?_; replace hD := And.intro hb hD; clear hb; try simp only [fresh_cons, fresh_nil, and_true, ne_eq, neF] at hD) | simp only [appK, appOsK]); try simp only [go_sem, hD, hli, wa, wn, wm, wk, sl, gx, gq, nk, lk, pk, ek, zk, mk1, mk0, wd, w1, ek1, ek0, em, lt1, le1, p1, hml, gp0, pl0, true_implies]) | (refine And.intro (by omega) ?_) | (refine ifI (fun hc => ?_) (fun hc => ?_) <;> first | (exfalso; omega) | skip) | (apply hK; clear hK K) | (clear hK K; apply hK; clear hK K) | (clear hK K; clear hK K; apply hK; clear hK K) | (clear hK K; clear hK K; clear hK K; apply hK; clear hK K) | (clear hK K; clear hK K; clear hK K; clear hK K; apply hK; clear hK K) | (clear hK K; clear hK K; clear hK K; clear hK K; clear hK K; apply hK; clear hK K) | (refine And.intro ?_ ?_)
            · refine retQ_le (fin_x (k := kk) (ob := ob) (pb := pb) (C := C.set (kk * 2) (I64 (IntKind.i64.wrap (q + delta)))) (kb := .svs MM) (l := ps) (P' := P.set kk (IntKind.i64.wrap (q + delta), ps)) rfl (by simp [hD]) (by simp only [find_cons, hD, if_true, if_false]) (by simp only [find_cons, hD, if_true, if_false]) hMM.symm (by simp only [del_cons, upd_cons, find_cons, hD, if_true, if_false]) (hxq _) rfl (by rw [List.length_set, sl]; exact mk1) (hfq _ _) (hn1 _)) ?_
              simp only [resL_tmp, resL_nil, tupOf, go_sem, hD]
              exact ⟨_, hoks _ _ (by first | omega | (simp; done) | (simp; omega) | (simp only [List.length_cons]; omega)), rfl⟩
            · refine retQ_le (fin_x (k := kk) (ob := ob) (pb := pb) (C := C) (kb := .svs (MM.set 0 (I64 (IntKind.i64.wrap (a + delta))))) (l := (IntKind.i64.wrap (a + delta) :: r)) (P' := P.set kk (q, (IntKind.i64.wrap (a + delta) :: r))) rfl (by simp [hD]) (by simp only [find_cons, hD, if_true, if_false]) (by simp only [find_cons, hD, if_true, if_false]) (sp0 _) (by simp only [del_cons, upd_cons, find_cons, hD, if_true, if_false]) gx (by rw [List.length_cons]; omega) (by rw [sl]; exact mk1) (hfl _) (hn1 _)) ?_
              simp only [resL_tmp, resL_nil, tupOf, go_sem, hD]
              exact ⟨_, hoks _ _ (by first | omega | (simp; done) | (simp; omega) | (simp only [List.length_cons]; omega)), rfl⟩
            · refine retQ_le (fin_x (k := kk) (ob := ob) (pb := b) (C := C.set (kk * 2 + 1) (.os b 0 (ps.length + 1) 1)) (l := (ps ++ [0])) (P' := P.set kk (q, (ps ++ [0]))) rfl (by simp [hD]) (by simp only [find_cons, hD, if_true, if_false]) (by simp only [find_cons, hD, if_true, if_false]; rfl) (by rw [List.map_append, hMM]; rfl) (by simp only [del_cons, upd_cons, find_cons, hD, if_true, if_false]) (by rw [List.getD_eq_getElem?_getD, List.getElem?_set_self (by rw [sl]; exact mk1)]; rfl) (by simp) (by rw [List.length_set, sl]; exact mk1) (by rw [List.set_set]; exact hfl _) (hn1 _)) ?_
              simp only [resL_tmp, resL_nil, tupOf, go_sem, hD]
              exact ⟨_, hoks _ _ (by first | omega | (simp; done) | (simp; omega) | (simp only [List.length_cons]; omega)), rfl⟩
            · refine retQ_le (fin_sp (P' := P.take kk ++ P.drop (kk + 1)) rfl (by rw [find_cons, if_pos rfl]) hcut hn2) ?_
              simp only [resL_tmp, resL_nil, tupOf, go_sem, hD]
              exact ⟨_, hokc, rfl⟩
            · refine retQ_le (fin_x (k := kk) (ob := ob) (pb := pb) (C := C) (l := l2) (P' := P.set kk (q, l2)) rfl (by simp [hD]) (by simp only [find_cons, hD, if_true, if_false]) (by simp only [find_cons, hD, if_true, if_false]; rfl) rfl (by simp only [del_cons, upd_cons, find_cons, hD, if_true, if_false]) gx hl2.symm (by rw [sl]; exact mk1) (hfl _) (hn1 _)) ?_
              simp only [resL_tmp, resL_nil, tupOf, go_sem, hD]
              exact ⟨_, hoks _ _ (by first | omega | (simp; done) | (simp; omega) | (simp only [List.length_cons]; omega)), rfl⟩
            · refine retQ_le (fin_x (k := kk) (ob := ob) (pb := pb) (C := C) (kb := .svs MM) (l := ps) (P' := P.set kk (q, ps)) rfl (by simp [hD]) (by simp only [find_cons, hD, if_true, if_false]) (by simp only [find_cons, hD, if_true, if_false]) hMM.symm (by simp only [del_cons, upd_cons, find_cons, hD, if_true, if_false]) gx rfl (by rw [sl]; exact mk1) (hfl _) (hn1 _)) ?_
              simp only [resL_tmp, resL_nil, tupOf, go_sem, hD]
              exact ⟨_, hoks _ _ (by first | omega | (simp; done) | (simp; omega) | (simp only [List.length_cons]; omega)), rfl⟩
end Go.Proofs.YtblfodnajpamfaaGreatDoor
namespace Go.Ab
theorem Call.nilA [Gl] {P : Program} {f : FuncId} {args : List SV} {Q : SV → Heap → Prop} (i : Nat) {sz : Nat} {g : Nat → List SV} (hi : i < args.length) (ha : args.getD i .any = .sc (.slice none 0 0)) (hc : Call P f (args.set i (.fl 0 sz g)) [] Q) : Call P f args [] Q := by
  refine Call.le (fun c hc => hc) (fun M w vs own hr => ⟨own, by simpa using hr.1, fun j hj => ?_⟩) hc
  rw [getD_set hi]
  have h0 := hr.2 j (by simpa using hj)
  by_cases hij : i = j
  · subst hij
    rw [if_pos rfl]
    rw [ha] at h0
    exact Rep.fl_nil h0
  · rw [if_neg hij]; exact h0
end Go.Ab
namespace Go.Ab.A15
open Go Go.Ab Go.Ab.A34
theorem proof_okp2 {l : List Dp} {g : Dp} {nm : List ByteArray} (hs : Small l g nm) (h : ¬ findS g.t g.r 0 (states l g) < 0) : (proofS l g).length ≤ 100000 ∧ ∀ p ∈ proofS l g, p.2.length ≤ 100000 := by
  have hB := hs.bds
  have h2 := hB _ (states_ok hB).1
  obtain ⟨k1, _⟩ := proof_ok hB (by omega : 0 ≤ findS g.t g.r 0 (states l g))
  have h3 := hs.g3
  refine ⟨?_, fun p hp => by have := chkP_len k1 p hp; omega⟩
  obtain ⟨j, e1, e2, _⟩ := findS_is (by omega : 0 ≤ findS g.t g.r 0 (states l g))
  unfold proofS pathS
  rw [List.length_reverse]
  refine Nat.le_trans (back_len _ _ _) ?_
  omega
end Go.Ab.A15
namespace Go.Proofs.YtblfodnajpamfaaGreatDoor
open Go Go.Ab Go.Ab.A34 Go.Ab.A15
variable [Gl] [Tabs]
theorem law_check (d : List Rc) (l : List Lk) (s : Sp) (hd : OkRcs d) (hdl : d.length ≤ 9223372036854775807) (hl : OkKs l) (hs : OkSp s) :
    PCall Tryz.prog 4 [RcL d, LkL l, .agg (SpC s)] (SB true) := by
  have of := of_r d hd hdl
  have aw := awake_c
  have hg := hs.g
  have hsp := fun P h1 h2 => spoiled_i P s h1 hs h2
  obtain ⟨sg, kind, at_, delta⟩ := s
  obtain ⟨gf, gt, gl, gr⟩ := sg
  simp only at hg hsp
  clear hs
  rcases draft_cases d l with h1 | ⟨h1, h2⟩ | ⟨h1, h5, h0, h3⟩ | ⟨h1, h5, h0, h3⟩
  · rw [ofV_bad h1] at of
    have li := list_nil l
    refine Call.enter' (N := 73) (rs := [.tmp 6]) Tryz.func4 rfl rfl rfl (by decide) rfl ?_; simp only [argT]; have hD : (0 : Nat) = 0 := rfl
    repeat' first | (with_reducible refine And.intro (by omega) ?_) | (refine SW.seq_k fun K hK => ?_) | (refine SW.block ?_) | ((first | refine SW.region ?_ | refine SW.regionD (Checked.mixed Tryz.checked) (by kernel_rfl) ?_ | refine SW.cond ?_ | refine SW.skip ?_ | refine SW.exit ?_ | refine SW.ret ?_ | refine Call.of_pure (of) ?_ | refine ⟨_, of, ?_⟩ | refine Call.of_pure (li) ?_ | refine ⟨_, li, ?_⟩ | refine Call.of_pure (aw) ?_ | refine ⟨_, aw, ?_⟩ | (refine allF_i fun b hb => ?_; replace hD := And.intro hb hD; clear hb; try simp only [fresh_cons, fresh_nil, and_true, ne_eq, neF] at hD) | simp only [appK, appOsK]); try simp only [go_sem, hD, true_implies]) | (refine And.intro (by omega) ?_) | (refine ifI (fun hc => ?_) (fun hc => ?_) <;> first | (exfalso; omega) | skip) | (apply hK; clear hK K) | (clear hK K; apply hK; clear hK K) | (clear hK K; clear hK K; apply hK; clear hK K) | (clear hK K; clear hK K; clear hK K; apply hK; clear hK K) | (clear hK K; clear hK K; clear hK K; clear hK K; apply hK; clear hK K) | (clear hK K; clear hK K; clear hK K; clear hK K; clear hK K; apply hK; clear hK K)
    refine ret_pure ?_; simp only [resL_tmp, resL_nil, tupOf, go_sem, hD]
  · rw [ofV_good h1] at of
    have li := list_bad (ofT d) l h2
    generalize ofT d = db at *
    generalize decide (d.length ≤ 3) = D3 at *
    cases D3
    · refine Call.enter' (N := 73) (rs := [.tmp 6]) Tryz.func4 rfl rfl rfl (by decide) rfl ?_; simp only [argT]; have hD : (0 : Nat) = 0 := rfl
      repeat' first | (with_reducible refine And.intro (by omega) ?_) | (refine SW.seq_k fun K hK => ?_) | (refine SW.block ?_) | ((first | refine SW.region ?_ | refine SW.regionD (Checked.mixed Tryz.checked) (by kernel_rfl) ?_ | refine SW.cond ?_ | refine SW.skip ?_ | refine SW.exit ?_ | refine SW.ret ?_ | refine Call.of_pure (of) ?_ | refine ⟨_, of, ?_⟩ | refine Call.of_pure (li) ?_ | refine ⟨_, li, ?_⟩ | refine Call.of_pure (aw) ?_ | refine ⟨_, aw, ?_⟩ | (refine allF_i fun b hb => ?_; replace hD := And.intro hb hD; clear hb; try simp only [fresh_cons, fresh_nil, and_true, ne_eq, neF] at hD) | simp only [appK, appOsK]); try simp only [go_sem, hD, true_implies]) | (refine And.intro (by omega) ?_) | (refine ifI (fun hc => ?_) (fun hc => ?_) <;> first | (exfalso; omega) | skip) | (apply hK; clear hK K) | (clear hK K; apply hK; clear hK K) | (clear hK K; clear hK K; apply hK; clear hK K) | (clear hK K; clear hK K; clear hK K; apply hK; clear hK K) | (clear hK K; clear hK K; clear hK K; clear hK K; apply hK; clear hK K) | (clear hK K; clear hK K; clear hK K; clear hK K; clear hK K; apply hK; clear hK K)
      refine ret_pure ?_; simp only [resL_tmp, resL_nil, tupOf, go_sem, hD]
    · refine Call.enter' (N := 73) (rs := [.tmp 6]) Tryz.func4 rfl rfl rfl (by decide) rfl ?_; simp only [argT]; have hD : (0 : Nat) = 0 := rfl
      repeat' first | (with_reducible refine And.intro (by omega) ?_) | (refine SW.seq_k fun K hK => ?_) | (refine SW.block ?_) | ((first | refine SW.region ?_ | refine SW.regionD (Checked.mixed Tryz.checked) (by kernel_rfl) ?_ | refine SW.cond ?_ | refine SW.skip ?_ | refine SW.exit ?_ | refine SW.ret ?_ | refine Call.of_pure (of) ?_ | refine ⟨_, of, ?_⟩ | refine Call.of_pure (li) ?_ | refine ⟨_, li, ?_⟩ | refine Call.of_pure (aw) ?_ | refine ⟨_, aw, ?_⟩ | (refine allF_i fun b hb => ?_; replace hD := And.intro hb hD; clear hb; try simp only [fresh_cons, fresh_nil, and_true, ne_eq, neF] at hD) | simp only [appK, appOsK]); try simp only [go_sem, hD, true_implies]) | (refine And.intro (by omega) ?_) | (refine ifI (fun hc => ?_) (fun hc => ?_) <;> first | (exfalso; omega) | skip) | (apply hK; clear hK K) | (clear hK K; apply hK; clear hK K) | (clear hK K; clear hK K; apply hK; clear hK K) | (clear hK K; clear hK K; clear hK K; apply hK; clear hK K) | (clear hK K; clear hK K; clear hK K; clear hK K; apply hK; clear hK K) | (clear hK K; clear hK K; clear hK K; clear hK K; clear hK K; apply hK; clear hK K)
      refine ret_pure ?_; simp only [resL_tmp, resL_nil, tupOf, go_sem, hD]
  · rw [ofV_good h1, decide_eq_false h3] at of
    have Dr := ofT_dra h1
    have h3' := Dr.n3
    have li := list_r (ofT d) l hl h5 h0 (by omega) (dra_at Dr)
    clear Dr
    generalize (l.map (indS (ofT d))) = L at *
    generalize ofT d = db at *
    refine Call.enter' (N := 73) (rs := [.tmp 6]) Tryz.func4 rfl rfl rfl (by decide) rfl ?_; simp only [argT]; have hD : (0 : Nat) = 0 := rfl
    repeat' first | (with_reducible refine And.intro (by omega) ?_) | (refine SW.seq_k fun K hK => ?_) | (refine SW.block ?_) | ((first | refine SW.region ?_ | refine SW.regionD (Checked.mixed Tryz.checked) (by kernel_rfl) ?_ | refine SW.cond ?_ | refine SW.skip ?_ | refine SW.exit ?_ | refine SW.ret ?_ | refine Call.of_pure (of) ?_ | refine ⟨_, of, ?_⟩ | refine Call.of_pure (li) ?_ | refine ⟨_, li, ?_⟩ | refine Call.of_pure (aw) ?_ | refine ⟨_, aw, ?_⟩ | (refine allF_i fun b hb => ?_; replace hD := And.intro hb hD; clear hb; try simp only [fresh_cons, fresh_nil, and_true, ne_eq, neF] at hD) | simp only [appK, appOsK]); try simp only [go_sem, hD, true_implies]) | (refine And.intro (by omega) ?_) | (refine ifI (fun hc => ?_) (fun hc => ?_) <;> first | (exfalso; omega) | skip) | (apply hK; clear hK K) | (clear hK K; apply hK; clear hK K) | (clear hK K; clear hK K; apply hK; clear hK K) | (clear hK K; clear hK K; clear hK K; apply hK; clear hK K) | (clear hK K; clear hK K; clear hK K; clear hK K; apply hK; clear hK K) | (clear hK K; clear hK K; clear hK K; clear hK K; clear hK K; apply hK; clear hK K)
    refine ret_pure ?_; simp only [resL_tmp, resL_nil, tupOf, go_sem, hD]
  rw [ofV_good h1, decide_eq_true h3] at of
  have Dr := ofT_dra h1
  have h3' := Dr.n3
  have li := list_r (ofT d) l hl h5 h0 (by omega) (dra_at Dr)
  have ig := ind_r (ofT d) ⟨gf, gt, gl, gr⟩ hg h0 (by omega) (dra_at Dr)
  have hf := dra_few Dr h0 l ⟨gf, gt, gl, gr⟩ h5
  have V := dra_vall Dr h0 l ⟨gf, gt, gl, gr⟩
  have hok := dra_okdb Dr
  clear Dr
  generalize indS (ofT d) ⟨gf, gt, gl, gr⟩ = G at *
  generalize (l.map (indS (ofT d))) = L at *
  generalize ofT d = db at *
  have hall := allS_of V (by omega)
  have hS := V.small hf.d4 hf.g3
  have dr := dist_r L G (nmsOf db) hS V.okL hf.ll (by have := hf.r3; omega)
  have hB := hS.bds
  have hci := fun P h => check_i db L G P (by omega) hf.ll hf.okl hf.okg hall h
  have bf : ((false : Bool) == false) = true := rfl
  have bt : ((true : Bool) == true) = true := rfl
  have hcr := fun P h => check_ir db L G P (by omega) hok hf.ll hf.okl hf.okg hall h
  by_cases hn : findS G.t G.r 0 (states L G) < 0
  · have pr := prove_no db L G hf hall hn
    have hck : ∀ P, chkP L G.t G.r P G.f G.l = false := fun P => by
      rw [Bool.eq_false_iff]
      intro h
      have k := chk_known (fun d hd => (V.l d hd).nl) (states_ok hS.bds).2 h (root_known (states_ok hS.bds).1)
      omega
    simp only [hck] at hci hcr
    have sp := Call.nilA (args := [SN, .agg (SpC ⟨⟨gf, gt, gl, gr⟩, kind, at_, delta⟩)]) 0 (by simp) rfl (hsp [] ⟨by simp, fun p hp => absurd hp List.not_mem_nil⟩ ⟨by simp, fun p hp => absurd hp List.not_mem_nil⟩)
    generalize distS L G = X at *
    clear hsp hck hB hS hok hall V hf
    obtain ⟨Gf, Gl', Gt, Gr⟩ := G
    refine Call.enter' (N := 73) (rs := [.tmp 6]) Tryz.func4 rfl rfl rfl (by decide) rfl ?_; simp only [argT]; have hD : (0 : Nat) = 0 := rfl
    repeat' first | ((refine Call.mono (Call.frameN (h1 := []) sp) ?_); (intro rr hh hx); (obtain ⟨h1, rfl, ⟨P', hP', rfl, rfl⟩, hnd⟩ := hx); (clear hnd); (have ci := hci P' hP'); (have cr := hcr P' hP'); (simp only [List.nil_append]); (try simp only [go_sem, hD])) | (with_reducible refine And.intro (by omega) ?_) | (refine SW.seq_k fun K hK => ?_) | (refine SW.block ?_) | ((first | refine SW.region ?_ | refine SW.regionD (Checked.mixed Tryz.checked) (by kernel_rfl) ?_ | refine SW.cond ?_ | refine SW.skip ?_ | refine SW.exit ?_ | refine SW.ret ?_ | refine Call.of_pure (of) ?_ | refine ⟨_, of, ?_⟩ | refine Call.of_pure (li) ?_ | refine ⟨_, li, ?_⟩ | refine Call.of_pure (aw) ?_ | refine ⟨_, aw, ?_⟩ | refine Call.of_pure (ig) ?_ | refine ⟨_, ig, ?_⟩ | refine Call.of_pure (pr) ?_ | refine ⟨_, pr, ?_⟩ | refine Call.of_pure (ci) ?_ | refine ⟨_, ci, ?_⟩ | refine Call.of_pure (cr) ?_ | refine ⟨_, cr, ?_⟩ | (refine allF_i fun b hb => ?_; replace hD := And.intro hb hD; clear hb; try simp only [fresh_cons, fresh_nil, and_true, ne_eq, neF] at hD) | simp only [appK, appOsK]); try simp only [go_sem, hD, bf, bt, true_implies]) | (refine And.intro (by omega) ?_) | (refine ifI (fun hc => ?_) (fun hc => ?_) <;> first | (exfalso; omega) | skip) | (apply hK; clear hK K) | (clear hK K; apply hK; clear hK K) | (clear hK K; clear hK K; apply hK; clear hK K) | (clear hK K; clear hK K; clear hK K; apply hK; clear hK K) | (clear hK K; clear hK K; clear hK K; clear hK K; apply hK; clear hK K) | (clear hK K; clear hK K; clear hK K; clear hK K; clear hK K; apply hK; clear hK K)
    refine ret_pure ?_; simp only [resL_tmp, resL_nil, tupOf, go_sem, hD]
  · have pr := prove_p db L G hf hall hn
    have hPl : OkP (proofS L G) := proof_okp hS hn
    have sp := hsp (proofS L G) hPl (proof_okp2 hS hn)
    have hd0 : 0 ≤ distS L G := by
      have := mt (dist_neg (l := L) (g := G)).1 hn
      omega
    generalize distS L G = X at *
    generalize proofS L G = P at *
    clear hsp hB hS hok hall V hf
    obtain ⟨Gf, Gl', Gt, Gr⟩ := G
    refine Call.enter' (N := 73) (rs := [.tmp 6]) Tryz.func4 rfl rfl rfl (by decide) rfl ?_; simp only [argT]; have hD : (0 : Nat) = 0 := rfl
    repeat' first | ((refine Call.mono (Call.frameN (h1 := []) sp) ?_); (intro rr hh hx); (obtain ⟨h1, rfl, ⟨P', hP', rfl, rfl⟩, hnd⟩ := hx); (clear hnd); (have ci := hci P' hP'); (have cr := hcr P' hP'); (clear hci hcr); (generalize chkP _ _ _ _ _ _ = z at *); (simp only [List.nil_append]); (cases z <;> (try simp only [go_sem, hD]))) | (with_reducible refine And.intro (by omega) ?_) | (refine SW.seq_k fun K hK => ?_) | (refine SW.block ?_) | ((first | refine SW.region ?_ | refine SW.regionD (Checked.mixed Tryz.checked) (by kernel_rfl) ?_ | refine SW.cond ?_ | refine SW.skip ?_ | refine SW.exit ?_ | refine SW.ret ?_ | refine Call.of_pure (of) ?_ | refine ⟨_, of, ?_⟩ | refine Call.of_pure (li) ?_ | refine ⟨_, li, ?_⟩ | refine Call.of_pure (aw) ?_ | refine ⟨_, aw, ?_⟩ | refine Call.of_pure (ig) ?_ | refine ⟨_, ig, ?_⟩ | refine Call.of_pure (pr) ?_ | refine ⟨_, pr, ?_⟩ | refine Call.of_pure (dr) ?_ | refine ⟨_, dr, ?_⟩ | refine Call.of_pure (ci) ?_ | refine ⟨_, ci, ?_⟩ | refine Call.of_pure (cr) ?_ | refine ⟨_, cr, ?_⟩ | (refine allF_i fun b hb => ?_; replace hD := And.intro hb hD; clear hb; try simp only [fresh_cons, fresh_nil, and_true, ne_eq, neF] at hD) | simp only [appK, appOsK]); try simp only [go_sem, hD, hd0, bf, bt, true_implies]) | (refine And.intro (by omega) ?_) | (refine ifI (fun hc => ?_) (fun hc => ?_) <;> first | (exfalso; omega) | skip) | (apply hK; clear hK K) | (clear hK K; apply hK; clear hK K) | (clear hK K; clear hK K; apply hK; clear hK K) | (clear hK K; clear hK K; clear hK K; apply hK; clear hK K) | (clear hK K; clear hK K; clear hK K; clear hK K; apply hK; clear hK K) | (clear hK K; clear hK K; clear hK K; clear hK K; clear hK K; apply hK; clear hK K)
    all_goals refine ret_pure ?_; simp only [resL_tmp, resL_nil, tupOf, go_sem, hD]
end Go.Proofs.YtblfodnajpamfaaGreatDoor
