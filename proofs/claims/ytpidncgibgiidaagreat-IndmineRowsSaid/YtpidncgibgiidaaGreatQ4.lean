/- Several texts in one: HD, P9, L0, HE, RA, IA, IB, IC, ID, IE, IF, NA, NB. -/
import Derived.Test.YtpidncgibgiidaaGreatQ3
import Derived.Test.YtpidncgibgiidaaGreatQ2
import Derived.Test.YtpidncgibgiidaaGreatZ15
import Derived.Test.YtpidncgibgiidaaGreatZ17
import Derived.Test.YtpidncgibgiidaaGreatZ21
import Derived.Test.YtpidncgibgiidaaGreatS1
set_option linter.unusedSimpArgs false
set_option linter.unusedVariables false
set_option linter.unusedSectionVars false
set_option maxHeartbeats 4000000
set_option maxRecDepth 20000
namespace Go.Ab.A15
open Go Go.Ab Go.Ab.A34 Go.Ab.A01
def mapB (S : List ByteArray) : List (Value × Value) := S.map fun s => (.string s, .bool true)
def fB (s : ByteArray) : Nat → List ByteArray → Option (Nat × Value)
  | _, [] => none
  | i, y :: l => if s = y then some (i, .bool true) else fB s (i + 1) l
theorem mfI_B (s : ByteArray) : ∀ (l : List ByteArray) (i : Nat), mfI .s (.string s) (mapB l) i = some (fB s i l)
  | [], i => rfl
  | y :: l, i => by
    show mfI .s (.string s) ((.string y, .bool true) :: mapB l) i = _
    rw [mfI, same_s]
    unfold fB
    by_cases e : s = y
    · rw [if_pos e, decide_eq_true e]
    · rw [if_neg e, decide_eq_false e]
      exact mfI_B s l (i + 1)
theorem fB_none {s : ByteArray} : ∀ {l : List ByteArray} {i : Nat}, s ∉ l → fB s i l = none
  | [], i, _ => rfl
  | y :: l, i, h => by
    unfold fB
    rw [if_neg (fun e => h (by rw [e]; exact List.mem_cons_self))]
    exact fB_none fun hm => h (List.mem_cons_of_mem _ hm)
theorem fB_some {s : ByteArray} : ∀ {l : List ByteArray} {i : Nat}, s ∈ l → ∃ k, fB s i l = some (i + k, .bool true) ∧ k < l.length ∧ l.getD k ⟨#[]⟩ = s
  | [], i, h => by cases h
  | y :: l, i, h => by
    unfold fB
    by_cases e : s = y
    · exact ⟨0, by rw [if_pos e]; rfl, by simp, by simp [e]⟩
    · obtain ⟨k, h1, h2, h3⟩ := fB_some (i := i + 1) ((List.mem_cons.1 h).resolve_left e)
      exact ⟨k + 1, by rw [if_neg e, h1, show i + 1 + k = i + (k + 1) by omega], by simpa using h2, by simpa using h3⟩
open Classical in
noncomputable def addB (l : List ByteArray) (s : ByteArray) : List ByteArray := if s ∈ l then l else l ++ [s]
theorem mset_B (s : ByteArray) (l : List ByteArray) : mset (.string s) (.bool true) (mapB l) (fB s 0 l) = mapB (addB l s) := by
  unfold addB
  by_cases h : s ∈ l
  · obtain ⟨k, h1, h2, h3⟩ := fB_some (i := 0) h
    rw [if_pos h, h1]
    show (mapB l).set (0 + k) (.string s, .bool true) = mapB l
    rw [Nat.zero_add]
    refine List.ext_getElem (by simp) fun j h4 h5 => ?_
    by_cases e : k = j
    · subst e
      rw [List.getElem_set_self]
      have e2 : (mapB l)[k] = (.string l[k], .bool true) := by simp [mapB]
      have : l.getD k ⟨#[]⟩ = l[k] := by simp [List.getD_eq_getElem?_getD, h2]
      rw [e2, ← this, h3]
    · rw [List.getElem_set_ne e]
  · rw [if_neg h, fB_none h]
    show mapB l ++ [(.string s, .bool true)] = mapB (l ++ [s])
    unfold mapB
    rw [List.map_append]
    rfl
theorem mem_addB {l : List ByteArray} {s x : ByteArray} : x ∈ addB l s ↔ x ∈ l ∨ x = s := by
  unfold addB
  by_cases h : s ∈ l
  · rw [if_pos h]
    exact ⟨.inl, fun h2 => h2.elim id (fun e => by rw [e]; exact h)⟩
  · rw [if_neg h, List.mem_append, List.mem_singleton]
noncomputable def keysB (T : List R3) (b : List Int) : Nat → List ByteArray
  | 0 => []
  | i + 1 => addB (keysB T b i) (mkB (catK (T.getD i r0) b))
theorem mem_keysB {T : List R3} {b : List Int} {x : ByteArray} : ∀ {i : Nat}, i ≤ T.length → (x ∈ keysB T b i ↔ ∃ j, j < i ∧ mkB (catK (T.getD j r0) b) = x)
  | 0, _ => ⟨fun h => (by cases h), fun ⟨j, h, _⟩ => absurd h (Nat.not_lt_zero _)⟩
  | i + 1, h => by
    rw [keysB, mem_addB, mem_keysB (i := i) (by omega)]
    constructor
    · rintro (⟨j, h1, h2⟩ | rfl)
      · exact ⟨j, by omega, h2⟩
      · exact ⟨i, by omega, rfl⟩
    · rintro ⟨j, h1, h2⟩
      rcases Nat.lt_or_eq_of_le (Nat.lt_succ_iff.1 h1) with h3 | h3
      · exact .inl ⟨j, h3, h2⟩
      · subst h3; exact .inr h2.symm
theorem mkB_inj {a b : List UInt8} (h : mkB a = mkB b) : a = b := by
  have := congrArg (fun x : ByteArray => x.data.toList) h
  simpa [mkB] using this
theorem key_any {T : List R3} {a b : List Int} {x : R3} (hab : a.length = b.length) (hx : OkR x) (hT : ∀ y ∈ T, OkR y) (ha : ∀ z ∈ a, 0 ≤ z ∧ z < x.2.length) (hb : ∀ y ∈ T, ∀ z ∈ b, 0 ≤ z ∧ z < y.2.length) :
    (mkB (catK x a) ∈ keysB T b T.length) ↔ (T.any fun y => agB a b x.2 y.2) = true := by
  rw [mem_keysB (Nat.le_refl _), List.any_eq_true]
  constructor
  · rintro ⟨j, hj, h⟩
    have hm := getD_mem r0 hj
    exact ⟨_, hm, agB_iff.2 ((catK_inj hx (hT _ hm) hab ha (hb _ hm)).1 (mkB_inj h).symm)⟩
  · rintro ⟨y, hy, h⟩
    obtain ⟨j, hj, rfl⟩ := List.getElem_of_mem hy
    have e : T.getD j r0 = T[j] := by simp [List.getD_eq_getElem?_getD, hj]
    exact ⟨j, hj, by rw [e, (catK_inj hx (hT _ hy) hab ha (hb _ hy)).2 (agB_iff.1 h)]⟩
end Go.Ab.A15
def Go.Ab.zHD_1 : Go.Ab.OZ := (.one 0 [0, 1, 7, 8, 9, 10] (.one 1 [1, 7, 8, 9, 10] (.one 2 [2, 3, 6, 7, 8, 9, 10] (.one 3 [3, 6, 7, 8, 9, 10] (.one 4 [4, 5, 6, 7, 8, 9, 10] (.one 5 [5, 6, 7, 8, 9, 10] (.one 6 [6, 7, 8, 9, 10] (.one 7 [7, 8, 9, 10] (.one 8 [8, 9, 10] (.one 9 [9, 10] (.one 10 [10] (.one 11 [11] .done))))))))))))
namespace Go.Proofs.YtpidncgibgiidaaGreat
open Go Go.Ab Go.Ab.A34 Go.Ab.A15 Go.Ab.A01
variable [Gl] [Tabs]
theorem viol_p (db : List Tb) (d : Dp) (hdb : db.length ≤ 9223372036854775807) (hd : OkD d) (hn : OkN db) (h : vE db d = 0) : PCall Tryz.prog 68 [DB db, DV d] (.tup [IL (violS (rowsAt db d.f) (rowsAt db d.t) d.l d.r), I64 0]) := by
  have c := valid_ip db d hdb hd
  rw [show (if ¬ chkS db = 0 then chkS db else fitsS db d) = vE db d from rfl, h] at c
  obtain ⟨V, F⟩ := vE_ok h
  have kf := rows_k V F.f
  have kt := rows_k V F.t
  have nf := rows_n hn F.f
  have nt := rows_n hn F.t
  have l1 := idxN_lt F.f
  have l2 := idxN_lt F.t
  have nl : (nmsOf db).length = db.length := by unfold nmsOf; rw [List.length_map]
  rw [nl] at l1 l2
  have c1 := find_p d.f db db.length (by omega) rfl (tF db) (fun i hi => rfl)
  have c2 := find_p d.t db db.length (by omega) rfl (tF db) (fun i hi => rfl)
  have e1 := tabI_idx (i := 0) F.f
  have e2 := tabI_idx (i := 0) F.t
  rw [Nat.zero_add] at e1 e2
  rw [e1] at c1
  rw [e2] at c2
  have b16 := in16_len F.nl (F.in16l V)
  have b16r := in16_len F.nr (F.in16r V)
  have fl : ∀ x ∈ rowsAt db d.f, ∀ z ∈ d.l, 0 ≤ z ∧ z < x.2.length := fun x hx z hz => by rw [kf.l x hx]; exact F.l z hz
  have tl : ∀ y ∈ rowsAt db d.t, ∀ z ∈ d.r, 0 ≤ z ∧ z < y.2.length := fun y hy z hz => by rw [kt.l y hy]; exact F.r z hz
  have okf : ∀ x ∈ rowsAt db d.f, OkR x := fun x hx => ⟨kf.v x hx, nf x hx⟩
  have okt : ∀ x ∈ rowsAt db d.t, OkR x := fun x hx => ⟨kt.v x hx, nt x hx⟩
  have kpf := fun x (hx : x ∈ rowsAt db d.f) => key_p x d.l (okf x hx) (fl x hx) (by omega)
  have kpt := fun x (hx : x ∈ rowsAt db d.t) => key_p x d.r (okt x hx) (tl x hx) (by omega)
  have kan := fun x (hx : x ∈ rowsAt db d.f) => key_any (T := rowsAt db d.t) (x := x) F.lr (okf x hx) okt (fl x hx) tl
  have kfn := kf.n
  have ktn := kt.n
  unfold rowsAt at kpf kpt kan kfn ktn ⊢
  have ff : tF db (idxN d.f (nmsOf db)) = tC (db.getD (idxN d.f (nmsOf db)) t0) := rfl
  have ft : tF db (idxN d.t (nmsOf db)) = tC (db.getD (idxN d.t (nmsOf db)) t0) := rfl
  clear kf kt nf nt F V e1 e2 h fl tl okf okt
  generalize idxN d.f (nmsOf db) = p at *
  generalize idxN d.t (nmsOf db) = q at *
  have p1 : ((p : Nat) : Int) < ((db.length : Nat) : Int) := by omega
  have q1 : ((q : Nat) : Int) < ((db.length : Nat) : Int) := by omega
  have p0 : (0 : Int) ≤ ((p : Nat) : Int) := by omega
  have q0 : (0 : Int) ≤ ((q : Nat) : Int) := by omega
  have pe : ((p : Nat) : Int).toNat = p := Int.toNat_natCast _
  have qe : ((q : Nat) : Int).toNat = q := Int.toNat_natCast _
  generalize db.getD p t0 = tp at *
  generalize db.getD q t0 = tq at *
  obtain ⟨pn, pa, fr⟩ := tp
  obtain ⟨qn, qa, tr⟩ := tq
  obtain ⟨df, dl, dt, dr⟩ := d
  simp only at kpf kpt kan kfn ktn c1 c2 ⊢
  obtain ⟨W, hW⟩ : ∃ W, W = violP fr tr dl dr := ⟨_, rfl⟩
  have hWs := fun i hi => @violP_succ fr tr dl dr i hi
  have hWl := violP_len fr tr dl dr
  have hWe : violS fr tr dl dr = W fr.length := by rw [hW]; rfl
  have hW0 : W 0 = [] := by rw [hW]; rfl
  rw [← hW] at hWs hWl
  rw [hWe]
  clear hW hWe
  refine Call.enter' (N := 70) (rs := [.tmp 4, .tmp 5]) Tryz.func68 rfl rfl rfl (by decide) rfl ?_; simp only [argT]; have hD : (0 : Nat) = 0 := rfl
  repeat' first | (refine SW.seq_k fun K hK => ?_) | ((first | refine SW.region ?_ | refine SW.cond ?_ | refine SW.skip ?_ | refine Call.of_pure (c) ?_ | (refine allF_i fun b hb => ?_; replace hD := And.intro hb hD; clear hb; try simp only [fresh_cons, fresh_nil, and_true, ne_eq, neF] at hD)); try simp only [go_sem, hD, true_implies]) | (apply hK; clear hK K)
  obtain ⟨mb, rfl⟩ : ∃ x, x = b := ⟨_, rfl⟩
  obtain ⟨b3, rfl⟩ : ∃ x, x = b := ⟨_, rfl⟩
  obtain ⟨b2, rfl⟩ : ∃ x, x = b := ⟨_, rfl⟩
  refine Ab.SW.le (S' := ⟨[(2, .fp [TL db]), (3, .fp [Str df, IL dl, Str dt, IL dr]), (4, SN), (5, I64 0), (7, .mp mb)], [(mb, .mp [])]⟩) ?_ ?_
  · refine St.le.trans (St.le_freezeP (i := 3) (b := b3) (off := 0) (n := 4) (k := .svs [Str df, IL dl, Str dt, IL dr]) rfl (by simp [find_cons, hD]) (by exact Nat.le_refl 4)) ?_
    simp only [getN, Blk.get, go_sem, hD]
    refine St.le.trans (St.le_freezeP (i := 2) (b := b2) (off := 0) (n := 1) (k := .svs [TL db]) rfl (by simp [find_cons, hD]) (by exact Nat.le_refl 1)) ?_
    simp only [getN, Blk.get, go_sem, hD]
    exact St.le_sub (by repeat' (first | exact rfl | exact trivial | constructor))
  clear hD
  have hD : (0 : Nat) = 0 := rfl
  repeat' first | (refine SW.block ?_) | ((first | refine SW.regionZ (id := 5) (Checked.mixed Tryz.checked) Go.Ab.zHD_1 (by kernel_rfl) ?_ | refine ⟨_, c2, ?_⟩); try simp only [Go.Ab.zHD_1, go_sem, hD, p1, q1, p0, q0, pe, qe, ff, ft, true_implies]) | (apply hK; clear hK K)
  obtain ⟨I, hI⟩ : ∃ I : Nat → St → Prop, ∀ k S, I k S ↔ (∃ (i : Nat) , k = tr.length - i ∧ i ≤ tr.length ∧ S = ⟨[(2, .fp [TL db]), (3, .fp [Str df, IL dl, Str dt, IL dr]), (4, SN), (5, I64 0), (7, .mp mb), (29, RL tr), (30, I64 tr.length), (31, I64 i)], [(mb, .mp (mapB (keysB tr dr i)))]⟩) := ⟨fun k S => _, fun _ _ => Iff.rfl⟩
  refine SW.loop' I (tr.length) ((hI _ _).2 ⟨0, rfl, Nat.zero_le _, rfl⟩) (by repeat' (first | exact rfl | exact trivial | constructor)) ?_
  intro k S hIn
  obtain ⟨i, rfl, hi, rfl⟩ := (hI _ _).1 hIn
  clear hIn
  have ie : ((i : Nat) : Int).toNat = i := Int.toNat_natCast _
  have i0 : (0 : Int) ≤ ((i : Nat) : Int) := by omega
  by_cases hlt : i < tr.length
  · have hli : ((i : Nat) : Int) < (((tr.length) : Nat) : Int) := by omega
    have w1 : IntKind.i64.wrap ((i : Int) + 1) = ((i + 1 : Nat) : Int) := by rw [i64_wrap (by omega) (by omega)]; omega
    have fi : rF tr i = [I64 (tr.getD i r0).1, VL (tr.getD i r0).2] := rfl
    have kp := kpt _ (getD_mem r0 hlt)
    have mf := mfI_B (mkB (catK (tr.getD i r0) dr)) (keysB tr dr i) 0
    have ms := mset_B (mkB (catK (tr.getD i r0) dr)) (keysB tr dr i)
    have hks : keysB tr dr (i + 1) = addB (keysB tr dr i) (mkB (catK (tr.getD i r0) dr)) := rfl
    rw [← hks] at ms
    clear hks
    generalize mkB (catK (tr.getD i r0) dr) = key at *
    generalize tr.getD i r0 = y at *
    obtain ⟨yi, ys⟩ := y
    simp only at fi kp
    generalize fB key 0 (keysB tr dr i) = fz at *
    repeat' first | (refine SW.seq_k fun K hK => ?_) | (refine SW.block ?_) | ((first | refine SW.region ?_ | refine SW.cond ?_ | refine SW.skip ?_ | refine Call.of_pure (kp) ?_ | (refine allF_i fun b hb => ?_; replace hD := And.intro hb hD; clear hb; try simp only [fresh_cons, fresh_nil, and_true, ne_eq, neF] at hD)); try simp only [go_sem, hD, hli, ie, i0, w1, fi, mf, ms, true_implies]) | (apply hK; clear hK K)
    refine Rnd.le (St.le_slist (List.Sublist.cons _ (List.Sublist.refl _))) ?_
    refine Rnd.sub (tr.length - (i + 1)) (by omega) ((hI _ _).2 ⟨i + 1, rfl, by omega, rfl⟩) (by repeat' (first | exact rfl | exact trivial | constructor))
  · have hli : ¬ ((i : Nat) : Int) < (((tr.length) : Nat) : Int) := by omega
    obtain rfl : i = tr.length := by omega
    generalize keysB tr dr tr.length = Ks at *
    repeat' first | (refine SW.seq_k fun K hK => ?_) | (refine SW.block ?_) | ((first | refine SW.region ?_ | refine SW.regionZ (id := 11) (Checked.mixed Tryz.checked) Go.Ab.zHD_1 (by kernel_rfl) ?_ | refine SW.cond ?_ | refine SW.exit ?_ | refine ⟨_, c1, ?_⟩); try simp only [Go.Ab.zHD_1, go_sem, hD, hli, p1, q1, p0, q0, pe, qe, ff, ft, true_implies]) | (apply hK; clear hK K) | (clear hK K; apply hK; clear hK K)
    have hD : (0 : Nat) = 0 := rfl
    obtain ⟨I, hI⟩ : ∃ I : Nat → St → Prop, ∀ k S, I k S ↔ (∃ (k2 : Nat) (x : SV) (h : Heap), k = fr.length - k2 ∧ k2 ≤ fr.length ∧ ((W k2 = [] ∧ x = SN ∧ h = []) ∨ ∃ g, ¬ g = mb ∧ ¬ mb = g ∧ x = .os g 0 (W k2).length 1 ∧ h = [(g, .ints .i64 (W k2))]) ∧ S = ⟨[(2, .fp [TL db]), (3, .fp [Str df, IL dl, Str dt, IL dr]), (4, SN), (5, I64 0), (7, .mp mb), (10, x), (50, RL fr), (51, I64 fr.length), (52, I64 k2)], (mb, .mp (mapB Ks)) :: h⟩) := ⟨fun k S => _, fun _ _ => Iff.rfl⟩
    refine SW.loop' I (fr.length) ((hI _ _).2 ⟨0, SN, [], rfl, Nat.zero_le _, .inl ⟨hW0, rfl, rfl⟩, rfl⟩) (by repeat' (first | exact rfl | exact trivial | constructor)) ?_
    intro k S hIn
    obtain ⟨k2, x, h, rfl, hi, hB, rfl⟩ := (hI _ _).1 hIn
    clear hIn
    have ie : ((k2 : Nat) : Int).toNat = k2 := Int.toNat_natCast _
    have i0 : (0 : Int) ≤ ((k2 : Nat) : Int) := by omega
    by_cases hlk : k2 < fr.length
    · have hli : ((k2 : Nat) : Int) < (((fr.length) : Nat) : Int) := by omega
      have w1 : IntKind.i64.wrap ((k2 : Int) + 1) = ((k2 + 1 : Nat) : Int) := by rw [i64_wrap (by omega) (by omega)]; omega
      have fi : rF fr k2 = [I64 (fr.getD k2 r0).1, VL (fr.getD k2 r0).2] := rfl
      have kp := kpf _ (getD_mem r0 hlk)
      have ka := kan _ (getD_mem r0 hlk)
      have mf := mfI_B (mkB (catK (fr.getD k2 r0) dl)) Ks 0
      have hst := hWs k2 hlk
      have hwl := hWl k2
      generalize (tr.any fun y => agB dl dr (fr.getD k2 r0).2 y.2) = av at *
      generalize mkB (catK (fr.getD k2 r0) dl) = key at *
      generalize fr.getD k2 r0 = y at *
      obtain ⟨yi, ys⟩ := y
      simp only at fi kp hst
      cases av with
      | true =>
        obtain ⟨j, hj, _⟩ := fB_some (i := 0) (ka.2 rfl)
        rw [hj] at mf
        rw [if_pos rfl] at hst
        rcases hB with ⟨hw0, rfl, rfl⟩ | ⟨g, u1, u2, rfl, rfl⟩
        · repeat' first | (refine SW.seq_k fun K hK => ?_) | (refine SW.block ?_) | ((first | refine SW.region ?_ | refine SW.cond ?_ | refine SW.skip ?_ | refine Call.of_pure (kp) ?_ | (refine allF_i fun b hb => ?_; replace hD := And.intro hb hD; clear hb; try simp only [fresh_cons, fresh_nil, and_true, ne_eq, neF] at hD)); try simp only [go_sem, hD, hli, ie, i0, w1, fi, mf, true_implies]) | (apply hK; clear hK K)
          refine Rnd.le (St.le_slist (List.Sublist.cons _ (List.Sublist.refl _))) ?_
          refine Rnd.sub (fr.length - (k2 + 1)) (by omega) ((hI _ _).2 ⟨k2 + 1, SN, [], rfl, by omega, .inl ⟨by rw [hst, hw0], rfl, rfl⟩, rfl⟩) (by repeat' (first | exact rfl | exact trivial | constructor))
        · have hD := And.intro (eq_false u1) (eq_false u2)
          repeat' first | (refine SW.seq_k fun K hK => ?_) | (refine SW.block ?_) | ((first | refine SW.region ?_ | refine SW.cond ?_ | refine SW.skip ?_ | refine Call.of_pure (kp) ?_ | (refine allF_i fun b hb => ?_; replace hD := And.intro hb hD; clear hb; try simp only [fresh_cons, fresh_nil, and_true, ne_eq, neF] at hD)); try simp only [go_sem, hD, hli, ie, i0, w1, fi, mf, true_implies]) | (apply hK; clear hK K)
          refine Rnd.le (St.le_slist (List.Sublist.cons _ (List.Sublist.refl _))) ?_
          refine Rnd.sub (fr.length - (k2 + 1)) (by omega) ((hI _ _).2 ⟨k2 + 1, .os g 0 (W k2).length 1, [(g, .ints .i64 (W k2))], rfl, by omega, .inr ⟨g, u1, u2, by rw [hst], by rw [hst]⟩, rfl⟩) (by repeat' (first | exact rfl | exact trivial | constructor))
      | false =>
        have hj := fB_none (i := 0) (fun h => by have := ka.1 h; cases this)
        rw [hj] at mf
        rw [if_neg (by simp)] at hst
        have ba : ((W k2).length + 1) * 8 ≤ 140737488355328 := by omega
        rcases hB with ⟨hw0, rfl, rfl⟩ | ⟨g, u1, u2, rfl, rfl⟩
        · have hst2 : W (k2 + 1) = [yi] := by rw [hst, hw0]; rfl
          repeat' first | (with_reducible refine And.intro (by omega) ?_) | (refine SW.seq_k fun K hK => ?_) | (refine SW.block ?_) | ((first | refine SW.region ?_ | refine SW.cond ?_ | refine SW.skip ?_ | refine Call.of_pure (kp) ?_ | (refine allF_i fun b hb => ?_; replace hD := And.intro hb hD; clear hb; try simp only [fresh_cons, fresh_nil, and_true, ne_eq, neF] at hD) | simp only [appK, appOsK]); try simp only [go_sem, hD, hli, ie, i0, w1, fi, mf, ba, true_implies]) | (refine And.intro (by omega) ?_) | (apply hK; clear hK K)
          refine Rnd.le ((St.le_slist (List.Sublist.cons_cons _ (List.Sublist.cons _ (List.Sublist.cons _ (List.Sublist.refl _))))).trans (St.le_perm (h' := [(mb, .mp (mapB Ks)), (b, .ints .i64 [yi])]) (List.Perm.swap _ _ _))) ?_
          refine Rnd.sub (fr.length - (k2 + 1)) (by omega) ((hI _ _).2 ⟨k2 + 1, .os b 0 1 1, [(b, .ints .i64 [yi])], rfl, by omega, .inr ⟨b, by simp [hD], by simp [hD], by rw [hst2]; rfl, by rw [hst2]⟩, rfl⟩) (by repeat' (first | exact rfl | exact trivial | constructor))
        · have hD := And.intro (eq_false u1) (eq_false u2)
          have hst2 : (W (k2 + 1)).length = (W k2).length + 1 := by rw [hst, List.length_append]; rfl
          repeat' first | (with_reducible refine And.intro (by omega) ?_) | (refine SW.seq_k fun K hK => ?_) | (refine SW.block ?_) | ((first | refine SW.region ?_ | refine SW.cond ?_ | refine SW.skip ?_ | refine Call.of_pure (kp) ?_ | (refine allF_i fun b hb => ?_; replace hD := And.intro hb hD; clear hb; try simp only [fresh_cons, fresh_nil, and_true, ne_eq, neF] at hD) | simp only [appK, appOsK]); try simp only [go_sem, hD, hli, ie, i0, w1, fi, mf, ba, true_implies]) | (apply hK; clear hK K)
          refine Rnd.le (St.le_slist (List.Sublist.cons _ (List.Sublist.cons _ (List.Sublist.refl _)))) ?_
          refine Rnd.sub (fr.length - (k2 + 1)) (by omega) ((hI _ _).2 ⟨k2 + 1, .os b 0 ((W k2).length + 1) 1, [(b, .ints .i64 (W k2 ++ [yi]))], rfl, by omega, .inr ⟨b, by simp [hD], by simp [hD], by rw [hst2], by rw [hst]⟩, rfl⟩) (by repeat' (first | exact rfl | exact trivial | constructor))
    · have hli : ¬ ((k2 : Nat) : Int) < (((fr.length) : Nat) : Int) := by omega
      obtain rfl : k2 = fr.length := by omega
      generalize W fr.length = R at *
      rcases hB with ⟨rfl, rfl, rfl⟩ | ⟨g, u1, u2, rfl, rfl⟩
      · repeat' first | (refine SW.seq_k fun K hK => ?_) | ((first | refine SW.region ?_ | refine SW.cond ?_ | refine SW.exit ?_ | refine SW.ret ?_); try simp only [go_sem, hD, hli, true_implies]) | (apply hK; clear hK K) | (clear hK K; apply hK; clear hK K)
        refine retQ_le (S' := ⟨[(4, IL []), (5, I64 0)], []⟩) ?_ ?_
        · refine St.le.trans (St.le_say (i := 4) (v := IL []) (fun E u hr => Rep.fl_nil hr)) ?_
          exact St.le.trans St.le_drop (St.le_sub (by repeat' (first | exact rfl | exact trivial | constructor)))
        simp only [resL_tmp, resL_nil, tupOf, go_sem, hD]
        try exact rfl
      · have hD := And.intro (eq_false u1) (eq_false u2)
        repeat' first | (refine SW.seq_k fun K hK => ?_) | ((first | refine SW.region ?_ | refine SW.cond ?_ | refine SW.exit ?_ | refine SW.ret ?_); try simp only [go_sem, hD, hli, true_implies]) | (apply hK; clear hK K) | (clear hK K; apply hK; clear hK K)
        refine retQ_le ((St.le_ints (i := 4) .i64 R rfl rfl (by rw [find_cons, if_neg u2, find_cons, if_pos rfl]) rfl).trans St.le_drop) ?_
        simp only [resL_tmp, resL_nil, tupOf, go_sem, hD]
        try exact rfl
end Go.Proofs.YtpidncgibgiidaaGreat
namespace Go.Ab.A15
open Go Go.Ab Go.Ab.A34
theorem emp_nil9 : emp (⟨#[]⟩ : ByteArray) = true := barr_eq.2 rfl
theorem code_okV9 (c : Int) : okV (codeV c) = true := by
  have e := emp_nil9
  unfold codeV
  repeat' split
  all_goals (unfold okV vok; simp [e])
  all_goals decide
theorem nm_ok9 : ∀ n, n < 6 → namesB (nm8.take n) = true := by decide +kernel
theorem nmT_ok (i : Nat) : nameB (nmT i).data.toList = true := by
  unfold nmT
  split
  · decide +kernel
  · split <;> decide +kernel
theorem nmT_inj {i j : Nat} (hi : i < 3) (hj : j < 3) (h : nmT i = nmT j) : i = j := by
  have k1 : ¬ (⟨#[114]⟩ : ByteArray) = ⟨#[115]⟩ := by decide
  have k2 : ¬ (⟨#[114]⟩ : ByteArray) = ⟨#[116]⟩ := by decide
  have k3 : ¬ (⟨#[115]⟩ : ByteArray) = ⟨#[116]⟩ := by decide
  have hi3 : i = 0 ∨ i = 1 ∨ i = 2 := by omega
  have hj3 : j = 0 ∨ j = 1 ∨ j = 2 := by omega
  rcases hi3 with rfl | rfl | rfl <;> rcases hj3 with rfl | rfl | rfl <;> first | rfl | (simp only [nmT, if_pos, if_neg, if_true, if_false, reduceCtorEq, Nat.reduceEqDiff, ↓reduceIte] at h; first | exact absurd h k1 | exact absurd h k2 | exact absurd h k3 | exact absurd h.symm k1 | exact absurd h.symm k2 | exact absurd h.symm k3)
theorem tabD_attrs (x : Rc) (i : Nat) : (tabD x i).attrs.length ≤ 3 := by
  show (nm8.take (x.attrs % 4 % 6).toNat).length ≤ 3
  rw [List.length_take]
  have : (x.attrs % 4 % 6).toNat ≤ 3 := by omega
  omega
theorem tabD_rows (x : Rc) (i : Nat) : (tabD x i).rows.length = x.rows.length := by
  show ((List.range x.rows.length).map _).length = _
  simp
theorem tabD_rlen (x : Rc) (i : Nat) : ∀ r ∈ (tabD x i).rows, r.2.length ≤ 6 := fun r hr => by
  obtain ⟨k, _, rfl⟩ := List.mem_map.1 hr
  show (((List.range (x.attrs % 4 % 6).toNat).map _).length) ≤ 6
  rw [List.length_map, List.length_range]
  omega
theorem tabD_valid (x : Rc) (i : Nat) (h : x.rows.length ≤ 1000) : validS (tabD x i) = 0 := by
  obtain ⟨n, hn0⟩ : ∃ n, n = (x.attrs % 4 % 6).toNat := ⟨_, rfl⟩
  have hn : n < 6 := by omega
  have hal : (nm8.take n).length = n := by
    rw [List.length_take]
    have : nm8.length = 8 := rfl
    omega
  obtain ⟨g, hg⟩ : ∃ g, g = 1 + x.gap % 3 := ⟨_, rfl⟩
  have hg1 : 1 ≤ g := by omega
  have hr : ∀ (k j : Nat) (p : Int), p < 1 + (j : Int) * g → rowsV n p ((List.range' j k).map fun i => rowS x.gap n i (x.rows.getD i [])) = 0 := fun k => by
    induction k with
    | zero => intro j p _; rfl
    | succ k ih =>
      intro j p hp
      have e1 : (rowS x.gap n j (x.rows.getD j [])).1 = 1 + (j : Int) * g := by rw [hg]; rfl
      rw [List.range'_succ, List.map_cons, rowsV, e1, if_neg (by omega), if_neg (by simp [rowS]), if_pos (by
        rw [List.all_eq_true]
        intro v hv
        unfold rowS at hv
        obtain ⟨c, _, rfl⟩ := List.mem_map.1 hv
        exact code_okV9 _)]
      refine ih (j + 1) _ ?_
      have : ((j + 1 : Nat) : Int) * g = (j : Int) * g + g := by rw [Int.natCast_add, Int.add_mul]; simp
      rw [this]
      omega
  have hlen := tabD_rows x i
  have hat : (tabD x i).attrs = nm8.take n := by rw [hn0]; rfl
  have hro : (tabD x i).rows = (List.range x.rows.length).map fun i => rowS x.gap n i (x.rows.getD i []) := by rw [hn0]; rfl
  unfold validS
  rw [if_pos (show nameB (tabD x i).name.data.toList = true from nmT_ok i), if_neg (show ¬ (16 < (tabD x i).attrs.length ∨ 1000 < (tabD x i).rows.length) by rw [hlen, hat, hal]; omega), hat, if_pos (nm_ok9 n hn), hro, List.range_eq_range', hal]
  exact hr _ 0 0 (by omega)
theorem chkF_zero {db : List Tb} (hv : ∀ j, j < db.length → validS (db.getD j t0) = 0) (hn : ∀ j, j < db.length → tabI (db.getD j t0).name 0 (db.take j) < 0) : ∀ (g i : Nat), i + g = db.length → chkF db g i = 0
  | 0, i, _ => rfl
  | g + 1, i, h => by
    have h1 := hn i (by omega)
    unfold chkF
    rw [if_neg (fun x => x (hv i (by omega))), if_neg (by omega)]
    exact chkF_zero hv hn g (i + 1) (by omega)
theorem chkS_of {db : List Tb} (h : Vdb db) (hl : db.length ≤ 50) : chkS db = 0 := by
  unfold chkS
  rw [if_neg (by omega)]
  refine chkF_zero (fun j hj => h.v _ (getD_mem' t0 hj)) (fun j hj => ?_) _ 0 (by omega)
  rcases tabI_is (x := (db.getD j t0).name) (l := db.take j) (i := 0) with ⟨h1, _⟩ | ⟨k, _, h2, h3, _⟩
  · omega
  · exfalso
    rw [List.length_take] at h2
    have e : (db.take j).getD k t0 = db.getD k t0 := by simp [List.getD_eq_getElem?_getD, List.getElem?_take, show k < j by omega]
    rw [e] at h3
    have hp := List.pairwise_iff_getElem.1 h.n k j (by unfold nmsOf; rw [List.length_map]; omega) (by unfold nmsOf; rw [List.length_map]; omega) (by omega)
    unfold nmsOf at hp
    rw [List.getElem_map, List.getElem_map] at hp
    refine hp ?_
    rw [show db.getD k t0 = db[k] by simp [List.getD_eq_getElem?_getD, show k < db.length by omega], show db.getD j t0 = db[j] by simp [List.getD_eq_getElem?_getD, hj]] at h3
    exact h3
theorem fitsS_of {db : List Tb} {d : Dp} (h : Fit (nmsOf db) (nsOf db) d) : fitsS db d = 0 := by
  have ef := tabI_idx (i := 0) h.f
  have et := tabI_idx (i := 0) h.t
  have gn : ∀ i, (nsOf db).getD i 0 = (db.getD i t0).attrs.length := fun i => by
    unfold nsOf
    simp only [List.getD_eq_getElem?_getD, List.getElem?_map]
    cases db[i]? <;> rfl
  unfold fitsS
  rw [ef, et]
  simp only [Nat.zero_add, Int.toNat_natCast]
  rw [if_neg (by omega), if_neg, if_pos ⟨h.nl, h.nr⟩]
  rintro (h1 | h1 | h1)
  · exact h1 h.lr
  · have := winB_iff.2 (fun a ha => by have := h.l a ha; rw [gn] at this; exact this : ∀ a ∈ d.l, 0 ≤ a ∧ a < ((db.getD (idxN d.f (nmsOf db)) t0).attrs.length : Int))
    rw [this] at h1
    cases h1
  · have := winB_iff.2 (fun a ha => by have := h.r a ha; rw [gn] at this; exact this : ∀ a ∈ d.r, 0 ≤ a ∧ a < ((db.getD (idxN d.t (nmsOf db)) t0).attrs.length : Int))
    rw [this] at h1
    cases h1
theorem pickF_ok {n : Int} (hn : 0 < n) : ∀ {l pre : List Int}, (pre.Nodup ∧ ∀ x ∈ pre, 0 ≤ x ∧ x < n) → ((pickF n pre l).Nodup ∧ ∀ x ∈ pickF n pre l, 0 ≤ x ∧ x < n)
  | [], pre, h => h
  | x :: l, pre, h => by
    unfold pickF
    split
    · rename_i hx
      have h1 : x % n ∉ pre := atI_none.1 hx
      refine pickF_ok hn ⟨?_, fun y hy => ?_⟩
      · rw [List.nodup_append]
        exact ⟨h.1, by simp, fun a ha b hb e => h1 (by rw [List.mem_singleton] at hb; rw [← hb, ← e]; exact ha)⟩
      · rcases List.mem_append.1 hy with h2 | h2
        · exact h.2 y h2
        · rw [List.mem_singleton] at h2
          rw [h2]
          exact ⟨Int.emod_nonneg _ (by omega), Int.emod_lt_of_pos _ hn⟩
    · exact pickF_ok hn h
theorem pickS_ok (l : List Int) (n : Nat) : (pickS l n).Nodup ∧ ∀ x ∈ pickS l n, 0 ≤ x ∧ x < (n : Int) := by
  unfold pickS
  split
  · exact ⟨List.nodup_nil, fun x hx => by cases hx⟩
  · exact pickF_ok (by omega) ⟨List.nodup_nil, fun x hx => by cases hx⟩
structure Dra (db : List Tb) : Prop where
  vd : Vdb db
  n3 : db.length ≤ 3
  a3 : ∀ t ∈ db, t.attrs.length ≤ 3
  rl : ∀ t ∈ db, ∀ r ∈ t.rows, r.2.length ≤ 6
  r6 : ∀ t ∈ db, t.rows.length ≤ 6
  nm : ∀ j, j < db.length → (db.getD j t0).name = nmT j
theorem ofT_dra {d : List Rc} (h : goodD d) : Dra (ofT d) := by
  have hl : (ofT d).length = min d.length 3 := by simp [ofT]
  have hm : ∀ t ∈ ofT d, ∃ i, i < min d.length 3 ∧ t = tabD (d.getD i rc0) i := fun t ht => by
    obtain ⟨i, hi, rfl⟩ := List.mem_map.1 ht
    exact ⟨i, List.mem_range.1 hi, rfl⟩
  have hg : ∀ j, j < (ofT d).length → ((ofT d).getD j t0).name = nmT j := fun j hj => by
    rw [hl] at hj
    unfold ofT
    rw [getD_range _ _ hj]
    rfl
  refine ⟨⟨fun t ht => ?_, ?_⟩, by omega, fun t ht => ?_, fun t ht => ?_, fun t ht => ?_, hg⟩
  · obtain ⟨i, hi, rfl⟩ := hm t ht
    exact tabD_valid _ _ (by have := h i hi; omega)
  · refine List.pairwise_iff_getElem.2 fun i j hi hj hij e => ?_
    unfold nmsOf at hi hj e
    rw [List.length_map] at hi hj
    rw [List.getElem_map, List.getElem_map] at e
    have g1 := hg i hi
    have g2 := hg j hj
    rw [show (ofT d).getD i t0 = (ofT d)[i] by simp [List.getD_eq_getElem?_getD, hi]] at g1
    rw [show (ofT d).getD j t0 = (ofT d)[j] by simp [List.getD_eq_getElem?_getD, hj]] at g2
    rw [g1, g2] at e
    have := nmT_inj (by omega) (by omega) e
    omega
  · obtain ⟨i, hi, rfl⟩ := hm t ht
    exact tabD_attrs _ _
  · obtain ⟨i, hi, rfl⟩ := hm t ht
    exact tabD_rlen _ _
  · obtain ⟨i, hi, rfl⟩ := hm t ht
    rw [tabD_rows]
    exact h i hi
theorem idx_at {db : List Tb} (h : (nmsOf db).Nodup) {j : Nat} (hj : j < db.length) : (db.getD j t0).name ∈ nmsOf db ∧ idxN (db.getD j t0).name (nmsOf db) = j := by
  have hm : (db.getD j t0).name ∈ nmsOf db := List.mem_map.2 ⟨_, getD_mem' t0 hj, rfl⟩
  refine ⟨hm, ?_⟩
  have h2 := idxN_lt hm
  have h2' : idxN (db.getD j t0).name (nmsOf db) < db.length := by unfold nmsOf at h2; rwa [List.length_map] at h2
  rcases tabI_is (x := (db.getD j t0).name) (l := db) (i := 0) with ⟨_, h3⟩ | ⟨k, e1, h4, h5, _⟩
  · exact absurd rfl (h3 _ (getD_mem' t0 hj))
  · have e2 := tabI_idx (i := 0) hm
    have ek : idxN (db.getD j t0).name (nmsOf db) = k := by omega
    rw [ek]
    refine Classical.byContradiction fun hne => ?_
    have hp := List.pairwise_iff_getElem.1 h
    have g1 : db.getD j t0 = db[j] := by simp [List.getD_eq_getElem?_getD, hj]
    have g2 : db.getD k t0 = db[k] := by simp [List.getD_eq_getElem?_getD, h4]
    rcases Nat.lt_or_gt_of_ne hne with hlt | hgt
    · have := hp k j (by unfold nmsOf; rw [List.length_map]; exact h4) (by unfold nmsOf; rw [List.length_map]; exact hj) hlt
      unfold nmsOf at this
      rw [List.getElem_map, List.getElem_map, ← g1, ← g2] at this
      exact this h5
    · have := hp j k (by unfold nmsOf; rw [List.length_map]; exact hj) (by unfold nmsOf; rw [List.length_map]; exact h4) hgt
      unfold nmsOf at this
      rw [List.getElem_map, List.getElem_map, ← g1, ← g2] at this
      exact this h5.symm
theorem ind_fit {db : List Tb} (h : Dra db) (h0 : 0 < db.length) (x : Lk) : Fit (nmsOf db) (nsOf db) (indS db x) := by
  have p0 : (0 : Int) < (db.length : Int) := by omega
  have f1 := Int.emod_nonneg x.f (show (db.length : Int) ≠ 0 by omega)
  have f2 := Int.emod_lt_of_pos x.f p0
  have t1 := Int.emod_nonneg x.t (show (db.length : Int) ≠ 0 by omega)
  have t2 := Int.emod_lt_of_pos x.t p0
  obtain ⟨mf, ef⟩ := idx_at h.vd.n (j := (x.f % db.length).toNat) (by omega)
  obtain ⟨mt, et⟩ := idx_at h.vd.n (j := (x.t % db.length).toNat) (by omega)
  have gn : ∀ i, (nsOf db).getD i 0 = (db.getD i t0).attrs.length := fun i => by
    unfold nsOf
    simp only [List.getD_eq_getElem?_getD, List.getElem?_map]
    cases db[i]? <;> rfl
  obtain ⟨p1, p2⟩ := pickS_ok x.l (db.getD (x.f % db.length).toNat t0).attrs.length
  obtain ⟨q1, q2⟩ := pickS_ok x.r (db.getD (x.t % db.length).toNat t0).attrs.length
  unfold indS
  refine ⟨mf, mt, ?_, ?_, ?_, ?_, ?_⟩
  · show (List.take _ _).length = (List.take _ _).length
    rw [List.length_take, List.length_take]
    omega
  · intro y hy
    have := p2 y (List.mem_of_mem_take hy)
    show 0 ≤ y ∧ y < (((nsOf db).getD (idxN (db.getD (x.f % db.length).toNat t0).name (nmsOf db)) 0 : Nat) : Int)
    rw [ef, gn]
    exact this
  · intro y hy
    have := q2 y (List.mem_of_mem_take hy)
    show 0 ≤ y ∧ y < (((nsOf db).getD (idxN (db.getD (x.t % db.length).toNat t0).name (nmsOf db)) 0 : Nat) : Int)
    rw [et, gn]
    exact this
  · exact p1.sublist (List.take_sublist _ _)
  · exact q1.sublist (List.take_sublist _ _)
theorem dra_ns {db : List Tb} (h : Dra db) (i : Nat) : (nsOf db).getD i 0 ≤ 3 := by
  unfold nsOf
  simp only [List.getD_eq_getElem?_getD, List.getElem?_map]
  cases hi : db[i]? with
  | none => exact Nat.zero_le _
  | some t => exact h.a3 t (List.mem_of_getElem? hi)
theorem fit_len3 {db : List Tb} (h : Dra db) {d : Dp} (hf : Fit (nmsOf db) (nsOf db) d) : d.l.length ≤ 3 ∧ d.r.length ≤ 3 := by
  have h1 := few_nums hf.nl hf.l
  have h2 := few_nums hf.nr hf.r
  have h3 := dra_ns h (idxN d.f (nmsOf db))
  have h4 := dra_ns h (idxN d.t (nmsOf db))
  omega
end Go.Ab.A15
namespace Go.Ab.A15
open Go Go.Ab Go.Ab.A34
theorem dra_okdb {db : List Tb} (h : Dra db) : OkDb db := fun t ht r hr => by have := h.rl t ht r hr; omega
end Go.Ab.A15
namespace Go.Proofs.YtpidncgibgiidaaGreat
open Go Go.Ab Go.Ab.A34 Go.Ab.A15
theorem ofV_bad {d : List Rc} (h : ¬ goodD d) : ofV d = .tup [.agg [SN], SB false] := if_neg h
theorem ofV_good {d : List Rc} (h : goodD d) : ofV d = .tup [DB (ofT d), SB (decide (d.length ≤ 3))] := if_pos h
end Go.Proofs.YtpidncgibgiidaaGreat
namespace Go.Ab.A15
open Go Go.Ab Go.Ab.A34
def hldB (db : List Tb) (d : Dp) : Bool := decide (vE db d = 0) && (violS (rowsAt db d.f) (rowsAt db d.t) d.l d.r).isEmpty
theorem viol_nil {F T : List R3} {a b : List Int} : violS F T a b = [] ↔ ∀ x ∈ F, ∃ y ∈ T, Agr v0 a b x.2 y.2 := by
  unfold violS violP
  rw [List.take_length, List.map_eq_nil_iff, List.filter_eq_nil_iff]
  constructor
  · intro h x hx
    have := h x hx
    simp only [Bool.not_eq_true', Bool.not_eq_false, List.any_eq_true] at this
    obtain ⟨y, hy, e⟩ := this
    exact ⟨y, hy, agB_iff.1 e⟩
  · intro h x hx
    obtain ⟨y, hy, e⟩ := h x hx
    simp only [Bool.not_eq_true', Bool.not_eq_false, List.any_eq_true]
    exact ⟨y, hy, agB_iff.2 e⟩
theorem posFd_step {p : Dp → Bool} {l : List Dp} {i : Nat} (h : i < l.length) : posF p i (l.drop i) = if p (l.getD i d0) = true then (i : Int) else posF p (i + 1) (l.drop (i + 1)) := posF_step d0 h
end Go.Ab.A15
namespace Go.Proofs.YtpidncgibgiidaaGreat
open Go Go.Ab Go.Ab.A34 Go.Ab.A15
variable [Gl] [Tabs]
theorem indexF_d (g : FuncId) (caps : List SV) (p : Dp → Bool) (l : List Dp) (hl : l.length ≤ 1000000) (hg : ∀ d ∈ l, PCall Tryz.prog g (DV d :: caps) (SB (p d))) : PCall Tryz.prog 52 [DpL l, .fn (.func g) [] caps] (I64 (posF p 0 l)) := by
  obtain ⟨R, hR⟩ : ∃ R, R = posF p 0 l := ⟨_, rfl⟩
  rw [← hR]
  refine Call.enter' (N := 19) (rs := [.tmp 4]) Tryz.func52 rfl rfl rfl (by decide) rfl ?_; simp only [argT]; have hD : (0 : Nat) = 0 := rfl
  repeat' first | (refine SW.seq_k fun K hK => ?_) | (refine SW.block ?_) | (refine SW.region ?_; try simp only [go_sem, hD]) | (apply hK; clear hK K)
  obtain ⟨I, hI⟩ : ∃ I : Nat → St → Prop, ∀ k S, I k S ↔ (∃ (i : Nat) , k = l.length - i ∧ i ≤ l.length ∧ R = posF p i (l.drop i) ∧ S = ⟨[(0, DpL l), (1, .fn (.func g) [] caps), (7, I64 l.length), (8, I64 i)], []⟩) := ⟨fun k S => _, fun _ _ => Iff.rfl⟩
  refine SW.loop' I (l.length) ((hI _ _).2 ⟨0, rfl, Nat.zero_le _, hR, rfl⟩) (by repeat' (first | exact rfl | exact trivial | constructor)) ?_
  intro k S hIn
  obtain ⟨i, rfl, hi, hC, rfl⟩ := (hI _ _).1 hIn
  clear hIn
  have ie : ((i : Nat) : Int).toNat = i := Int.toNat_natCast _
  have i0 : (0 : Int) ≤ ((i : Nat) : Int) := by omega
  clear hR
  by_cases hlt : i < l.length
  · have hli : ((i : Nat) : Int) < (((l.length) : Nat) : Int) := by omega
    have w1 : IntKind.i64.wrap ((i : Int) + 1) = ((i + 1 : Nat) : Int) := by rw [i64_wrap (by omega) (by omega)]; omega
    rw [posFd_step hlt] at hC
    have fi : dpF l i = dC (l.getD i d0) := rfl
    have c := hg _ (getD_mem' d0 hlt)
    generalize l.getD i d0 = t at *
    obtain ⟨df, dl, dt, dr⟩ := t
    cases he : p ⟨df, dl, dt, dr⟩ with
    | true =>
      rw [he] at c
      rw [he, if_pos rfl] at hC
      subst hC
      repeat' first | (refine SW.seq_k fun K hK => ?_) | (refine SW.block ?_) | ((first | refine SW.region ?_ | refine SW.cond ?_ | refine SW.skip ?_ | refine SW.ret ?_ | refine Call.of_pure (c) ?_); try simp only [go_sem, hD, hli, ie, i0, w1, fi]) | (apply hK; clear hK K)
      refine ret_pure ?_; simp only [resL_tmp, resL_nil, tupOf, go_sem, hD]
    | false =>
      rw [he] at c
      rw [he, if_neg (by simp)] at hC
      repeat' first | (refine SW.seq_k fun K hK => ?_) | (refine SW.block ?_) | ((first | refine SW.region ?_ | refine SW.cond ?_ | refine SW.skip ?_ | refine Call.of_pure (c) ?_); try simp only [go_sem, hD, hli, ie, i0, w1, fi]) | (apply hK; clear hK K)
      refine Rnd.sub (l.length - (i + 1)) (by omega) ((hI _ _).2 ⟨i + 1, rfl, by omega, hC, rfl⟩) (by repeat' (first | exact rfl | exact trivial | constructor))
  · have hli : ¬ ((i : Nat) : Int) < (((l.length) : Nat) : Int) := by omega
    rw [List.drop_of_length_le (by omega)] at hC
    have hC2 : R = -1 := hC
    subst hC2
    repeat' first | (refine SW.seq_k fun K hK => ?_) | ((first | refine SW.region ?_ | refine SW.cond ?_ | refine SW.exit ?_ | refine SW.ret ?_); try simp only [go_sem, hD, hli]) | (apply hK; clear hK K) | (clear hK K; apply hK; clear hK K)
    refine ret_pure ?_; simp only [resL_tmp, resL_nil, tupOf, go_sem, hD]
theorem contF_d (g : FuncId) (caps : List SV) (p : Dp → Bool) (l : List Dp) (hl : l.length ≤ 1000000) (hg : ∀ d ∈ l, PCall Tryz.prog g (DV d :: caps) (SB (p d))) : PCall Tryz.prog 20 [DpL l, .fn (.func g) [] caps] (SB (l.any p)) := by
  have ix := indexF_d g caps p l hl hg
  have hm := posF_any p l 0
  generalize posF p 0 l = z at *
  cases ha : l.any p with
  | true =>
    have hz := hm.2 ha
    refine Call.enter' (N := 9) (rs := [.tmp 4]) Tryz.func20 rfl rfl rfl (by decide) rfl ?_; simp only [argT]; have hD : (0 : Nat) = 0 := rfl
    repeat' first | (refine SW.seq_k fun K hK => ?_) | ((first | refine SW.region ?_ | refine SW.ret ?_ | refine Call.of_pure (ix) ?_); try simp only [go_sem, hD, hz, true_implies]) | (apply hK; clear hK K)
    refine ret_pure ?_; simp only [resL_tmp, resL_nil, tupOf, go_sem, hD]
  | false =>
    have hz : ¬ 0 ≤ z := fun h => by have := hm.1 h; rw [ha] at this; cases this
    refine Call.enter' (N := 9) (rs := [.tmp 4]) Tryz.func20 rfl rfl rfl (by decide) rfl ?_; simp only [argT]; have hD : (0 : Nat) = 0 := rfl
    repeat' first | (refine SW.seq_k fun K hK => ?_) | ((first | refine SW.region ?_ | refine SW.ret ?_ | refine Call.of_pure (ix) ?_); try simp only [go_sem, hD, hz, true_implies]) | (apply hK; clear hK K)
    refine ret_pure ?_; simp only [resL_tmp, resL_nil, tupOf, go_sem, hD]
end Go.Proofs.YtpidncgibgiidaaGreat
namespace Go.Ab.A15
open Go Go.Ab Go.Ab.A34
def cmp3 (a b : V3) : Int := cmpV a.1 a.2.1 a.2.2 b.1 b.2.1 b.2.2
def lexV : List V3 → List V3 → Int
  | a :: x, b :: y => if cmp3 a b = 0 then lexV x y else cmp3 a b
  | x, y => sgn x.length y.length
theorem lexV_nil (y : List V3) : lexV [] y = sgn 0 y.length := by
  cases y <;> rfl
theorem lexV_nil' (x : List V3) : lexV x [] = sgn x.length 0 := by
  cases x <;> rfl
theorem lexV_step {x y : List V3} {i : Nat} (hx : i < x.length) (hy : i < y.length) : lexV (x.drop i) (y.drop i) = if cmp3 (x.getD i v0) (y.getD i v0) = 0 then lexV (x.drop (i + 1)) (y.drop (i + 1)) else cmp3 (x.getD i v0) (y.getD i v0) := by
  have g1 : x.getD i v0 = x[i] := by simp [List.getD_eq_getElem?_getD, hx]
  have g2 : y.getD i v0 = y[i] := by simp [List.getD_eq_getElem?_getD, hy]
  rw [List.drop_eq_getElem_cons hx, List.drop_eq_getElem_cons hy, g1, g2, lexV]
theorem sgn_add (a b i : Nat) : sgn ((i + a : Nat) : Int) ((i + b : Nat) : Int) = sgn (a : Int) (b : Int) := by
  unfold sgn
  split <;> split <;> (try split) <;> (try split) <;> omega
theorem lexV_end {x y : List V3} {i : Nat} (hx : i ≤ x.length) (hy : i ≤ y.length) (h : ¬ (i < x.length ∧ i < y.length)) : lexV (x.drop i) (y.drop i) = sgn x.length y.length := by
  by_cases h1 : i < x.length
  · have h2 : y.length = i := by omega
    rw [List.drop_of_length_le (show y.length ≤ i by omega), lexV_nil', List.length_drop]
    have := sgn_add (x.length - i) 0 i
    rw [show i + (x.length - i) = x.length by omega, show i + 0 = y.length by omega] at this
    rw [this]
    rfl
  · have h2 : x.length = i := by omega
    rw [List.drop_of_length_le (show x.length ≤ i by omega), lexV_nil, List.length_drop]
    have := sgn_add 0 (y.length - i) i
    rw [show i + (y.length - i) = y.length by omega, show i + 0 = x.length by omega] at this
    rw [this]
    rfl
theorem cmp3_zero {a b : V3} : cmp3 a b = 0 ↔ a = b := by
  unfold cmp3
  rw [cmpV_zero]
  obtain ⟨a1, a2, a3⟩ := a
  obtain ⟨b1, b2, b3⟩ := b
  simp
theorem lexV_zero : ∀ {x y : List V3}, lexV x y = 0 ↔ x = y
  | [], y => by
    rw [lexV_nil, sgn_zero]
    cases y with
    | nil => simp
    | cons b y => simp; omega
  | a :: x, [] => by
    rw [lexV_nil', sgn_zero]
    simp
    omega
  | a :: x, b :: y => by
    rw [lexV]
    by_cases h : cmp3 a b = 0
    · rw [if_pos h, lexV_zero, cmp3_zero.1 h]
      simp
    · rw [if_neg h]
      constructor
      · intro h2; exact absurd h2 h
      · intro h2
        rw [List.cons.injEq] at h2
        exact absurd (cmp3_zero.2 h2.1) h
def SzV (x : List V3) : Prop := x.length ≤ 1000 ∧ ∀ v ∈ x, v.2.2.size ≤ 1000
end Go.Ab.A15
def Go.Ab.zRA_1 : Go.Ab.OZ := (.one 0 [0, 2, 3, 8, 9] (.one 1 [1, 2, 3, 8, 9] (.one 2 [2, 3, 8, 9] (.one 3 [3, 8, 9] (.one 4 [4, 6, 7, 8, 9] (.one 5 [5, 6, 7, 8, 9] (.one 6 [6, 7, 8, 9] (.one 7 [7, 8, 9] (.one 8 [8, 9] (.one 9 [9] .done))))))))))
namespace Go.Proofs.YtpidncgibgiidaaGreat
open Go Go.Ab Go.Ab.A34 Go.Ab.A15
variable [Gl] [Tabs]
theorem lists_r (x y : List V3) (hx : SzV x) (hy : SzV y) : PCall Tryz.prog 82 [VL x, VL y] (I64 (lexV x y)) := by
  obtain ⟨R, hR⟩ : ∃ R, R = lexV x y := ⟨_, rfl⟩
  rw [← hR]
  have hR0 : R = lexV (x.drop 0) (y.drop 0) := hR
  clear hR
  have hxl := hx.1
  have hyl := hy.1
  refine Call.enter' (N := 36) (rs := [.tmp 4]) Tryz.func82 rfl rfl rfl (by decide) rfl ?_; simp only [argT]; have hD : (0 : Nat) = 0 := rfl
  repeat' first | (refine SW.seq_k fun K hK => ?_) | (refine SW.block ?_) | (refine SW.region ?_; try simp only [go_sem, hD]) | (apply hK; clear hK K)
  obtain ⟨I, hI⟩ : ∃ I : Nat → St → Prop, ∀ k S, I k S ↔ (∃ (i : Nat) , k = min x.length y.length - i ∧ i ≤ min x.length y.length ∧ R = lexV (x.drop i) (y.drop i) ∧ S = ⟨[(0, VL x), (1, VL y), (4, I64 0), (5, I64 i)], []⟩) := ⟨fun k S => _, fun _ _ => Iff.rfl⟩
  refine SW.loop' I (min x.length y.length) ((hI _ _).2 ⟨0, rfl, Nat.zero_le _, hR0, rfl⟩) (by repeat' (first | exact rfl | exact trivial | constructor)) ?_
  intro k S hIn
  obtain ⟨i, rfl, hi, hC, rfl⟩ := (hI _ _).1 hIn
  clear hIn
  have ie : ((i : Nat) : Int).toNat = i := Int.toNat_natCast _
  have i0 : (0 : Int) ≤ ((i : Nat) : Int) := by omega
  clear hR0
  by_cases hlt : i < x.length ∧ i < y.length
  · obtain ⟨h1, h2⟩ := hlt
    have hli : ((i : Nat) : Int) < ((x.length : Nat) : Int) := by omega
    have hlj : ((i : Nat) : Int) < ((y.length : Nat) : Int) := by omega
    have w1 : IntKind.i64.wrap ((i : Int) + 1) = ((i + 1 : Nat) : Int) := by rw [i64_wrap (by omega) (by omega)]; omega
    have fx : vF x i = vC (x.getD i v0) := rfl
    have fy : vF y i = vC (y.getD i v0) := rfl
    have sx := hx.2 _ (getD_mem v0 h1)
    have sy := hy.2 _ (getD_mem v0 h2)
    rw [lexV_step h1 h2] at hC
    generalize x.getD i v0 = v at *
    generalize y.getD i v0 = w at *
    obtain ⟨v1, v2, v3⟩ := v
    obtain ⟨u1, u2, u3⟩ := w
    simp only at sx sy
    have cr := compare_r v1 v2 v3 u1 u2 u3 (by omega) (by omega)
    have e3 : cmp3 (v1, v2, v3) (u1, u2, u3) = cmpV v1 v2 v3 u1 u2 u3 := rfl
    rw [e3] at hC
    generalize cmpV v1 v2 v3 u1 u2 u3 = c at *
    by_cases hc : c = 0
    · rw [if_pos hc] at hC
      subst hc
      repeat' first | (refine SW.seq_k fun K hK => ?_) | (refine SW.block ?_) | ((first | refine SW.region ?_ | refine SW.regionZ (id := 4) (Checked.mixed Tryz.checked) Go.Ab.zRA_1 (by kernel_rfl) ?_ | refine SW.cond ?_ | refine SW.skip ?_ | refine ⟨_, cr, ?_⟩); try simp only [Go.Ab.zRA_1, go_sem, hD, hli, hlj, ie, i0, w1, fx, fy, true_implies]) | (apply hK; clear hK K)
      all_goals
        refine Rnd.sub (min x.length y.length - (i + 1)) (by omega) ((hI _ _).2 ⟨i + 1, rfl, by omega, hC, rfl⟩) (by repeat' (first | exact rfl | exact trivial | constructor))
    · rw [if_neg hc] at hC
      subst hC
      repeat' first | (refine SW.seq_k fun K hK => ?_) | (refine SW.block ?_) | ((first | refine SW.region ?_ | refine SW.regionZ (id := 4) (Checked.mixed Tryz.checked) Go.Ab.zRA_1 (by kernel_rfl) ?_ | refine SW.cond ?_ | refine SW.skip ?_ | refine SW.ret ?_ | refine ⟨_, cr, ?_⟩); try simp only [Go.Ab.zRA_1, go_sem, hD, hli, hlj, ie, i0, w1, fx, fy, hc, true_implies]) | (apply hK; clear hK K)
      all_goals
        refine ret_pure ?_; simp only [resL_tmp, resL_nil, tupOf, go_sem, hD]
  · rw [lexV_end (by omega) (by omega) hlt] at hC
    have cs := sign_r x.length y.length
    by_cases h1 : i < x.length
    · have hli : ((i : Nat) : Int) < ((x.length : Nat) : Int) := by omega
      have hlj : ¬ ((i : Nat) : Int) < ((y.length : Nat) : Int) := by omega
      subst hC
      repeat' first | (refine SW.seq_k fun K hK => ?_) | ((first | refine SW.region ?_ | refine SW.cond ?_ | refine SW.exit ?_ | refine SW.ret ?_ | refine Call.of_pure (cs) ?_); try simp only [go_sem, hD, hli, hlj, true_implies]) | (apply hK; clear hK K) | (clear hK K; apply hK; clear hK K)
      refine ret_pure ?_; simp only [resL_tmp, resL_nil, tupOf, go_sem, hD]
    · have hli : ¬ ((i : Nat) : Int) < ((x.length : Nat) : Int) := by omega
      subst hC
      repeat' first | (refine SW.seq_k fun K hK => ?_) | ((first | refine SW.region ?_ | refine SW.cond ?_ | refine SW.exit ?_ | refine SW.ret ?_ | refine Call.of_pure (cs) ?_); try simp only [go_sem, hD, hli, true_implies]) | (apply hK; clear hK K) | (clear hK K; apply hK; clear hK K)
      refine ret_pure ?_; simp only [resL_tmp, resL_nil, tupOf, go_sem, hD]
theorem same_v (x y : List V3) (hx : SzV x) (hy : SzV y) : PCall Tryz.prog 38 [VL x, VL y] (SB (decide (x = y))) := by
  have c := lists_r x y hx hy
  have z := @lexV_zero x y
  generalize lexV x y = q at *
  by_cases h : q = 0
  · rw [decide_eq_true (z.1 h)]
    subst h
    refine Call.enter' (N := 9) (rs := [.tmp 4]) Tryz.func38 rfl rfl rfl (by decide) rfl ?_; simp only [argT]; have hD : (0 : Nat) = 0 := rfl
    repeat' first | (refine SW.seq_k fun K hK => ?_) | ((first | refine SW.region ?_ | refine SW.ret ?_ | refine Call.of_pure (c) ?_); try simp only [go_sem, hD, true_implies]) | (apply hK; clear hK K)
    refine ret_pure ?_; simp only [resL_tmp, resL_nil, tupOf, go_sem, hD]
  · rw [decide_eq_false (fun e => h (z.2 e))]
    refine Call.enter' (N := 9) (rs := [.tmp 4]) Tryz.func38 rfl rfl rfl (by decide) rfl ?_; simp only [argT]; have hD : (0 : Nat) = 0 := rfl
    repeat' first | (refine SW.seq_k fun K hK => ?_) | ((first | refine SW.region ?_ | refine SW.ret ?_ | refine Call.of_pure (c) ?_); try simp only [go_sem, hD, h, true_implies]) | (apply hK; clear hK K)
    refine ret_pure ?_; simp only [resL_tmp, resL_nil, tupOf, go_sem, hD]
end Go.Proofs.YtpidncgibgiidaaGreat
namespace Go.Ab.A15
open Go Go.Ab Go.Ab.A34
theorem tabI_any (x : ByteArray) : ∀ (l : List Tb) (i : Nat), (0 ≤ tabI x i l) ↔ l.any (fun t => decide (t.name = x)) = true
  | [], i => by simp [tabI]
  | t :: l, i => by
    unfold tabI
    rw [List.any_cons]
    by_cases h : t.name = x
    · rw [if_pos h, decide_eq_true h]
      simp
    · rw [if_neg h, decide_eq_false h, Bool.false_or]
      exact tabI_any x l (i + 1)
def chkD (db : List Tb) : Int := if chkS db = 0 then (if 6 < db.length ∨ db.any (fun t => decide (6 < t.attrs.length)) = true then 3 else 0) else chkS db
end Go.Ab.A15
namespace Go.Proofs.YtpidncgibgiidaaGreat
open Go Go.Ab Go.Ab.A34 Go.Ab.A15
variable [Gl] [Tabs]
theorem indexF_t (g : FuncId) (caps : List SV) (p : Tb → Bool) (l : List Tb) (n : Nat) (f : Nat → List SV) (hn : n = l.length) (hf : ∀ j, j < l.length → f j = tF l j) (hl : l.length ≤ 1000000) (hg : ∀ d ∈ l, PCall Tryz.prog g (TB d :: caps) (SB (p d))) : PCall Tryz.prog 54 [.fl n 3 f, .fn (.func g) [] caps] (I64 (posF p 0 l)) := by
  subst hn
  obtain ⟨R, hR⟩ : ∃ R, R = posF p 0 l := ⟨_, rfl⟩
  rw [← hR]
  refine Call.enter' (N := 19) (rs := [.tmp 4]) Tryz.func54 rfl rfl rfl (by decide) rfl ?_; simp only [argT]; have hD : (0 : Nat) = 0 := rfl
  repeat' first | (refine SW.seq_k fun K hK => ?_) | (refine SW.block ?_) | (refine SW.region ?_; try simp only [go_sem, hD]) | (apply hK; clear hK K)
  obtain ⟨I, hI⟩ : ∃ I : Nat → St → Prop, ∀ k S, I k S ↔ (∃ (i : Nat) , k = l.length - i ∧ i ≤ l.length ∧ R = posF p i (l.drop i) ∧ S = ⟨[(0, .fl l.length 3 f), (1, .fn (.func g) [] caps), (7, I64 l.length), (8, I64 i)], []⟩) := ⟨fun k S => _, fun _ _ => Iff.rfl⟩
  refine SW.loop' I (l.length) ((hI _ _).2 ⟨0, rfl, Nat.zero_le _, hR, rfl⟩) (by repeat' (first | exact rfl | exact trivial | constructor)) ?_
  intro k S hIn
  obtain ⟨i, rfl, hi, hC, rfl⟩ := (hI _ _).1 hIn
  clear hIn
  have ie : ((i : Nat) : Int).toNat = i := Int.toNat_natCast _
  have i0 : (0 : Int) ≤ ((i : Nat) : Int) := by omega
  clear hR
  by_cases hlt : i < l.length
  · have hli : ((i : Nat) : Int) < (((l.length) : Nat) : Int) := by omega
    have w1 : IntKind.i64.wrap ((i : Int) + 1) = ((i + 1 : Nat) : Int) := by rw [i64_wrap (by omega) (by omega)]; omega
    rw [posF_step t0 hlt] at hC
    have fi : f i = tC (l.getD i t0) := hf i hlt
    have c := hg _ (getD_mem' t0 hlt)
    generalize l.getD i t0 = t at *
    obtain ⟨tn, ta, tr⟩ := t
    cases he : p ⟨tn, ta, tr⟩ with
    | true =>
      rw [he] at c
      rw [he, if_pos rfl] at hC
      subst hC
      repeat' first | (refine SW.seq_k fun K hK => ?_) | (refine SW.block ?_) | ((first | refine SW.region ?_ | refine SW.cond ?_ | refine SW.skip ?_ | refine SW.ret ?_ | refine Call.of_pure (c) ?_); try simp only [go_sem, hD, hli, ie, i0, w1, fi]) | (apply hK; clear hK K)
      refine ret_pure ?_; simp only [resL_tmp, resL_nil, tupOf, go_sem, hD]
    | false =>
      rw [he] at c
      rw [he, if_neg (by simp)] at hC
      repeat' first | (refine SW.seq_k fun K hK => ?_) | (refine SW.block ?_) | ((first | refine SW.region ?_ | refine SW.cond ?_ | refine SW.skip ?_ | refine Call.of_pure (c) ?_); try simp only [go_sem, hD, hli, ie, i0, w1, fi]) | (apply hK; clear hK K)
      refine Rnd.sub (l.length - (i + 1)) (by omega) ((hI _ _).2 ⟨i + 1, rfl, by omega, hC, rfl⟩) (by repeat' (first | exact rfl | exact trivial | constructor))
  · have hli : ¬ ((i : Nat) : Int) < (((l.length) : Nat) : Int) := by omega
    rw [List.drop_of_length_le (by omega)] at hC
    have hC2 : R = -1 := hC
    subst hC2
    repeat' first | (refine SW.seq_k fun K hK => ?_) | ((first | refine SW.region ?_ | refine SW.cond ?_ | refine SW.exit ?_ | refine SW.ret ?_); try simp only [go_sem, hD, hli]) | (apply hK; clear hK K) | (clear hK K; apply hK; clear hK K)
    refine ret_pure ?_; simp only [resL_tmp, resL_nil, tupOf, go_sem, hD]
theorem contF_t (g : FuncId) (caps : List SV) (p : Tb → Bool) (l : List Tb) (n : Nat) (f : Nat → List SV) (hn : n = l.length) (hf : ∀ j, j < l.length → f j = tF l j) (hl : l.length ≤ 1000000) (hg : ∀ d ∈ l, PCall Tryz.prog g (TB d :: caps) (SB (p d))) : PCall Tryz.prog 89 [.fl n 3 f, .fn (.func g) [] caps] (SB (l.any p)) := by
  have ix := indexF_t g caps p l n f hn hf hl hg
  have hm := posF_any p l 0
  generalize posF p 0 l = z at *
  cases ha : l.any p with
  | true =>
    have hz := hm.2 ha
    refine Call.enter' (N := 9) (rs := [.tmp 4]) Tryz.func89 rfl rfl rfl (by decide) rfl ?_; simp only [argT]; have hD : (0 : Nat) = 0 := rfl
    repeat' first | (refine SW.seq_k fun K hK => ?_) | ((first | refine SW.region ?_ | refine SW.ret ?_ | refine Call.of_pure (ix) ?_); try simp only [go_sem, hD, hz, true_implies]) | (apply hK; clear hK K)
    refine ret_pure ?_; simp only [resL_tmp, resL_nil, tupOf, go_sem, hD]
  | false =>
    have hz : ¬ 0 ≤ z := fun h => by have := hm.1 h; rw [ha] at this; cases this
    refine Call.enter' (N := 9) (rs := [.tmp 4]) Tryz.func89 rfl rfl rfl (by decide) rfl ?_; simp only [argT]; have hD : (0 : Nat) = 0 := rfl
    repeat' first | (refine SW.seq_k fun K hK => ?_) | ((first | refine SW.region ?_ | refine SW.ret ?_ | refine Call.of_pure (ix) ?_); try simp only [go_sem, hD, hz, true_implies]) | (apply hK; clear hK K)
    refine ret_pure ?_; simp only [resL_tmp, resL_nil, tupOf, go_sem, hD]
theorem same_nm (t d : Tb) : PCall Tryz.prog 128 (TB d :: [.fp (tC t)]) (SB (decide (d.name = t.name))) := by
  obtain ⟨tn, ta, tr⟩ := t
  obtain ⟨dn, da, dr⟩ := d
  have h1 := @barr_eq dn tn
  have h2 : (dn.toList == tn.toList) = decide (dn = tn) := by rw [Bool.eq_iff_iff, decide_eq_true_eq]; exact h1
  refine Call.enter' (N := 9) (rs := [.tmp 3]) Tryz.func128 rfl rfl rfl (by decide) rfl ?_; simp only [argT]; have hD : (0 : Nat) = 0 := rfl
  repeat' first | (refine SW.seq_k fun K hK => ?_) | ((first | refine SW.region ?_ | refine SW.ret ?_ | (refine allF_i fun b hb => ?_; replace hD := And.intro hb hD; clear hb; try simp only [fresh_cons, fresh_nil, and_true, ne_eq, neF] at hD)); try simp only [go_sem, hD, h2, true_implies]) | (apply hK; clear hK K)
  refine ret_pure ?_; simp only [resL_tmp, resL_nil, tupOf, go_sem, hD]
theorem wide_f (d : Tb) : PCall Tryz.prog 90 [TB d] (SB (decide (6 < d.attrs.length))) := by
  obtain ⟨dn, da, dr⟩ := d
  have hh : ((6 : Int) < ((da.length : Nat) : Int)) = (6 < da.length) := propext (by omega)
  refine Call.enter' (N := 7) (rs := [.tmp 2]) Tryz.func90 rfl rfl rfl (by decide) rfl ?_; simp only [argT]; have hD : (0 : Nat) = 0 := rfl
  repeat' first | (refine SW.seq_k fun K hK => ?_) | ((first | refine SW.region ?_ | refine SW.ret ?_ | (refine allF_i fun b hb => ?_; replace hD := And.intro hb hD; clear hb; try simp only [fresh_cons, fresh_nil, and_true, ne_eq, neF] at hD)); try simp only [go_sem, hD, hh, true_implies]) | (apply hK; clear hK K)
  refine ret_pure ?_; simp only [resL_tmp, resL_nil, tupOf, go_sem, hD]
theorem database_p (db : List Tb) (hdb : db.length ≤ 1000000) : PCall Tryz.prog 88 [DB db] (I64 (chkS db)) := by
  obtain ⟨R, hR⟩ : ∃ R, R = chkS db := ⟨_, rfl⟩
  rw [← hR]
  unfold chkS at hR
  by_cases h50 : 50 < db.length
  · rw [if_pos h50] at hR
    subst hR
    have h50i : (50 : Int) < ((db.length : Nat) : Int) := by omega
    refine Call.enter' (N := 30) (rs := [.tmp 2]) Tryz.func88 rfl rfl rfl (by decide) rfl ?_; simp only [argT]; have hD : (0 : Nat) = 0 := rfl
    repeat' first | (refine SW.seq_k fun K hK => ?_) | ((first | refine SW.region ?_ | refine SW.cond ?_ | refine SW.ret ?_ | (refine allF_i fun b hb => ?_; replace hD := And.intro hb hD; clear hb; try simp only [fresh_cons, fresh_nil, and_true, ne_eq, neF] at hD)); try simp only [go_sem, hD, h50i]) | (apply hK; clear hK K)
    refine ret_pure ?_; simp only [resL_tmp, resL_nil, tupOf, go_sem, hD]
  · rw [if_neg h50] at hR
    have h50i : ¬ (50 : Int) < ((db.length : Nat) : Int) := by omega
    refine Call.enter' (N := 30) (rs := [.tmp 2]) Tryz.func88 rfl rfl rfl (by decide) rfl ?_; simp only [argT]; have hD : (0 : Nat) = 0 := rfl
    repeat' first | (refine SW.seq_k fun K hK => ?_) | (refine SW.block ?_) | ((first | refine SW.region ?_ | refine SW.cond ?_ | refine SW.skip ?_ | (refine allF_i fun b hb => ?_; replace hD := And.intro hb hD; clear hb; try simp only [fresh_cons, fresh_nil, and_true, ne_eq, neF] at hD)); try simp only [go_sem, hD, h50i]) | (apply hK; clear hK K)
    obtain ⟨xb, rfl⟩ : ∃ x, x = b := ⟨_, rfl⟩
    obtain ⟨I, hI⟩ : ∃ I : Nat → St → Prop, ∀ k S, I k S ↔ (∃ (i : Nat) , k = db.length - i ∧ i ≤ db.length ∧ R = chkF db (db.length - i) i ∧ S = ⟨[(1, .op xb 0), (11, TL db), (12, I64 db.length), (13, I64 i)], [(xb, .svs [TL db])]⟩) := ⟨fun k S => _, fun _ _ => Iff.rfl⟩
    refine SW.loop' I (db.length) ((hI _ _).2 ⟨0, rfl, Nat.zero_le _, hR, rfl⟩) (by repeat' (first | exact rfl | exact trivial | constructor)) ?_
    intro k S hIn
    obtain ⟨i, rfl, hi, hC, rfl⟩ := (hI _ _).1 hIn
    clear hIn
    have ie : ((i : Nat) : Int).toNat = i := Int.toNat_natCast _
    have i0 : (0 : Int) ≤ ((i : Nat) : Int) := by omega
    clear hR
    by_cases hlt : i < db.length
    · have hli : ((i : Nat) : Int) < (((db.length) : Nat) : Int) := by omega
      have w1 : IntKind.i64.wrap ((i : Int) + 1) = ((i + 1 : Nat) : Int) := by rw [i64_wrap (by omega) (by omega)]; omega
      rw [show db.length - i = (db.length - (i + 1)) + 1 by omega, chkF] at hC
      have fi : tF db i = tC (db.getD i t0) := rfl
      have iz : (((i : Nat) : Int) - 0).toNat = i := by omega
      have il : ((i : Nat) : Int) ≤ ((db.length : Nat) : Int) := by omega
      have c1 := valid_tp (db.getD i t0)
      have c2 := contF_t 128 [.fp (tC (db.getD i t0))] (fun t => decide (t.name = (db.getD i t0).name)) (db.take i) i (tF db) (by rw [List.length_take]; omega) (fun j hj => tF_take (by rw [List.length_take] at hj; omega)) (by rw [List.length_take]; omega) (fun d _ => same_nm (db.getD i t0) d)
      have hq0 := tabI_any (db.getD i t0).name (db.take i) 0
      generalize (db.take i).any (fun t => decide (t.name = (db.getD i t0).name)) = z at *
      generalize db.getD i t0 = t at *
      generalize tabI t.name 0 (db.take i) = q at *
      generalize validS t = v at *
      obtain ⟨tn, ta, tr⟩ := t
      try simp only at c2
      by_cases hv : v = 0
      · rw [if_neg (fun x => x hv)] at hC
        by_cases hq : 0 ≤ q
        · rw [if_pos hq] at hC
          obtain rfl : z = true := hq0.1 hq
          subst hC
          repeat' first | ((refine Ab.SW.le (St.le_freezeP (i := 4) (n := 3) rfl (by rw [find_cons, if_pos rfl]) (by exact Nat.le_refl 3)) ?_); (rw [del_head]); (simp only [getN, Blk.get])) | (refine SW.seq_k fun K hK => ?_) | (refine SW.block ?_) | ((first | refine SW.region ?_ | refine SW.cond ?_ | refine SW.skip ?_ | refine SW.ret ?_ | refine Call.of_pure (c1) ?_ | refine Call.of_pure (c2) ?_ | (refine allF_i fun b hb => ?_; replace hD := And.intro hb hD; clear hb; try simp only [fresh_cons, fresh_nil, and_true, ne_eq, neF] at hD)); try simp only [go_sem, hD, hli, ie, i0, w1, fi, iz, il, hv, true_implies]) | (apply hK; clear hK K)
          refine ret_pure ?_; simp only [resL_tmp, resL_nil, tupOf, go_sem, hD]
        · rw [if_neg hq] at hC
          obtain rfl : z = false := by rw [Bool.eq_false_iff]; exact fun h => hq (hq0.2 h)
          repeat' first | ((refine Ab.SW.le (St.le_freezeP (i := 4) (n := 3) rfl (by rw [find_cons, if_pos rfl]) (by exact Nat.le_refl 3)) ?_); (rw [del_head]); (simp only [getN, Blk.get])) | (refine SW.seq_k fun K hK => ?_) | (refine SW.block ?_) | ((first | refine SW.region ?_ | refine SW.cond ?_ | refine SW.skip ?_ | refine Call.of_pure (c1) ?_ | refine Call.of_pure (c2) ?_ | (refine allF_i fun b hb => ?_; replace hD := And.intro hb hD; clear hb; try simp only [fresh_cons, fresh_nil, and_true, ne_eq, neF] at hD)); try simp only [go_sem, hD, hli, ie, i0, w1, fi, iz, il, hv, true_implies]) | (apply hK; clear hK K)
          refine Rnd.le (St.le_only ?_) (Rnd.sub (db.length - (i + 1)) (by omega) ((hI _ _).2 ⟨i + 1, rfl, by omega, hC, rfl⟩) (by repeat' (first | exact rfl | exact trivial | constructor)))
          repeat (first | exact List.mem_cons_self | apply List.mem_cons_of_mem)
      · rw [if_pos hv] at hC
        subst hC
        repeat' first | (refine SW.seq_k fun K hK => ?_) | (refine SW.block ?_) | ((first | refine SW.region ?_ | refine SW.cond ?_ | refine SW.skip ?_ | refine SW.ret ?_ | refine Call.of_pure (c1) ?_ | (refine allF_i fun b hb => ?_; replace hD := And.intro hb hD; clear hb; try simp only [fresh_cons, fresh_nil, and_true, ne_eq, neF] at hD)); try simp only [go_sem, hD, hli, ie, i0, w1, fi, iz, il, hv, true_implies]) | (apply hK; clear hK K)
        refine ret_pure ?_; simp only [resL_tmp, resL_nil, tupOf, go_sem, hD]
    · have hli : ¬ ((i : Nat) : Int) < (((db.length) : Nat) : Int) := by omega
      rw [show db.length - i = 0 by omega] at hC
      have hC2 : R = 0 := hC
      subst hC2
      repeat' first | (refine SW.seq_k fun K hK => ?_) | ((first | refine SW.region ?_ | refine SW.cond ?_ | refine SW.exit ?_ | refine SW.ret ?_); try simp only [go_sem, hD, hli]) | (apply hK; clear hK K) | (clear hK K; apply hK; clear hK K)
      refine ret_pure ?_; simp only [resL_tmp, resL_nil, tupOf, go_sem, hD]
theorem checked_p (db : List Tb) (hdb : db.length ≤ 1000000) : PCall Tryz.prog 46 [DB db] (I64 (chkD db)) := by
  have c := database_p db hdb
  have cf := contF_t 90 [] (fun t => decide (6 < t.attrs.length)) db db.length (tF db) rfl (fun j hj => rfl) hdb (fun d _ => wide_f d)
  unfold chkD
  generalize db.any (fun t => decide (6 < t.attrs.length)) = z at *
  generalize chkS db = v at *
  by_cases hv : v = 0
  · rw [if_pos hv]
    by_cases h6 : 6 < db.length
    · rw [if_pos (.inl h6)]
      have h6i : (6 : Int) < ((db.length : Nat) : Int) := by omega
      refine Call.enter' (N := 18) (rs := [.tmp 2]) Tryz.func46 rfl rfl rfl (by decide) rfl ?_; simp only [argT]; have hD : (0 : Nat) = 0 := rfl
      repeat' first | (refine SW.seq_k fun K hK => ?_) | ((first | refine SW.region ?_ | refine SW.cond ?_ | refine SW.skip ?_ | refine SW.ret ?_ | refine Call.of_pure (c) ?_ | (refine allF_i fun b hb => ?_; replace hD := And.intro hb hD; clear hb; try simp only [fresh_cons, fresh_nil, and_true, ne_eq, neF] at hD)); try simp only [go_sem, hD, hv, h6i, true_implies]) | (apply hK; clear hK K)
      all_goals
        refine ret_pure ?_; simp only [resL_tmp, resL_nil, tupOf, go_sem, hD]
    · have h6i : ¬ (6 : Int) < ((db.length : Nat) : Int) := by omega
      cases z with
      | true =>
        rw [if_pos (.inr rfl)]
        refine Call.enter' (N := 18) (rs := [.tmp 2]) Tryz.func46 rfl rfl rfl (by decide) rfl ?_; simp only [argT]; have hD : (0 : Nat) = 0 := rfl
        repeat' first | (refine SW.seq_k fun K hK => ?_) | ((first | refine SW.region ?_ | refine SW.cond ?_ | refine SW.skip ?_ | refine SW.ret ?_ | refine Call.of_pure (c) ?_ | refine Call.of_pure (cf) ?_ | (refine allF_i fun b hb => ?_; replace hD := And.intro hb hD; clear hb; try simp only [fresh_cons, fresh_nil, and_true, ne_eq, neF] at hD)); try simp only [go_sem, hD, hv, h6i, true_implies]) | (apply hK; clear hK K)
        all_goals
          refine ret_pure ?_; simp only [resL_tmp, resL_nil, tupOf, go_sem, hD]
      | false =>
        rw [if_neg (fun h => h.elim h6 (fun h => by cases h))]
        refine Call.enter' (N := 18) (rs := [.tmp 2]) Tryz.func46 rfl rfl rfl (by decide) rfl ?_; simp only [argT]; have hD : (0 : Nat) = 0 := rfl
        repeat' first | (refine SW.seq_k fun K hK => ?_) | ((first | refine SW.region ?_ | refine SW.cond ?_ | refine SW.skip ?_ | refine SW.ret ?_ | refine Call.of_pure (c) ?_ | refine Call.of_pure (cf) ?_ | (refine allF_i fun b hb => ?_; replace hD := And.intro hb hD; clear hb; try simp only [fresh_cons, fresh_nil, and_true, ne_eq, neF] at hD)); try simp only [go_sem, hD, hv, h6i, true_implies]) | (apply hK; clear hK K)
        all_goals
          refine ret_pure ?_; simp only [resL_tmp, resL_nil, tupOf, go_sem, hD]
  · rw [if_neg hv]
    refine Call.enter' (N := 18) (rs := [.tmp 2]) Tryz.func46 rfl rfl rfl (by decide) rfl ?_; simp only [argT]; have hD : (0 : Nat) = 0 := rfl
    repeat' first | (refine SW.seq_k fun K hK => ?_) | ((first | refine SW.region ?_ | refine SW.cond ?_ | refine SW.ret ?_ | refine Call.of_pure (c) ?_ | (refine allF_i fun b hb => ?_; replace hD := And.intro hb hD; clear hb; try simp only [fresh_cons, fresh_nil, and_true, ne_eq, neF] at hD)); try simp only [go_sem, hD, hv, true_implies]) | (apply hK; clear hK K)
    refine ret_pure ?_; simp only [resL_tmp, resL_nil, tupOf, go_sem, hD]
end Go.Proofs.YtpidncgibgiidaaGreat
namespace Go.Ab.A15
open Go Go.Ab Go.Ab.A34 Go.Ab.A01
def hM (F T : List R3) (l r : List Int) : Bool := !F.any fun x => !T.any fun y => agB l r x.2 y.2
end Go.Ab.A15
def Go.Ab.zIB_1 : Go.Ab.OZ := (.one 0 [0, 4, 5, 6] (.one 1 [1, 3, 4, 5, 6] (.one 2 [2, 3, 4, 5, 6] (.one 3 [3, 4, 5, 6] (.alt 4 (.one 5 [5, 6] (.one 6 [6] .done)) .nil)))))
namespace Go.Proofs.YtpidncgibgiidaaGreat
open Go Go.Ab Go.Ab.A34 Go.Ab.A15 Go.Ab.A01
variable [Gl] [Tabs]
theorem at_p (r : R3) (a : List Int) (hr : OkR r) (ha : ∀ x ∈ a, 0 ≤ x ∧ x < r.2.length) (hal : a.length ≤ 1000) : PCall Tryz.prog 167 [.agg [I64 r.1, VL r.2], IL a] (Str (mkB (catK r a))) := by
  have hlen := catK_len hr ha
  obtain ⟨id, vs⟩ := r
  simp only at ha
  refine Call.enter' (N := 29) (rs := [.tmp 4]) Tryz.func167 rfl rfl rfl (by decide) rfl ?_; simp only [argT]; have hD : (0 : Nat) = 0 := rfl
  repeat' first | (refine SW.seq_k fun K hK => ?_) | (refine SW.block ?_) | ((first | refine SW.region ?_ | (refine allF_i fun b hb => ?_; replace hD := And.intro hb hD; clear hb; try simp only [fresh_cons, fresh_nil, and_true, ne_eq, neF] at hD)); try simp only [go_sem, hD, true_implies]) | (apply hK; clear hK K)
  obtain ⟨bb, rfl⟩ : ∃ x, x = b := ⟨_, rfl⟩
  obtain ⟨b2, rfl⟩ : ∃ x, x = b := ⟨_, rfl⟩
  refine Ab.SW.le (S' := ⟨[(1, IL a), (2, .fp [I64 id, VL vs]), (5, BP bb), (4, Str ⟨#[]⟩), (10, IL a), (11, I64 a.length), (12, I64 (0 : Nat))], [(bb, .svs [.sc (.pointer none), .nt])]⟩) ?_ ?_
  · refine St.le.trans (St.le_freezeP (i := 2) (b := b2) (off := 0) (n := 2) (k := .svs [I64 id, VL vs]) rfl (by simp [find_cons, hD]) (by exact Nat.le_refl 2)) ?_
    simp only [getN, Blk.get, go_sem, hD]
    exact St.le_sub (by repeat' (first | exact rfl | exact trivial | constructor))
  clear hD
  have hD : (0 : Nat) = 0 := rfl
  obtain ⟨I, hI⟩ : ∃ I : Nat → St → Prop, ∀ k S, I k S ↔ (∃ (i : Nat) (h : Heap), k = a.length - i ∧ i ≤ a.length ∧ BH bb (catK (id, vs) (a.take i)) h [] ∧ S = ⟨[(1, IL a), (2, .fp [I64 id, VL vs]), (5, BP bb), (4, Str ⟨#[]⟩), (10, IL a), (11, I64 a.length), (12, I64 i)], h⟩) := ⟨fun k S => _, fun _ _ => Iff.rfl⟩
  refine SW.loop' I (a.length) ((hI _ _).2 ⟨0, _, rfl, Nat.zero_le _, .inl ⟨rfl, rfl⟩, rfl⟩) (by repeat' (first | exact rfl | exact trivial | constructor)) ?_
  intro k S hIn
  obtain ⟨i, h, rfl, hi, hB, rfl⟩ := (hI _ _).1 hIn
  clear hIn
  have ie : ((i : Nat) : Int).toNat = i := Int.toNat_natCast _
  have i0 : (0 : Int) ≤ ((i : Nat) : Int) := by omega
  by_cases hlt : i < a.length
  · have hli : ((i : Nat) : Int) < (((a.length) : Nat) : Int) := by omega
    have w1 : IntKind.i64.wrap ((i : Int) + 1) = ((i + 1 : Nat) : Int) := by rw [i64_wrap (by omega) (by omega)]; omega
    have fa : iF a i = [I64 (a.getD i 0)] := rfl
    have hx := ha _ (getD_mem' 0 hlt)
    have hst := catK_take (id, vs) a i hlt
    have hcl := catK_len hr (a := a.take i) (fun x hx => ha x (List.mem_of_mem_take hx))
    rw [List.length_take] at hcl
    generalize a.getD i 0 = x at *
    obtain ⟨x0, x1⟩ := hx
    have mx : vs.getD x.toNat v0 ∈ vs := getD_mem v0 (by omega)
    have fv : vF vs x.toNat = vC (vs.getD x.toNat v0) := rfl
    have kv := key_v _ (hr.v _ mx) (hr.n _ mx)
    have hkl := kL_len (hr.v _ mx)
    simp only at hst
    generalize vs.getD x.toNat v0 = v at *
    obtain ⟨v1, v2, v3⟩ := v
    have hms := mkB_size (kL (v1, v2, v3))
    have ws := wstr_c bb _ h [] hB trivial (mkB (kL (v1, v2, v3))) (by omega) (by omega)
    have hml : (mkB (kL (v1, v2, v3))).data.toList = kL (v1, v2, v3) := by simp [mkB]
    rw [hml, ← hst] at ws
    generalize mkB (kL (v1, v2, v3)) = m at *
    clear hB
    repeat' first | ((with_reducible refine Call.mono ws ?_); intro r h' hx; obtain ⟨rfl, hB2⟩ := hx; (try simp only [go_sem, hD])) | (refine SW.seq_k fun K hK => ?_) | (refine SW.block ?_) | ((first | refine SW.region ?_ | refine SW.cond ?_ | refine SW.skip ?_ | refine Call.of_pure (kv) ?_); try simp only [go_sem, hD, hli, ie, i0, w1, fa, x0, x1, fv, true_implies]) | (apply hK; clear hK K)
    refine Rnd.sub (a.length - (i + 1)) (by omega) ((hI _ _).2 ⟨i + 1, h', rfl, by omega, hB2, rfl⟩) (by repeat' (first | exact rfl | exact trivial | constructor))
  · have hli : ¬ ((i : Nat) : Int) < (((a.length) : Nat) : Int) := by omega
    obtain rfl : i = a.length := by omega
    rw [List.take_length] at hB
    have hll : (catK (id, vs) a).length ≤ 1000000 := by omega
    generalize catK (id, vs) a = l at *
    rcases hB with ⟨rfl, rfl⟩ | ⟨hl, g, blk, hf, hg, hc, rfl⟩
    · have cs := string_n bb (.sc (.pointer none)) []
      repeat' first | ((with_reducible refine Call.mono cs ?_); intro r h' hx; obtain ⟨rfl, rfl⟩ := hx; (try simp only [go_sem, hD])) | (refine SW.seq_k fun K hK => ?_) | ((first | refine SW.region ?_ | refine SW.cond ?_ | refine SW.exit ?_ | refine SW.ret ?_); try simp only [go_sem, hD, hli, true_implies]) | (apply hK; clear hK K) | (clear hK K; apply hK; clear hK K)
      refine ret_pure ?_; simp only [resL_tmp, resL_nil, tupOf, go_sem, hD]
      rfl
    · have cs := string_c bb g (.op bb 0) blk l hl hll hc []
      repeat' first | ((with_reducible refine Call.mono cs ?_); intro r h' hx; obtain ⟨rfl, rfl⟩ := hx; (try simp only [go_sem, hD])) | (refine SW.seq_k fun K hK => ?_) | ((first | refine SW.region ?_ | refine SW.cond ?_ | refine SW.exit ?_ | refine SW.ret ?_); try simp only [go_sem, hD, hli, true_implies]) | (apply hK; clear hK K) | (clear hK K; apply hK; clear hK K)
      refine ret_pure ?_; simp only [resL_tmp, resL_nil, tupOf, go_sem, hD]
      rfl
theorem indexF_r (g : FuncId) (caps : List SV) (p : R3 → Bool) (l : List R3) (H : Heap) (hl : l.length ≤ 1000000) (hg : ∀ y ∈ l, Ab.Call Tryz.prog g (.agg (rC y) :: caps) H (fun r h' => r = SB (p y) ∧ h' = H)) : Ab.Call Tryz.prog 195 [RL l, .fn (.func g) [] caps] H (fun r h' => r = I64 (posF p 0 l) ∧ h' = H) := by
  obtain ⟨R, hR⟩ : ∃ R, R = posF p 0 l := ⟨_, rfl⟩
  rw [← hR]
  refine Call.enter' (N := 19) (rs := [.tmp 4]) Tryz.func195 rfl rfl rfl (by decide) rfl ?_; simp only [argT]; have hD : (0 : Nat) = 0 := rfl
  repeat' first | (refine SW.seq_k fun K hK => ?_) | (refine SW.block ?_) | (refine SW.region ?_; try simp only [go_sem, hD]) | (apply hK; clear hK K)
  obtain ⟨I, hI⟩ : ∃ I : Nat → St → Prop, ∀ k S, I k S ↔ (∃ (i : Nat) , k = l.length - i ∧ i ≤ l.length ∧ R = posF p i (l.drop i) ∧ S = ⟨[(0, RL l), (1, .fn (.func g) [] caps), (7, I64 l.length), (8, I64 i)], H⟩) := ⟨fun k S => _, fun _ _ => Iff.rfl⟩
  refine SW.loop' I (l.length) ((hI _ _).2 ⟨0, rfl, Nat.zero_le _, hR, rfl⟩) (by repeat' (first | exact rfl | exact trivial | constructor)) ?_
  intro k S hIn
  obtain ⟨i, rfl, hi, hC, rfl⟩ := (hI _ _).1 hIn
  clear hIn
  have ie : ((i : Nat) : Int).toNat = i := Int.toNat_natCast _
  have i0 : (0 : Int) ≤ ((i : Nat) : Int) := by omega
  clear hR
  by_cases hlt : i < l.length
  · have hli : ((i : Nat) : Int) < (((l.length) : Nat) : Int) := by omega
    have w1 : IntKind.i64.wrap ((i : Int) + 1) = ((i + 1 : Nat) : Int) := by rw [i64_wrap (by omega) (by omega)]; omega
    rw [posF_step r0 hlt] at hC
    have fi : rF l i = [I64 (l.getD i r0).1, VL (l.getD i r0).2] := rfl
    have c := hg _ (getD_mem r0 hlt)
    generalize l.getD i r0 = t at *
    obtain ⟨tn, ta⟩ := t
    replace c : Ab.Call Tryz.prog g (.agg [I64 tn, VL ta] :: caps) H (fun r h' => r = SB (p ⟨tn, ta⟩) ∧ h' = H) := c
    simp only at fi
    cases he : p ⟨tn, ta⟩ with
    | true =>
      rw [he] at c
      rw [he, if_pos rfl] at hC
      subst hC
      repeat' first | ((refine Call.mono c ?_); (intro rr hh hx); (obtain ⟨rfl, rfl⟩ := hx); (try simp only [go_sem, hD])) | (refine SW.seq_k fun K hK => ?_) | (refine SW.block ?_) | ((first | refine SW.region ?_ | refine SW.cond ?_ | refine SW.skip ?_ | refine SW.ret ?_); try simp only [go_sem, hD, hli, ie, i0, w1, fi, true_implies]) | (apply hK; clear hK K)
      refine retQ_le (fun M w0 D N a w r => r) ?_
      simp only [resL_tmp, resL_nil, tupOf, go_sem, hD]
    | false =>
      rw [he] at c
      rw [he, if_neg (by simp)] at hC
      repeat' first | ((refine Call.mono c ?_); (intro rr hh hx); (obtain ⟨rfl, rfl⟩ := hx); (try simp only [go_sem, hD])) | (refine SW.seq_k fun K hK => ?_) | (refine SW.block ?_) | ((first | refine SW.region ?_ | refine SW.cond ?_ | refine SW.skip ?_); try simp only [go_sem, hD, hli, ie, i0, w1, fi, true_implies]) | (apply hK; clear hK K)
      refine Rnd.sub (l.length - (i + 1)) (by omega) ((hI _ _).2 ⟨i + 1, rfl, by omega, hC, rfl⟩) (by repeat' (first | exact rfl | exact trivial | constructor))
  · have hli : ¬ ((i : Nat) : Int) < (((l.length) : Nat) : Int) := by omega
    rw [List.drop_of_length_le (by omega)] at hC
    have hC2 : R = -1 := hC
    subst hC2
    repeat' first | (refine SW.seq_k fun K hK => ?_) | ((first | refine SW.region ?_ | refine SW.cond ?_ | refine SW.exit ?_ | refine SW.ret ?_); try simp only [go_sem, hD, hli]) | (apply hK; clear hK K) | (clear hK K; apply hK; clear hK K)
    refine retQ_le (fun M w0 D N a w r => r) ?_
    simp only [resL_tmp, resL_nil, tupOf, go_sem, hD]
theorem contF_r (g : FuncId) (caps : List SV) (p : R3 → Bool) (l : List R3) (H : Heap) (hl : l.length ≤ 1000000) (hg : ∀ y ∈ l, Ab.Call Tryz.prog g (.agg (rC y) :: caps) H (fun r h' => r = SB (p y) ∧ h' = H)) : Ab.Call Tryz.prog 168 [RL l, .fn (.func g) [] caps] H (fun r h' => r = SB (l.any p) ∧ h' = H) := by
  have ix := indexF_r g caps p l H hl hg
  have hm := posF_any p l 0
  generalize posF p 0 l = z at *
  cases ha : l.any p with
  | true =>
    have hz := hm.2 ha
    refine Call.enter' (N := 9) (rs := [.tmp 4]) Tryz.func168 rfl rfl rfl (by decide) rfl ?_; simp only [argT]; have hD : (0 : Nat) = 0 := rfl
    repeat' first | ((refine Call.mono ix ?_); (intro rr hh hx); (obtain ⟨rfl, rfl⟩ := hx); (try simp only [go_sem, hD, hz])) | (refine SW.seq_k fun K hK => ?_) | ((first | refine SW.region ?_ | refine SW.ret ?_); try simp only [go_sem, hD, hz, true_implies]) | (apply hK; clear hK K)
    refine retQ_le (fun M w0 D N a w r => r) ?_
    simp only [resL_tmp, resL_nil, tupOf, go_sem, hD]
  | false =>
    have hz : ¬ 0 ≤ z := fun h => by have := hm.1 h; rw [ha] at this; cases this
    refine Call.enter' (N := 9) (rs := [.tmp 4]) Tryz.func168 rfl rfl rfl (by decide) rfl ?_; simp only [argT]; have hD : (0 : Nat) = 0 := rfl
    repeat' first | ((refine Call.mono ix ?_); (intro rr hh hx); (obtain ⟨rfl, rfl⟩ := hx); (try simp only [go_sem, hD, hz])) | (refine SW.seq_k fun K hK => ?_) | ((first | refine SW.region ?_ | refine SW.ret ?_); try simp only [go_sem, hD, hz, true_implies]) | (apply hK; clear hK K)
    refine retQ_le (fun M w0 D N a w r => r) ?_
    simp only [resL_tmp, resL_nil, tupOf, go_sem, hD]
theorem try_f (y : R3) (l : List Int) (mb : Nat) (Ks : List ByteArray) (hy : OkR y) (hl : ∀ x ∈ l, 0 ≤ x ∧ x < y.2.length) (hal : l.length ≤ 1000) (z : Bool) (hz : z = true ↔ mkB (catK y l) ∈ Ks) :
    Ab.Call Tryz.prog 169 [.agg [I64 y.1, VL y.2], .fp [.mp mb], .fp [IL l]] [(mb, .mp (mapB Ks))] (fun r h' => r = SB (!z) ∧ h' = [(mb, .mp (mapB Ks))]) := by
  have kp := at_p y l hy hl hal
  have mf := mfI_B (mkB (catK y l)) Ks 0
  generalize mkB (catK y l) = key at *
  obtain ⟨yi, ys⟩ := y
  simp only at kp
  cases z with
  | true =>
    obtain ⟨j, hj, _⟩ := fB_some (i := 0) (hz.1 rfl)
    rw [hj] at mf
    refine Call.enter' (N := 11) (rs := [.tmp 4]) Tryz.func169 rfl rfl rfl (by decide) rfl ?_; simp only [argT]; have hD : (0 : Nat) = 0 := rfl
    repeat' first | (refine SW.seq_k fun K hK => ?_) | ((first | refine SW.region ?_ | refine SW.regionZ (id := 1) (Checked.mixed Tryz.checked) Go.Ab.zIB_1 (by kernel_rfl) ?_ | refine SW.ret ?_ | refine ⟨_, kp, ?_⟩ | (refine allF_i fun b hb => ?_; replace hD := And.intro hb hD; clear hb; try simp only [fresh_cons, fresh_nil, and_true, ne_eq, neF] at hD) | simp only [appK, appOsK]); try simp only [Go.Ab.zIB_1, go_sem, hD, mf, true_implies]) | (apply hK; clear hK K) | (refine And.intro ?_ ?_)
    all_goals
      refine retQ_le (St.le_slist (h' := [(mb, .mp (mapB Ks))]) (by first | exact List.Sublist.refl _ | exact List.Sublist.cons _ (List.Sublist.refl _))) ?_
      simp only [resL_tmp, resL_nil, tupOf, go_sem, hD]
      try exact ⟨rfl, rfl⟩
  | false =>
    have hn : key ∉ Ks := fun h => by have := hz.2 h; cases this
    rw [fB_none hn] at mf
    refine Call.enter' (N := 11) (rs := [.tmp 4]) Tryz.func169 rfl rfl rfl (by decide) rfl ?_; simp only [argT]; have hD : (0 : Nat) = 0 := rfl
    repeat' first | (refine SW.seq_k fun K hK => ?_) | ((first | refine SW.region ?_ | refine SW.regionZ (id := 1) (Checked.mixed Tryz.checked) Go.Ab.zIB_1 (by kernel_rfl) ?_ | refine SW.ret ?_ | refine ⟨_, kp, ?_⟩ | (refine allF_i fun b hb => ?_; replace hD := And.intro hb hD; clear hb; try simp only [fresh_cons, fresh_nil, and_true, ne_eq, neF] at hD) | simp only [appK, appOsK]); try simp only [Go.Ab.zIB_1, go_sem, hD, mf, true_implies]) | (apply hK; clear hK K) | (refine And.intro ?_ ?_)
    all_goals
      refine retQ_le (St.le_slist (h' := [(mb, .mp (mapB Ks))]) (by first | exact List.Sublist.refl _ | exact List.Sublist.cons _ (List.Sublist.refl _))) ?_
      simp only [resL_tmp, resL_nil, tupOf, go_sem, hD]
      try exact ⟨rfl, rfl⟩
end Go.Proofs.YtpidncgibgiidaaGreat
namespace Go.Ab
theorem resK_bad {d : Option Tmp} {E : Prop} {K : St → Prop} {S : St} : resK .bad d E K S = E := propext ⟨fun h => h, fun h => h⟩
theorem effK_mapUpdate [Gl] {P : Program} {t : TypeId} {m k x : Operand} {d : Option Tmp} {K : St → Prop} {S : St} : effK P (.mapUpdate t m k x) d K S = mputK (mtk P t) (S.ev m) (S.ev k) (S.ev x) d K S := propext ⟨fun h => h, fun h => h⟩
attribute [go_sem] resK_bad effK_mapUpdate
end Go.Ab
namespace Go.Ab.A15
open Go Go.Ab Go.Ab.A34 Go.Ab.A01
abbrev MC (f t : Tb) (same : Bool) (ar : Int) (X : SV) (room : Int) : List SV := [Str f.name, SL f.attrs, RL f.rows, Str t.name, SL t.attrs, RL t.rows, SB same, I64 ar, X, I64 room]
structure MOk (f t : Tb) : Prop where
  fr : f.rows.length ≤ 1000
  tr : t.rows.length ≤ 1000
  of : ∀ r ∈ f.rows, OkR r ∧ r.2.length = f.attrs.length
  ot : ∀ r ∈ t.rows, OkR r ∧ r.2.length = t.attrs.length
  af : f.attrs.length ≤ 100
  at_ : t.attrs.length ≤ 100
def InA (n : Nat) (l : List Int) : Prop := ∀ x ∈ l, 0 ≤ x ∧ x < (n : Int)
end Go.Ab.A15
namespace Go.Proofs.YtpidncgibgiidaaGreat
open Go Go.Ab Go.Ab.A34 Go.Ab.A15 Go.Ab.A01
variable [Gl] [Tabs]
theorem holds_m (m : Nat) (f t : Tb) (same : Bool) (ar room : Int) (X : SV) (l r : List Int) (h : MOk f t) (hl : InA f.attrs.length l) (hr : InA t.attrs.length r) (hlr : l.length = r.length) (hll : l.length ≤ 100) :
    Ab.Call Tryz.prog 131 [.op m 0, IL l, IL r] [(m, .svs (MC f t same ar X room))] (fun v h' => v = SB (hM f.rows t.rows l r) ∧ h' = [(m, .svs (MC f t same ar X room))]) := by
  have fl : ∀ x ∈ f.rows, ∀ z ∈ l, 0 ≤ z ∧ z < x.2.length := fun x hx z hz => by rw [(h.of x hx).2]; exact hl z hz
  have tl : ∀ y ∈ t.rows, ∀ z ∈ r, 0 ≤ z ∧ z < y.2.length := fun y hy z hz => by rw [(h.ot y hy).2]; exact hr z hz
  have kpt := fun y (hy : y ∈ t.rows) => at_p y r (h.ot y hy).1 (tl y hy) (by omega)
  have kan := fun x (hx : x ∈ f.rows) => key_any (T := t.rows) (x := x) hlr (h.of x hx).1 (fun y hy => (h.ot y hy).1) (fl x hx) tl
  have htf := fun x (hx : x ∈ f.rows) (b : Nat) => try_f x l b (keysB t.rows r t.rows.length) (h.of x hx).1 (fl x hx) (by omega) (t.rows.any fun y => agB l r x.2 y.2) (kan x hx).symm
  have hfr := h.fr
  have htr := h.tr
  have hcf := fun (b : Nat) => contF_r 169 [.fp [.mp b], .fp [IL l]] (fun x => !(t.rows.any fun y => agB l r x.2 y.2)) f.rows [(b, .mp (mapB (keysB t.rows r t.rows.length))), (m, .svs (MC f t same ar X room))] (by omega)
    (fun x hx => Call.mono (Call.frameN (h2 := [(m, .svs (MC f t same ar X room))]) (htf x hx b)) fun v h' ⟨h1, e, ⟨q1, q2⟩, _⟩ => ⟨q1, by rw [e, q2]; rfl⟩)
  have hMe : hM f.rows t.rows l r = !(f.rows.any fun x => !(t.rows.any fun y => agB l r x.2 y.2)) := rfl
  rw [hMe]
  generalize (f.rows.any fun x => !(t.rows.any fun y => agB l r x.2 y.2)) = z at *
  clear hMe kan htf fl tl h hl hr
  obtain ⟨fn, fa, frs⟩ := f
  obtain ⟨tn, ta, trs⟩ := t
  simp only at kpt hcf hfr htr ⊢
  refine Call.enter' (N := 40) (rs := [.tmp 6]) Tryz.func131 rfl rfl rfl (by decide) rfl ?_; simp only [argT]; have hD : (0 : Nat) = 0 := rfl
  repeat' first | (refine SW.seq_k fun K hK => ?_) | (refine SW.block ?_) | ((first | refine SW.region ?_ | (refine allF_i fun b hb => ?_; replace hD := And.intro hb hD; clear hb; try simp only [fresh_cons, fresh_nil, and_true, ne_eq, neF] at hD)); try simp only [go_sem, hD, true_implies]) | (apply hK; clear hK K)
  obtain ⟨cb, rfl⟩ : ∃ x, x = b := ⟨_, rfl⟩
  obtain ⟨mp, rfl⟩ : ∃ x, x = b := ⟨_, rfl⟩
  obtain ⟨lb, rfl⟩ : ∃ x, x = b := ⟨_, rfl⟩
  have e1 : ¬ mp = m := by simp [hD]
  refine Ab.SW.le (S' := ⟨[(0, .op m 0), (2, IL r), (4, .fp [IL l]), (7, .fp [.mp mp]), (21, RL trs), (22, I64 trs.length), (23, I64 (0 : Nat))], [(mp, .mp []), (m, .svs [Str fn, SL fa, RL frs, Str tn, SL ta, RL trs, SB same, I64 ar, X, I64 room])]⟩) ?_ ?_
  · refine St.le.trans (St.le_freezeP (i := 7) (b := cb) (off := 0) (n := 1) (k := .svs [.mp mp]) rfl (by simp [find_cons, hD]) (by exact Nat.le_refl 1)) ?_
    simp only [getN, Blk.get, go_sem, hD]
    refine St.le.trans (St.le_freezeP (i := 4) (b := lb) (off := 0) (n := 1) (k := .svs [IL l]) rfl (by simp [find_cons, hD]) (by exact Nat.le_refl 1)) ?_
    simp only [getN, Blk.get, go_sem, hD]
    exact St.le_sub (by repeat' (first | exact rfl | exact trivial | constructor))
  clear hD
  have hD := And.intro (eq_false e1) (eq_false (Ne.symm e1))
  have hE := hD
  obtain ⟨I, hI⟩ : ∃ I : Nat → St → Prop, ∀ k S, I k S ↔ (∃ (i : Nat) , k = trs.length - i ∧ i ≤ trs.length ∧ S = ⟨[(0, .op m 0), (2, IL r), (4, .fp [IL l]), (7, .fp [.mp mp]), (21, RL trs), (22, I64 trs.length), (23, I64 i)], [(mp, .mp (mapB (keysB trs r i))), (m, .svs [Str fn, SL fa, RL frs, Str tn, SL ta, RL trs, SB same, I64 ar, X, I64 room])]⟩) := ⟨fun k S => _, fun _ _ => Iff.rfl⟩
  refine SW.loop' I (trs.length) ((hI _ _).2 ⟨0, rfl, Nat.zero_le _, rfl⟩) (by repeat' (first | exact rfl | exact trivial | constructor)) ?_
  intro k S hIn
  obtain ⟨i, rfl, hi, rfl⟩ := (hI _ _).1 hIn
  clear hIn
  have ie : ((i : Nat) : Int).toNat = i := Int.toNat_natCast _
  have i0 : (0 : Int) ≤ ((i : Nat) : Int) := by omega
  clear hD
  have hD := hE
  by_cases hlt : i < trs.length
  · have hli : ((i : Nat) : Int) < (((trs.length) : Nat) : Int) := by omega
    have w1 : IntKind.i64.wrap ((i : Int) + 1) = ((i + 1 : Nat) : Int) := by rw [i64_wrap (by omega) (by omega)]; omega
    have fi : rF trs i = [I64 (trs.getD i r0).1, VL (trs.getD i r0).2] := rfl
    have kp := kpt _ (getD_mem r0 hlt)
    have mf := mfI_B (mkB (catK (trs.getD i r0) r)) (keysB trs r i) 0
    have ms := mset_B (mkB (catK (trs.getD i r0) r)) (keysB trs r i)
    have hks : keysB trs r (i + 1) = addB (keysB trs r i) (mkB (catK (trs.getD i r0) r)) := rfl
    rw [← hks] at ms
    clear hks
    generalize mkB (catK (trs.getD i r0) r) = key at *
    generalize trs.getD i r0 = y at *
    obtain ⟨yi, ys⟩ := y
    simp only at fi kp
    generalize fB key 0 (keysB trs r i) = fz at *
    repeat' first | (refine SW.seq_k fun K hK => ?_) | (refine SW.block ?_) | ((first | refine SW.region ?_ | refine SW.regionZ (id := 5) (Checked.mixed Tryz.checked) ((.one 0 [0, 4] (.one 1 [1, 3, 4] (.one 2 [2, 3, 4] (.one 3 [3, 4] (.alt 4 .done .nil))))) : OZ) (by kernel_rfl) ?_ | refine SW.cond ?_ | refine SW.skip ?_ | refine ⟨_, kp, ?_⟩ | (refine allF_i fun b hb => ?_; replace hD := And.intro hb hD; clear hb; try simp only [fresh_cons, fresh_nil, and_true, ne_eq, neF] at hD) | simp only [appK, appOsK]); try simp only [go_sem, hD, hli, ie, i0, w1, fi, mf, ms, true_implies]) | (apply hK; clear hK K) | (refine And.intro ?_ ?_)
    all_goals
      refine Rnd.le (St.le_slist (List.Sublist.cons _ (List.Sublist.refl _))) ?_
      refine Rnd.sub (trs.length - (i + 1)) (by omega) ((hI _ _).2 ⟨i + 1, rfl, by omega, rfl⟩) (by repeat' (first | exact rfl | exact trivial | constructor))
  · have hli : ¬ ((i : Nat) : Int) < (((trs.length) : Nat) : Int) := by omega
    obtain rfl : i = trs.length := by omega
    have cf := hcf mp
    try simp only at cf
    clear hcf hI
    generalize keysB trs r trs.length = Ks at *
    repeat' first | ((refine Call.mono cf ?_); (intro rr hh hx); (obtain ⟨rfl, rfl⟩ := hx); (try simp only [go_sem, hD])) | (refine SW.seq_k fun K hK => ?_) | ((first | refine SW.region ?_ | refine SW.cond ?_ | refine SW.exit ?_ | refine SW.ret ?_); try simp only [go_sem, hD, hli, true_implies]) | (apply hK; clear hK K) | (clear hK K; apply hK; clear hK K)
    refine retQ_le (St.le_slist (h' := [(m, .svs [Str fn, SL fa, RL frs, Str tn, SL ta, RL trs, SB same, I64 ar, X, I64 room])]) (List.Sublist.cons _ (List.Sublist.refl _))) ?_
    simp only [resL_tmp, resL_nil, tupOf, go_sem, hD]
    try exact ⟨rfl, rfl⟩
end Go.Proofs.YtpidncgibgiidaaGreat
namespace Go.Ab.A15
open Go Go.Ab Go.Ab.A34
end Go.Ab.A15
def Go.Ab.zID_1 : Go.Ab.OZ := (.one 0 [0, 2, 3, 8] (.one 1 [1, 2, 3, 8] (.one 2 [2, 3, 8] (.one 3 [3, 8] (.one 4 [4, 6, 7, 8] (.one 5 [5, 6, 7, 8] (.one 6 [6, 7, 8] (.one 7 [7, 8] (.one 8 [8] .done)))))))))
namespace Go.Proofs.YtpidncgibgiidaaGreat
open Go Go.Ab Go.Ab.A34 Go.Ab.A15
variable [Gl] [Tabs]
theorem ints_r (a c : List Int) (ha : a.length ≤ 1000000000) (hc : c.length ≤ 1000000000) : PCall Tryz.prog 53 [IL a, IL c] (SB (decide (a = c))) := by
  obtain ⟨X, hX⟩ : ∃ X, X = decide (a = c) := ⟨_, rfl⟩
  rw [← hX]
  have h0 : ¬ a.length = c.length → X = false := fun h => by rw [hX, decide_eq_false fun e => h (by rw [e])]
  have h1 : a.length = c.length → (∀ j, j < a.length → a.getD j 0 = c.getD j 0) → X = true := fun hl h => by rw [hX, decide_eq_true (list_eq hl h)]
  have h2 : ∀ j, ¬ a.getD j 0 = c.getD j 0 → X = false := fun j h => by rw [hX, decide_eq_false fun e => h (by rw [e])]
  clear hX
  by_cases hl : a.length = c.length
  · have hlq : ((a.length : Nat) : Int) = ((c.length : Nat) : Int) := by omega
    refine Call.enter' (N := 26) (rs := [.tmp 4]) Tryz.func53 rfl rfl rfl (by decide) rfl ?_; simp only [argT]; have hD : (0 : Nat) = 0 := rfl
    repeat' first | (refine SW.seq_k fun K hK => ?_) | (refine SW.block ?_) | ((first | refine SW.region ?_ | refine SW.cond ?_ | refine SW.skip ?_); try simp only [go_sem, hD, hlq]) | (apply hK; clear hK K)
    obtain ⟨I, hI⟩ : ∃ I : Nat → St → Prop, ∀ k S, I k S ↔ (∃ (i : Nat) , k = a.length - i ∧ i ≤ a.length ∧ (∀ j, j < i → a.getD j 0 = c.getD j 0) ∧ S = ⟨[(0, IL a), (1, IL c), (5, I64 i)], []⟩) := ⟨fun k S => _, fun _ _ => Iff.rfl⟩
    refine SW.loop' I (a.length) ((hI _ _).2 ⟨0, rfl, Nat.zero_le _, (fun j hj => absurd hj (by omega)), rfl⟩) (by repeat' (first | exact rfl | exact trivial | constructor)) ?_
    intro k S hIn
    obtain ⟨i, rfl, hi, hL, rfl⟩ := (hI _ _).1 hIn
    clear hIn
    have ie : ((i : Nat) : Int).toNat = i := Int.toNat_natCast _
    have i0 : (0 : Int) ≤ ((i : Nat) : Int) := by omega
    by_cases hlt : i < a.length
    · have hli : ((i : Nat) : Int) < (((a.length) : Nat) : Int) := by omega
      have w1 : IntKind.i64.wrap ((i : Int) + 1) = ((i + 1 : Nat) : Int) := by rw [i64_wrap (by omega) (by omega)]; omega
      have hlc : ((i : Nat) : Int) < ((c.length : Nat) : Int) := by omega
      have fi : iF a i = [I64 (a.getD i 0)] := rfl
      have gi : iF c i = [I64 (c.getD i 0)] := rfl
      have h2i := h2 i
      have hn1 : a.getD i 0 = c.getD i 0 → ∀ j, j < i + 1 → a.getD j 0 = c.getD j 0 := fun h j hj => by
        rcases Nat.lt_or_ge j i with h3 | h3
        · exact hL j h3
        · obtain rfl : j = i := by omega
          exact h
      generalize a.getD i 0 = u at *
      generalize c.getD i 0 = v at *
      by_cases huv : u = v
      · have hn2 := hn1 huv
        repeat' first | (refine SW.seq_k fun K hK => ?_) | (refine SW.block ?_) | ((first | refine SW.region ?_ | refine SW.regionZ (id := 6) (Checked.mixed Tryz.checked) Go.Ab.zID_1 (by kernel_rfl) ?_ | refine SW.cond ?_ | refine SW.skip ?_); try simp only [Go.Ab.zID_1, go_sem, hD, hli, hlc, ie, i0, w1, fi, gi, huv]) | (apply hK; clear hK K)
        refine Rnd.sub (a.length - (i + 1)) (by omega) ((hI _ _).2 ⟨i + 1, rfl, by omega, hn2, rfl⟩) (by repeat' (first | exact rfl | exact trivial | constructor))
      · have hx := h2i huv
        subst hx
        repeat' first | (refine SW.seq_k fun K hK => ?_) | (refine SW.block ?_) | ((first | refine SW.region ?_ | refine SW.regionZ (id := 6) (Checked.mixed Tryz.checked) Go.Ab.zID_1 (by kernel_rfl) ?_ | refine SW.cond ?_ | refine SW.skip ?_ | refine SW.ret ?_); try simp only [Go.Ab.zID_1, go_sem, hD, hli, hlc, ie, i0, w1, fi, gi, huv]) | (apply hK; clear hK K)
        refine ret_pure ?_; simp only [resL_tmp, resL_nil, tupOf, go_sem, hD]
    · have hli : ¬ ((i : Nat) : Int) < (((a.length) : Nat) : Int) := by omega
      have hx := h1 hl fun j hj => hL j (by omega)
      subst hx
      have nl : ¬ ((c.length : Nat) : Int) < ((c.length : Nat) : Int) := by omega
      repeat' first | (refine SW.seq_k fun K hK => ?_) | ((first | refine SW.region ?_ | refine SW.cond ?_ | refine SW.exit ?_ | refine SW.ret ?_); try simp only [go_sem, hD, hli, nl]) | (apply hK; clear hK K) | (clear hK K; apply hK; clear hK K)
      refine ret_pure ?_; simp only [resL_tmp, resL_nil, tupOf, go_sem, hD]
  · have hlq : ¬ ((a.length : Nat) : Int) = ((c.length : Nat) : Int) := by omega
    have hx := h0 hl
    subst hx
    refine Call.enter' (N := 26) (rs := [.tmp 4]) Tryz.func53 rfl rfl rfl (by decide) rfl ?_; simp only [argT]; have hD : (0 : Nat) = 0 := rfl
    repeat' first | (refine SW.seq_k fun K hK => ?_) | ((first | refine SW.region ?_ | refine SW.cond ?_ | refine SW.ret ?_); try simp only [go_sem, hD, hlq]) | (apply hK; clear hK K)
    refine ret_pure ?_; simp only [resL_tmp, resL_nil, tupOf, go_sem, hD]
end Go.Proofs.YtpidncgibgiidaaGreat
namespace Go.Ab.A15
open Go Go.Ab Go.Ab.A34
theorem dp_eq {a b : Dp} : a = b ↔ a.f = b.f ∧ a.t = b.t ∧ a.l = b.l ∧ a.r = b.r := by
  constructor
  · rintro rfl; exact ⟨rfl, rfl, rfl, rfl⟩
  · rintro ⟨h1, h2, h3, h4⟩
    cases a; cases b
    simp only at h1 h2 h3 h4
    subst h1 h2 h3 h4
    rfl
instance : DecidableEq Dp := fun a b => decidable_of_iff _ dp_eq.symm
structure OkS (d : Dp) : Prop where
  l : d.l.length ≤ 1000000000
  r : d.r.length ≤ 1000000000
theorem dps_eq {a c : List Dp} (hl : a.length = c.length) (h : ∀ j, j < a.length → a.getD j d0 = c.getD j d0) : a = c := by
  refine List.ext_getElem hl fun i h1 h2 => ?_
  have := h i h1
  simpa [List.getD_eq_getElem?_getD, h1, h2] using this
end Go.Ab.A15
def Go.Ab.zIE_1 : Go.Ab.OZ := (.one 0 [0, 2, 3, 8, 9] (.one 1 [1, 2, 3, 8, 9] (.one 2 [2, 3, 8, 9] (.one 3 [3, 8, 9] (.one 4 [4, 6, 7, 8, 9] (.one 5 [5, 6, 7, 8, 9] (.one 6 [6, 7, 8, 9] (.one 7 [7, 8, 9] (.one 8 [8, 9] (.one 9 [9] .done))))))))))
namespace Go.Proofs.YtpidncgibgiidaaGreat
open Go Go.Ab Go.Ab.A34 Go.Ab.A15
variable [Gl] [Tabs]
theorem equal_d (a b : Dp) (ha : OkS a) (hb : OkS b) : PCall Tryz.prog 22 [DV a, DV b] (SB (decide (a = b))) := by
  have c1 := ints_r a.l b.l ha.l hb.l
  have c2 := ints_r a.r b.r ha.r hb.r
  have he := @dp_eq a b
  have e1 := @barr_eq a.f b.f
  have e2 := @barr_eq a.t b.t
  obtain ⟨X, hX⟩ : ∃ X, X = decide (a = b) := ⟨_, rfl⟩
  rw [← hX]
  obtain ⟨af, al, at', ar⟩ := a
  obtain ⟨bf, bl, bt, br⟩ := b
  simp only at c1 c2 he e1 e2
  by_cases h1 : af = bf
  · have f1 : (af.toList == bf.toList) = true := e1.2 h1
    by_cases h2 : at' = bt
    · have f2 : (at'.toList == bt.toList) = true := e2.2 h2
      by_cases h3 : al = bl
      · have hXX : decide (ar = br) = X := by rw [hX]; exact decide_eq_decide.mpr ⟨fun h => he.2 ⟨h1, h2, h3, h⟩, fun h => (he.1 h).2.2.2⟩
        rw [hXX] at c2
        rw [decide_eq_true h3] at c1
        refine Call.enter' (N := 31) (rs := [.tmp 4]) Tryz.func22 rfl rfl rfl (by decide) rfl ?_; simp only [argT]; have hD : (0 : Nat) = 0 := rfl
        repeat' first | (refine SW.seq_k fun K hK => ?_) | ((first | refine SW.region ?_ | refine SW.ret ?_ | refine Call.of_pure (c1) ?_ | refine Call.of_pure (c2) ?_ | (refine allF_i fun b hb => ?_; replace hD := And.intro hb hD; clear hb; try simp only [fresh_cons, fresh_nil, and_true, ne_eq, neF] at hD)); try simp only [go_sem, hD, f1, f2, true_implies]) | (apply hK; clear hK K)
        refine ret_pure ?_; simp only [resL_tmp, resL_nil, tupOf, go_sem, hD]
      · have hXX : X = false := by rw [hX]; exact decide_eq_false fun h => h3 (he.1 h).2.2.1
        subst hXX
        rw [decide_eq_false h3] at c1
        refine Call.enter' (N := 31) (rs := [.tmp 4]) Tryz.func22 rfl rfl rfl (by decide) rfl ?_; simp only [argT]; have hD : (0 : Nat) = 0 := rfl
        repeat' first | (refine SW.seq_k fun K hK => ?_) | ((first | refine SW.region ?_ | refine SW.ret ?_ | refine Call.of_pure (c1) ?_ | (refine allF_i fun b hb => ?_; replace hD := And.intro hb hD; clear hb; try simp only [fresh_cons, fresh_nil, and_true, ne_eq, neF] at hD)); try simp only [go_sem, hD, f1, f2, true_implies]) | (apply hK; clear hK K)
        refine ret_pure ?_; simp only [resL_tmp, resL_nil, tupOf, go_sem, hD]
    · have f2 : (at'.toList == bt.toList) = false := Bool.eq_false_iff.2 fun h => h2 (e2.1 h)
      have hXX : X = false := by rw [hX]; exact decide_eq_false fun h => h2 (he.1 h).2.1
      subst hXX
      refine Call.enter' (N := 31) (rs := [.tmp 4]) Tryz.func22 rfl rfl rfl (by decide) rfl ?_; simp only [argT]; have hD : (0 : Nat) = 0 := rfl
      repeat' first | (refine SW.seq_k fun K hK => ?_) | ((first | refine SW.region ?_ | refine SW.ret ?_ | (refine allF_i fun b hb => ?_; replace hD := And.intro hb hD; clear hb; try simp only [fresh_cons, fresh_nil, and_true, ne_eq, neF] at hD)); try simp only [go_sem, hD, f1, f2, true_implies]) | (apply hK; clear hK K)
      refine ret_pure ?_; simp only [resL_tmp, resL_nil, tupOf, go_sem, hD]
  · have f1 : (af.toList == bf.toList) = false := Bool.eq_false_iff.2 fun h => h1 (e1.1 h)
    have hXX : X = false := by rw [hX]; exact decide_eq_false fun h => h1 (he.1 h).1
    subst hXX
    refine Call.enter' (N := 31) (rs := [.tmp 4]) Tryz.func22 rfl rfl rfl (by decide) rfl ?_; simp only [argT]; have hD : (0 : Nat) = 0 := rfl
    repeat' first | (refine SW.seq_k fun K hK => ?_) | ((first | refine SW.region ?_ | refine SW.ret ?_ | (refine allF_i fun b hb => ?_; replace hD := And.intro hb hD; clear hb; try simp only [fresh_cons, fresh_nil, and_true, ne_eq, neF] at hD)); try simp only [go_sem, hD, f1, true_implies]) | (apply hK; clear hK K)
    refine ret_pure ?_; simp only [resL_tmp, resL_nil, tupOf, go_sem, hD]
theorem same_d (a c : List Dp) (ha : a.length ≤ 1000000000) (hc : c.length ≤ 1000000000) (oa : ∀ d ∈ a, OkS d) (oc : ∀ d ∈ c, OkS d) : PCall Tryz.prog 15 [DpL a, DpL c] (SB (decide (a = c))) := by
  obtain ⟨X, hX⟩ : ∃ X, X = decide (a = c) := ⟨_, rfl⟩
  rw [← hX]
  have h0 : ¬ a.length = c.length → X = false := fun h => by rw [hX, decide_eq_false fun e => h (by rw [e])]
  have h1 : a.length = c.length → (∀ j, j < a.length → a.getD j d0 = c.getD j d0) → X = true := fun hl h => by rw [hX, decide_eq_true (dps_eq hl h)]
  have h2 : ∀ j, ¬ a.getD j d0 = c.getD j d0 → X = false := fun j h => by rw [hX, decide_eq_false fun e => h (by rw [e])]
  clear hX
  by_cases hl : a.length = c.length
  · have hlq : ((a.length : Nat) : Int) = ((c.length : Nat) : Int) := by omega
    refine Call.enter' (N := 27) (rs := [.tmp 4]) Tryz.func15 rfl rfl rfl (by decide) rfl ?_; simp only [argT]; have hD : (0 : Nat) = 0 := rfl
    repeat' first | (refine SW.seq_k fun K hK => ?_) | (refine SW.block ?_) | ((first | refine SW.region ?_ | refine SW.cond ?_ | refine SW.skip ?_); try simp only [go_sem, hD, hlq]) | (apply hK; clear hK K)
    obtain ⟨I, hI⟩ : ∃ I : Nat → St → Prop, ∀ k S, I k S ↔ (∃ (i : Nat) , k = a.length - i ∧ i ≤ a.length ∧ (∀ j, j < i → a.getD j d0 = c.getD j d0) ∧ S = ⟨[(0, DpL a), (1, DpL c), (5, I64 i)], []⟩) := ⟨fun k S => _, fun _ _ => Iff.rfl⟩
    refine SW.loop' I (a.length) ((hI _ _).2 ⟨0, rfl, Nat.zero_le _, (fun j hj => absurd hj (by omega)), rfl⟩) (by repeat' (first | exact rfl | exact trivial | constructor)) ?_
    intro k S hIn
    obtain ⟨i, rfl, hi, hL, rfl⟩ := (hI _ _).1 hIn
    clear hIn
    have ie : ((i : Nat) : Int).toNat = i := Int.toNat_natCast _
    have i0 : (0 : Int) ≤ ((i : Nat) : Int) := by omega
    by_cases hlt : i < a.length
    · have hli : ((i : Nat) : Int) < (((a.length) : Nat) : Int) := by omega
      have w1 : IntKind.i64.wrap ((i : Int) + 1) = ((i + 1 : Nat) : Int) := by rw [i64_wrap (by omega) (by omega)]; omega
      have hlc : ((i : Nat) : Int) < ((c.length : Nat) : Int) := by omega
      have fi : dpF a i = dC (a.getD i d0) := rfl
      have gi : dpF c i = dC (c.getD i d0) := rfl
      have ce := equal_d (a.getD i d0) (c.getD i d0) (oa _ (getD_mem' d0 hlt)) (oc _ (getD_mem' d0 (by omega)))
      have h2i := h2 i
      have hn1 : a.getD i d0 = c.getD i d0 → ∀ j, j < i + 1 → a.getD j d0 = c.getD j d0 := fun h j hj => by
        rcases Nat.lt_or_ge j i with h3 | h3
        · exact hL j h3
        · obtain rfl : j = i := by omega
          exact h
      generalize a.getD i d0 = u at *
      generalize c.getD i d0 = v at *
      by_cases huv : u = v
      · have hn2 := hn1 huv
        rw [decide_eq_true huv] at ce
        clear hn1 h2i huv
        obtain ⟨u1, u2, u3, u4⟩ := u
        obtain ⟨v1, v2, v3, v4⟩ := v
        repeat' first | (refine SW.seq_k fun K hK => ?_) | (refine SW.block ?_) | ((first | refine SW.region ?_ | refine SW.regionZ (id := 6) (Checked.mixed Tryz.checked) Go.Ab.zIE_1 (by kernel_rfl) ?_ | refine SW.cond ?_ | refine SW.skip ?_ | refine ⟨_, ce, ?_⟩); try simp only [Go.Ab.zIE_1, go_sem, hD, hli, hlc, ie, i0, w1, fi, gi, true_implies]) | (apply hK; clear hK K)
        refine Rnd.sub (a.length - (i + 1)) (by omega) ((hI _ _).2 ⟨i + 1, rfl, by omega, hn2, rfl⟩) (by repeat' (first | exact rfl | exact trivial | constructor))
      · have hx := h2i huv
        subst hx
        rw [decide_eq_false huv] at ce
        clear hn1 h2i huv
        obtain ⟨u1, u2, u3, u4⟩ := u
        obtain ⟨v1, v2, v3, v4⟩ := v
        repeat' first | (refine SW.seq_k fun K hK => ?_) | (refine SW.block ?_) | ((first | refine SW.region ?_ | refine SW.regionZ (id := 6) (Checked.mixed Tryz.checked) Go.Ab.zIE_1 (by kernel_rfl) ?_ | refine SW.cond ?_ | refine SW.skip ?_ | refine SW.ret ?_ | refine ⟨_, ce, ?_⟩); try simp only [Go.Ab.zIE_1, go_sem, hD, hli, hlc, ie, i0, w1, fi, gi, true_implies]) | (apply hK; clear hK K)
        refine ret_pure ?_; simp only [resL_tmp, resL_nil, tupOf, go_sem, hD]
    · have hli : ¬ ((i : Nat) : Int) < (((a.length) : Nat) : Int) := by omega
      have hx := h1 hl fun j hj => hL j (by omega)
      subst hx
      have nl : ¬ ((c.length : Nat) : Int) < ((c.length : Nat) : Int) := by omega
      repeat' first | (refine SW.seq_k fun K hK => ?_) | ((first | refine SW.region ?_ | refine SW.cond ?_ | refine SW.exit ?_ | refine SW.ret ?_); try simp only [go_sem, hD, hli, nl]) | (apply hK; clear hK K) | (clear hK K; apply hK; clear hK K)
      refine ret_pure ?_; simp only [resL_tmp, resL_nil, tupOf, go_sem, hD]
  · have hlq : ¬ ((a.length : Nat) : Int) = ((c.length : Nat) : Int) := by omega
    have hx := h0 hl
    subst hx
    refine Call.enter' (N := 27) (rs := [.tmp 4]) Tryz.func15 rfl rfl rfl (by decide) rfl ?_; simp only [argT]; have hD : (0 : Nat) = 0 := rfl
    repeat' first | (refine SW.seq_k fun K hK => ?_) | ((first | refine SW.region ?_ | refine SW.cond ?_ | refine SW.ret ?_); try simp only [go_sem, hD, hlq]) | (apply hK; clear hK K)
    refine ret_pure ?_; simp only [resL_tmp, resL_nil, tupOf, go_sem, hD]
end Go.Proofs.YtpidncgibgiidaaGreat
namespace Go.Ab.A15
open Go Go.Ab Go.Ab.A34
def canI (d : Dp) (i : Nat) : Prop := (0 < i → d.l.getD (i - 1) 0 < d.l.getD i 0) ∧ ¬ d.r.getD i 0 ∈ d.r.take i ∧ ¬ (d.f = d.t ∧ d.l.getD i 0 = d.r.getD i 0)
def CanD (d : Dp) : Prop := 0 < d.l.length ∧ d.l.length = d.r.length ∧ ∀ i, i < d.l.length → canI d i
end Go.Ab.A15
namespace Go.Proofs.YtpidncgibgiidaaGreat
open Go Go.Ab Go.Ab.A34 Go.Ab.A15
variable [Gl] [Tabs]
end Go.Proofs.YtpidncgibgiidaaGreat
namespace Go.Ab.A15
abbrev Pr := List Int × List Int
def rg (s n : Nat) : List Nat := List.range' s (n - s)
theorem rg_step {s n : Nat} (h : s < n) : rg s n = s :: rg (s + 1) n := by
  unfold rg
  rw [show n - s = (n - (s + 1)) + 1 by omega, List.range'_succ]
theorem rg_end {s n : Nat} (h : n ≤ s) : rg s n = [] := by
  unfold rg
  rw [show n - s = 0 by omega]
  rfl
theorem mem_rg {s n x : Nat} : x ∈ rg s n ↔ s ≤ x ∧ x < n := by
  unfold rg
  rw [List.mem_range'_1]
  omega
theorem nodup_rg (s n : Nat) : (rg s n).Nodup := List.nodup_range'
def fstX (l : List Int) : Nat := match l.getLast? with
  | none => 0
  | some x => x.toNat + 1
def exS (q : List Int → List Int → Bool) (nf nt : Nat) : Nat → List Int → List Int → List Pr
  | 0, _, _ => []
  | k + 1, l, r => (rg (fstX l) nf).flatMap fun (a : Nat) => (rg 0 nt).flatMap fun (b : Nat) => if q (l ++ [(a : Int)]) (r ++ [(b : Int)]) then (l ++ [(a : Int)], r ++ [(b : Int)]) :: exS q nf nt k (l ++ [(a : Int)]) (r ++ [(b : Int)]) else []
structure Pq (q : List Int → List Int → Bool) (nf nt : Nat) : Prop where
  len : ∀ {l r}, q l r = true → l.length = r.length
  pre : ∀ {l r a b}, q (l ++ a) (r ++ b) = true → l.length = r.length → 0 < l.length → q l r = true
  inl : ∀ {l r}, q l r = true → ∀ x ∈ l, 0 ≤ x ∧ x < (nf : Int)
  inr : ∀ {l r}, q l r = true → ∀ x ∈ r, 0 ≤ x ∧ x < (nt : Int)
  asc : ∀ {l r}, q l r = true → l.Pairwise (· < ·)
theorem fst_le {l : List Int} {a : Int} (h : (l ++ [a]).Pairwise (· < ·)) (h0 : ∀ x ∈ l, 0 ≤ x) (ha : 0 ≤ a) : fstX l ≤ a.toNat := by
  unfold fstX
  cases hl : l.getLast? with
  | none => simp
  | some x =>
    have hm := List.mem_of_getLast? hl
    have h2 := (List.pairwise_append.1 h).2.2 x hm a (by simp)
    have := h0 x hm
    simp only
    omega
theorem snoc_cons {α : Type} (l : List α) (a : α) (us : List α) : l ++ a :: us = (l ++ [a]) ++ us := by simp
theorem mem_exS {q : List Int → List Int → Bool} {nf nt : Nat} (h : Pq q nf nt) : ∀ (k : Nat) (l r : List Int) (p : Pr), l.length = r.length →
    (p ∈ exS q nf nt k l r ↔ q p.1 p.2 = true ∧ ∃ us vs, p.1 = l ++ us ∧ p.2 = r ++ vs ∧ 0 < us.length ∧ us.length ≤ k)
  | 0, l, r, p, _ => by
    simp only [exS, List.not_mem_nil, false_iff]
    rintro ⟨_, us, vs, _, _, h1, h2⟩
    omega
  | k + 1, l, r, (p1, p2), hlr => by
    unfold exS
    simp only [List.mem_flatMap, mem_rg]
    constructor
    · rintro ⟨a, ⟨ha, ha2⟩, b, ⟨hb, hb2⟩, hp⟩
      by_cases hq : q (l ++ [(a : Int)]) (r ++ [(b : Int)]) = true
      · rw [if_pos hq] at hp
        rcases List.mem_cons.1 hp with e | hp
        · cases e
          exact ⟨hq, [(a : Int)], [(b : Int)], rfl, rfl, by simp, by simp⟩
        · obtain ⟨h1, us, vs, e1, e2, h2, h3⟩ := (mem_exS h k _ _ (p1, p2) (by simp [hlr])).1 hp
          simp only at e1 e2 h1
          exact ⟨h1, (a : Int) :: us, (b : Int) :: vs, by rw [e1]; simp, by rw [e2]; simp, by simp, by simp; omega⟩
      · rw [if_neg hq] at hp
        cases hp
    · rintro ⟨h1, us, vs, rfl, rfl, h2, h3⟩
      have hll := h.len h1
      rw [List.length_append, List.length_append] at hll
      match us, vs, h2, h3, hll, h1 with
      | a :: us, [], h2, h3, hll, h1 => simp at hll; omega
      | a :: us, b :: vs, h2, h3, hll, h1 =>
        rw [snoc_cons l, snoc_cons r] at h1
        have hq := h.pre h1 (by simp [hlr]) (by simp)
        have ia := h.inl hq a (by simp)
        have ib := h.inr hq b (by simp)
        have hf := fst_le (h.asc hq) (fun x hx => (h.inl hq x (by simp [hx])).1) ia.1
        have ea : ((a.toNat : Nat) : Int) = a := by omega
        have eb : ((b.toNat : Nat) : Int) = b := by omega
        refine ⟨a.toNat, ⟨hf, by omega⟩, b.toNat, ⟨Nat.zero_le _, by omega⟩, ?_⟩
        rw [ea, eb, if_pos hq]
        rw [List.length_cons] at h3
        cases us with
        | nil =>
          cases vs with
          | nil => exact List.mem_cons_self
          | cons b2 vs => simp at hll; omega
        | cons a2 us =>
          refine List.mem_cons_of_mem _ ((mem_exS h k _ _ _ (by simp [hlr])).2 ⟨by show q (l ++ a :: a2 :: us) (r ++ b :: vs) = true; rw [snoc_cons l, snoc_cons r]; exact h1, a2 :: us, vs, by simp, by simp, by simp, by simpa using h3⟩)
theorem mem_ex {q : List Int → List Int → Bool} {nf nt : Nat} (h : Pq q nf nt) (hn : q [] [] = false) (k : Nat) (p : Pr) : p ∈ exS q nf nt k [] [] ↔ q p.1 p.2 = true ∧ p.1.length ≤ k := by
  rw [mem_exS h k [] [] p rfl]
  constructor
  · rintro ⟨h1, us, vs, e1, _, _, h3⟩
    rw [e1]
    exact ⟨by rw [← e1]; exact h1, by simpa using h3⟩
  · rintro ⟨h1, h2⟩
    refine ⟨h1, p.1, p.2, rfl, rfl, ?_, h2⟩
    rcases Nat.eq_zero_or_pos p.1.length with h0 | h0
    · have hl := h.len h1
      have e1 : p.1 = [] := List.eq_nil_of_length_eq_zero h0
      have e2 : p.2 = [] := List.eq_nil_of_length_eq_zero (by omega)
      rw [e1, e2, hn] at h1
      cases h1
    · exact h0
theorem nodup_exS {q : List Int → List Int → Bool} {nf nt : Nat} (h : Pq q nf nt) : ∀ (k : Nat) (l r : List Int), l.length = r.length → (exS q nf nt k l r).Nodup
  | 0, l, r, _ => by simp [exS]
  | k + 1, l, r, hlr => by
    unfold exS
    have key : ∀ (a b : Nat) (p : Pr), p ∈ (if q (l ++ [(a : Int)]) (r ++ [(b : Int)]) = true then (l ++ [(a : Int)], r ++ [(b : Int)]) :: exS q nf nt k (l ++ [(a : Int)]) (r ++ [(b : Int)]) else []) → ∃ us vs, p.1 = l ++ (a : Int) :: us ∧ p.2 = r ++ (b : Int) :: vs := fun a b p hp => by
      split at hp
      · rcases List.mem_cons.1 hp with e | hp
        · rw [e]
          exact ⟨[], [], rfl, rfl⟩
        · obtain ⟨_, us, vs, e1, e2, _⟩ := (mem_exS h k _ _ p (by simp [hlr])).1 hp
          exact ⟨us, vs, by rw [e1]; simp, by rw [e2]; simp⟩
      · cases hp
    rw [List.Nodup, List.pairwise_flatMap]
    refine ⟨fun a ha => ?_, ?_⟩
    · rw [List.pairwise_flatMap]
      refine ⟨fun b hb => ?_, ?_⟩
      · split
        · rw [List.pairwise_cons]
          refine ⟨fun p hp e => ?_, nodup_exS h k _ _ (by simp [hlr])⟩
          obtain ⟨_, us, vs, e1, _, h2, _⟩ := (mem_exS h k _ _ p (by simp [hlr])).1 hp
          rw [← e] at e1
          have := congrArg List.length e1
          simp at this
          rw [this] at h2
          exact absurd h2 (by simp)
        · exact List.Pairwise.nil
      · refine (nodup_rg 0 nt).imp fun {b b'} hne p hp p' hp' e => ?_
        obtain ⟨us, vs, e1, e2⟩ := key _ _ _ hp
        obtain ⟨us', vs', e1', e2'⟩ := key _ _ _ hp'
        rw [e, e2'] at e2
        have := List.append_cancel_left e2
        simp only [List.cons.injEq] at this
        omega
    · refine (nodup_rg _ nf).imp fun {a a'} hne p hp p' hp' e => ?_
      obtain ⟨b, _, hp⟩ := List.mem_flatMap.1 hp
      obtain ⟨b', _, hp'⟩ := List.mem_flatMap.1 hp'
      obtain ⟨us, vs, e1, e2⟩ := key _ _ _ hp
      obtain ⟨us', vs', e1', e2'⟩ := key _ _ _ hp'
      rw [e, e1'] at e1
      have := List.append_cancel_left e1
      simp only [List.cons.injEq] at this
      omega
def lvS (q : List Int → List Int → Bool) (nf nt : Nat) (now : List Pr) : List Pr :=
  now.flatMap fun p => (rg 0 nf).flatMap fun (a : Nat) => (rg 0 nt).flatMap fun (b : Nat) => if q (p.1 ++ [(a : Int)]) (p.2 ++ [(b : Int)]) then [(p.1 ++ [(a : Int)], p.2 ++ [(b : Int)])] else []
def lvR (q : List Int → List Int → Bool) (nf nt : Nat) : Nat → List Pr × List Pr
  | 0 => ([], [([], [])])
  | k + 1 => ((lvR q nf nt k).1 ++ lvS q nf nt (lvR q nf nt k).2, lvS q nf nt (lvR q nf nt k).2)
end Go.Ab.A15
namespace Go.Ab.A15
open Go Go.Ab Go.Ab.A34 Go.Sort Go.Shelf Go.Proofs
theorem cmpI_neg (x y : Int) : cmpI y x = -cmpI x y := by unfold cmpI; split <;> split <;> omega
theorem cmpI_zero {x y : Int} (h : cmpI x y = 0) : x = y := by unfold cmpI at h; split at h <;> first | omega | (split at h <;> omega)
theorem cmpI_lt {x y : Int} : cmpI x y < 0 ↔ x < y := by unfold cmpI; split <;> first | omega | (split <;> omega)
theorem lexI_neg : ∀ x y, lexI y x = -lexI x y
  | [], [] => rfl
  | [], _ :: _ => rfl
  | _ :: _, [] => rfl
  | a :: x, b :: y => by
    unfold lexI
    have h := cmpI_neg a b
    by_cases h0 : cmpI a b = 0
    · rw [if_pos h0, if_pos (by omega), lexI_neg x y]
    · rw [if_neg h0, if_neg (by omega), h]
theorem lexI_zero : ∀ {x y}, lexI x y = 0 → x = y
  | [], [], _ => rfl
  | [], _ :: _, h => by simp [lexI] at h
  | _ :: _, [], h => by simp [lexI] at h
  | a :: x, b :: y, h => by
    unfold lexI at h
    by_cases h0 : cmpI a b = 0
    · rw [if_pos h0] at h
      rw [cmpI_zero h0, lexI_zero h]
    · rw [if_neg h0] at h
      exact absurd h h0
theorem lexI_trans : ∀ {x y z}, lexI x y < 0 → lexI y z < 0 → lexI x z < 0
  | [], [], _, h, _ => by simp [lexI] at h
  | _ :: _, [], _, h, _ => by simp [lexI] at h
  | [], _ :: _, [], _, h => by simp [lexI] at h
  | [], _ :: _, _ :: _, _, _ => by simp [lexI]
  | _ :: _, _ :: _, [], _, h => by simp [lexI] at h
  | a :: x, b :: y, c :: z, h1, h2 => by
    unfold lexI at h1 h2 ⊢
    by_cases e1 : cmpI a b = 0
    · rw [if_pos e1] at h1
      have := cmpI_zero e1
      subst this
      by_cases e2 : cmpI a c = 0
      · rw [if_pos e2] at h2 ⊢
        exact lexI_trans h1 h2
      · rw [if_neg e2] at h2 ⊢
        exact h2
    · rw [if_neg e1] at h1
      have l1 := cmpI_lt.1 h1
      by_cases e2 : cmpI b c = 0
      · have := cmpI_zero e2
        subst this
        rw [if_neg e1]
        exact h1
      · rw [if_neg e2] at h2
        have l2 := cmpI_lt.1 h2
        have l3 : cmpI a c < 0 := cmpI_lt.2 (by omega)
        rw [if_neg (by omega)]
        exact l3
theorem fl_one {E : Env} {v : Value} {n sz : Nat} {f : Nat → List SV} (hr : Rep E v (.fl n sz f)) : v.oneCell' = true := by cases hr <;> rfl
def cmpD (a b : Dp) : Int := if lexI a.l b.l = 0 then lexI a.r b.r else lexI a.l b.l
theorem cmpD_neg (a b : Dp) : cmpD b a = -cmpD a b := by
  unfold cmpD
  have h1 := lexI_neg a.l b.l
  have h2 := lexI_neg a.r b.r
  by_cases h : lexI a.l b.l = 0
  · rw [if_pos h, if_pos (by omega), h2]
  · rw [if_neg h, if_neg (by omega), h1]
theorem cmpD_zero {a b : Dp} (h : cmpD a b = 0) : a.l = b.l ∧ a.r = b.r := by
  unfold cmpD at h
  by_cases h0 : lexI a.l b.l = 0
  · rw [if_pos h0] at h
    exact ⟨lexI_zero h0, lexI_zero h⟩
  · rw [if_neg h0] at h
    exact absurd h h0
theorem cmpD_trans {a b c : Dp} (h1 : cmpD a b < 0) (h2 : cmpD b c < 0) : cmpD a c < 0 := by
  unfold cmpD at *
  by_cases e1 : lexI a.l b.l = 0
  · rw [if_pos e1] at h1
    rw [lexI_zero e1]
    by_cases e2 : lexI b.l c.l = 0
    · rw [if_pos e2] at h2 ⊢
      exact lexI_trans h1 h2
    · rw [if_neg e2] at h2 ⊢
      exact h2
  · rw [if_neg e1] at h1
    by_cases e2 : lexI b.l c.l = 0
    · rw [← lexI_zero e2, if_neg e1]
      exact h1
    · rw [if_neg e2] at h2
      have h3 := lexI_trans h1 h2
      rw [if_neg (by omega)]
      exact h3
theorem swo_cmpD : SWO (ltOf cmpD) where
  irrefl := fun x => by
    have := cmpD_neg x x
    simp only [ltOf, decide_eq_false_iff_not]
    omega
  trans := fun x y z h1 h2 => by
    simp only [ltOf, decide_eq_true_eq] at *
    exact cmpD_trans h1 h2
  ntrans := fun x y z h1 h2 => by
    simp only [ltOf, decide_eq_false_iff_not] at *
    intro h3
    have n1 := cmpD_neg x y
    have n2 := cmpD_neg y z
    rcases Int.lt_or_eq_of_le (show cmpD y x ≤ 0 by omega) with h4 | h4
    · have := cmpD_trans h4 h3
      omega
    · obtain ⟨e1, e2⟩ := cmpD_zero h4
      have : cmpD x z = cmpD y z := by unfold cmpD; rw [e1, e2]
      omega
def orL : List Int → Int
  | [] => 0
  | x :: l => if x = 0 then orL l else x
theorem orL_step {l : List Int} {i : Nat} (h : i < l.length) : orL (l.drop i) = if l.getD i 0 = 0 then orL (l.drop (i + 1)) else l.getD i 0 := by
  have g : l.getD i 0 = l[i] := by simp [List.getD_eq_getElem?_getD, h]
  rw [List.drop_eq_getElem_cons h, g]
  rfl
abbrev dCs (l : List Dp) : List SV := l.flatMap dC
def srtD (l : List Dp) : List Dp := l.mergeSort fun x y => !(ltOf cmpD) y x
end Go.Ab.A15
namespace Go.Proofs.YtpidncgibgiidaaGreat
open Go Go.Ab Go.Ab.A34 Go.Ab.A15 Go.Sort Go.Shelf Go.RowKit
variable [Gl] [Tabs]
theorem cmp_n (x y : Int) : PCall Tryz.prog 114 [I64 x, I64 y] (I64 (cmpI x y)) := by
  have nan : ∀ z, PCall Tryz.prog 144 [I64 z] (SB false) := fun z => by
    refine Call.enter' (N := 6) (rs := [.tmp 2]) Tryz.func144 rfl rfl rfl (by decide) rfl ?_; simp only [argT]; have hD : (0 : Nat) = 0 := rfl
    repeat' first | (refine SW.seq_k fun K hK => ?_) | ((first | refine SW.region ?_ | refine SW.ret ?_); try simp only [go_sem, hD]) | (apply hK; clear hK K)
    refine ret_pure ?_; simp only [resL_tmp, resL_nil, tupOf, go_sem, hD]
  have cx := nan x
  have cy := nan y
  obtain ⟨R, hR⟩ : ∃ R, R = cmpI x y := ⟨_, rfl⟩
  rw [← hR]
  unfold cmpI at hR
  by_cases h1 : x < y
  · rw [if_pos h1] at hR
    subst hR
    refine Call.enter' (N := 20) (rs := [.tmp 4]) Tryz.func114 rfl rfl rfl (by decide) rfl ?_; simp only [argT]; have hD : (0 : Nat) = 0 := rfl
    repeat' first | (refine SW.seq_k fun K hK => ?_) | ((first | refine SW.region ?_ | refine SW.cond ?_ | refine SW.skip ?_ | refine SW.ret ?_ | refine Call.of_pure (cx) ?_ | refine Call.of_pure (cy) ?_); try simp only [go_sem, hD, h1]) | (apply hK; clear hK K)
    refine ret_pure ?_; simp only [resL_tmp, resL_nil, tupOf, go_sem, hD]
  · rw [if_neg h1] at hR
    by_cases h2 : y < x
    · rw [if_pos h2] at hR
      subst hR
      refine Call.enter' (N := 20) (rs := [.tmp 4]) Tryz.func114 rfl rfl rfl (by decide) rfl ?_; simp only [argT]; have hD : (0 : Nat) = 0 := rfl
      repeat' first | (refine SW.seq_k fun K hK => ?_) | ((first | refine SW.region ?_ | refine SW.cond ?_ | refine SW.skip ?_ | refine SW.ret ?_ | refine Call.of_pure (cx) ?_ | refine Call.of_pure (cy) ?_); try simp only [go_sem, hD, h1, h2]) | (apply hK; clear hK K)
      refine ret_pure ?_; simp only [resL_tmp, resL_nil, tupOf, go_sem, hD]
    · rw [if_neg h2] at hR
      subst hR
      refine Call.enter' (N := 20) (rs := [.tmp 4]) Tryz.func114 rfl rfl rfl (by decide) rfl ?_; simp only [argT]; have hD : (0 : Nat) = 0 := rfl
      repeat' first | (refine SW.seq_k fun K hK => ?_) | ((first | refine SW.region ?_ | refine SW.cond ?_ | refine SW.skip ?_ | refine SW.ret ?_ | refine Call.of_pure (cx) ?_ | refine Call.of_pure (cy) ?_); try simp only [go_sem, hD, h1, h2]) | (apply hK; clear hK K)
      refine ret_pure ?_; simp only [resL_tmp, resL_nil, tupOf, go_sem, hD]
theorem lex_n (a b : List Int) (ha : a.length ≤ 1000000000) (hb : b.length ≤ 1000000000) : PCall Tryz.prog 95 [IL a, IL b] (I64 (lexI a b)) := by
  obtain ⟨R, hR⟩ : ∃ R, R = lexI a b := ⟨_, rfl⟩
  rw [← hR]
  have hR0 : R = lexI (a.drop 0) (b.drop 0) := by rw [List.drop_zero, List.drop_zero]; exact hR
  clear hR
  refine Call.enter' (N := 36) (rs := [.tmp 4]) Tryz.func95 rfl rfl rfl (by decide) rfl ?_; simp only [argT]; have hD : (0 : Nat) = 0 := rfl
  repeat' first | (refine SW.seq_k fun K hK => ?_) | (refine SW.block ?_) | (refine SW.region ?_; try simp only [go_sem, hD]) | (apply hK; clear hK K)
  obtain ⟨I, hI⟩ : ∃ I : Nat → St → Prop, ∀ k S, I k S ↔ (∃ (i : Nat) , k = a.length - i ∧ i ≤ a.length ∧ R = lexI (a.drop i) (b.drop i) ∧ S = ⟨[(0, IL a), (1, IL b), (9, IL a), (10, I64 a.length), (11, I64 i)], []⟩) := ⟨fun k S => _, fun _ _ => Iff.rfl⟩
  refine SW.loop' I (a.length) ((hI _ _).2 ⟨0, rfl, Nat.zero_le _, hR0, rfl⟩) (by repeat' (first | exact rfl | exact trivial | constructor)) ?_
  intro k S hIn
  obtain ⟨i, rfl, hi, hC, rfl⟩ := (hI _ _).1 hIn
  clear hIn
  have ie : ((i : Nat) : Int).toNat = i := Int.toNat_natCast _
  have i0 : (0 : Int) ≤ ((i : Nat) : Int) := by omega
  clear hR0
  by_cases hlt : i < a.length
  · have hli : ((i : Nat) : Int) < (((a.length) : Nat) : Int) := by omega
    have w1 : IntKind.i64.wrap ((i : Int) + 1) = ((i + 1 : Nat) : Int) := by rw [i64_wrap (by omega) (by omega)]; omega
    rw [lexI_step hlt] at hC
    have fi : iF a i = [I64 (a.getD i 0)] := rfl
    by_cases hlb : i < b.length
    · rw [if_pos hlb] at hC
      have gi : iF b i = [I64 (b.getD i 0)] := rfl
      have hnb : ¬ ((b.length : Nat) : Int) ≤ ((i : Nat) : Int) := by omega
      have hbi : ((i : Nat) : Int) < ((b.length : Nat) : Int) := by omega
      have c := cmp_n (a.getD i 0) (b.getD i 0)
      generalize cmpI (a.getD i 0) (b.getD i 0) = z at *
      generalize a.getD i 0 = u at *
      generalize b.getD i 0 = v at *
      by_cases hz : z = 0
      · rw [if_pos hz] at hC
        repeat' first | (refine SW.seq_k fun K hK => ?_) | (refine SW.block ?_) | ((first | refine SW.region ?_ | refine SW.cond ?_ | refine SW.skip ?_ | refine Call.of_pure (c) ?_); try simp only [go_sem, hD, hli, ie, i0, w1, fi, gi, hnb, hbi, hz, true_implies]) | (apply hK; clear hK K)
        refine Rnd.sub (a.length - (i + 1)) (by omega) ((hI _ _).2 ⟨i + 1, rfl, by omega, hC, rfl⟩) (by repeat' (first | exact rfl | exact trivial | constructor))
      · rw [if_neg hz] at hC
        subst hC
        repeat' first | (refine SW.seq_k fun K hK => ?_) | (refine SW.block ?_) | ((first | refine SW.region ?_ | refine SW.cond ?_ | refine SW.skip ?_ | refine SW.ret ?_ | refine Call.of_pure (c) ?_); try simp only [go_sem, hD, hli, ie, i0, w1, fi, gi, hnb, hbi, hz, true_implies]) | (apply hK; clear hK K)
        refine ret_pure ?_; simp only [resL_tmp, resL_nil, tupOf, go_sem, hD]
    · rw [if_neg hlb] at hC
      subst hC
      have hnb : ((b.length : Nat) : Int) ≤ ((i : Nat) : Int) := by omega
      repeat' first | (refine SW.seq_k fun K hK => ?_) | (refine SW.block ?_) | ((first | refine SW.region ?_ | refine SW.cond ?_ | refine SW.skip ?_ | refine SW.ret ?_); try simp only [go_sem, hD, hli, ie, i0, w1, fi, hnb, true_implies]) | (apply hK; clear hK K)
      refine ret_pure ?_; simp only [resL_tmp, resL_nil, tupOf, go_sem, hD]
  · have hli : ¬ ((i : Nat) : Int) < (((a.length) : Nat) : Int) := by omega
    rw [lexI_end (by omega)] at hC
    have hia : i = a.length := by omega
    by_cases hlb : i < b.length
    · rw [if_pos hlb] at hC
      subst hC
      have hab : ((a.length : Nat) : Int) < ((b.length : Nat) : Int) := by omega
      repeat' first | (refine SW.seq_k fun K hK => ?_) | ((first | refine SW.region ?_ | refine SW.cond ?_ | refine SW.exit ?_ | refine SW.ret ?_); try simp only [go_sem, hD, hli, hab, true_implies]) | (apply hK; clear hK K) | (clear hK K; apply hK; clear hK K)
      refine ret_pure ?_; simp only [resL_tmp, resL_nil, tupOf, go_sem, hD]
    · rw [if_neg hlb] at hC
      subst hC
      have hab : ¬ ((a.length : Nat) : Int) < ((b.length : Nat) : Int) := by omega
      repeat' first | (refine SW.seq_k fun K hK => ?_) | ((first | refine SW.region ?_ | refine SW.cond ?_ | refine SW.skip ?_ | refine SW.exit ?_ | refine SW.ret ?_); try simp only [go_sem, hD, hli, hab, true_implies]) | (apply hK; clear hK K) | (clear hK K; apply hK; clear hK K)
      refine ret_pure ?_; simp only [resL_tmp, resL_nil, tupOf, go_sem, hD]
theorem or_n (l : List Int) (n : Nat) (hn : n = l.length) (hl : l.length ≤ 1000000000) : PCall Tryz.prog 94 [.fl n 1 (iF l)] (I64 (orL l)) := by
  subst hn
  obtain ⟨R, hR⟩ : ∃ R, R = orL l := ⟨_, rfl⟩
  rw [← hR]
  refine Call.enter' (N := 18) (rs := [.tmp 2]) Tryz.func94 rfl rfl rfl (by decide) rfl ?_; simp only [argT]; have hD : (0 : Nat) = 0 := rfl
  repeat' first | (refine SW.seq_k fun K hK => ?_) | (refine SW.block ?_) | (refine SW.region ?_; try simp only [go_sem, hD]) | (apply hK; clear hK K)
  obtain ⟨I, hI⟩ : ∃ I : Nat → St → Prop, ∀ k S, I k S ↔ (∃ (i : Nat) , k = l.length - i ∧ i ≤ l.length ∧ R = orL (l.drop i) ∧ S = ⟨[(0, IL l), (3, I64 (0 : Nat)), (6, IL l), (7, I64 l.length), (8, I64 i)], []⟩) := ⟨fun k S => _, fun _ _ => Iff.rfl⟩
  refine SW.loop' I (l.length) ((hI _ _).2 ⟨0, rfl, Nat.zero_le _, hR, rfl⟩) (by repeat' (first | exact rfl | exact trivial | constructor)) ?_
  intro k S hIn
  obtain ⟨i, rfl, hi, hC, rfl⟩ := (hI _ _).1 hIn
  clear hIn
  have ie : ((i : Nat) : Int).toNat = i := Int.toNat_natCast _
  have i0 : (0 : Int) ≤ ((i : Nat) : Int) := by omega
  clear hR
  by_cases hlt : i < l.length
  · have hli : ((i : Nat) : Int) < (((l.length) : Nat) : Int) := by omega
    have w1 : IntKind.i64.wrap ((i : Int) + 1) = ((i + 1 : Nat) : Int) := by rw [i64_wrap (by omega) (by omega)]; omega
    rw [orL_step hlt] at hC
    have fi : iF l i = [I64 (l.getD i 0)] := rfl
    generalize l.getD i 0 = u at *
    by_cases hz : u = 0
    · rw [if_pos hz] at hC
      repeat' first | (refine SW.seq_k fun K hK => ?_) | (refine SW.block ?_) | ((first | refine SW.region ?_ | refine SW.cond ?_ | refine SW.skip ?_); try simp only [go_sem, hD, hli, ie, i0, w1, fi, hz, true_implies]) | (apply hK; clear hK K)
      refine Rnd.sub (l.length - (i + 1)) (by omega) ((hI _ _).2 ⟨i + 1, rfl, by omega, hC, rfl⟩) (by repeat' (first | exact rfl | exact trivial | constructor))
    · rw [if_neg hz] at hC
      subst hC
      repeat' first | (refine SW.seq_k fun K hK => ?_) | (refine SW.block ?_) | ((first | refine SW.region ?_ | refine SW.cond ?_ | refine SW.skip ?_ | refine SW.ret ?_); try simp only [go_sem, hD, hli, ie, i0, w1, fi, hz, true_implies]) | (apply hK; clear hK K)
      refine ret_pure ?_; simp only [resL_tmp, resL_nil, tupOf, go_sem, hD]
  · have hli : ¬ ((i : Nat) : Int) < (((l.length) : Nat) : Int) := by omega
    rw [List.drop_of_length_le (by omega)] at hC
    have hC2 : R = 0 := hC
    subst hC2
    repeat' first | (refine SW.seq_k fun K hK => ?_) | ((first | refine SW.region ?_ | refine SW.cond ?_ | refine SW.exit ?_ | refine SW.ret ?_); try simp only [go_sem, hD, hli]) | (apply hK; clear hK K) | (clear hK K; apply hK; clear hK K)
    refine ret_pure ?_; simp only [resL_tmp, resL_nil, tupOf, go_sem, hD]
theorem ord_d (a b : Dp) (ha : OkS a) (hb : OkS b) : PCall Tryz.prog 93 [DV a, DV b] (I64 (cmpD a b)) := by
  have c1 := lex_n a.l b.l ha.l hb.l
  have c2 := lex_n a.r b.r ha.r hb.r
  have he : cmpD a b = orL [lexI a.l b.l, lexI a.r b.r] := by
    unfold cmpD orL orL orL
    by_cases h : lexI a.l b.l = 0
    · rw [if_pos h, if_pos h]
      split
      · assumption
      · rfl
    · rw [if_neg h, if_neg h]
  rw [he]
  clear he
  generalize lexI a.l b.l = x at *
  generalize lexI a.r b.r = y at *
  have c3 := or_n [x, y] 2 rfl (by simp)
  generalize orL [x, y] = z at *
  have cl : ∀ bk H, Heap.find H bk = some (.svs [I64 x, I64 y]) → Ab.Call Tryz.prog 94 [.os bk 0 2 1] H (fun r h' => r = I64 z ∧ h' = H) := fun bk H hH =>
    Call.lend (args := [.os bk 0 2 1]) (k := .svs [I64 x, I64 y]) (off := 0) (sz := 1) 0 (iF [x, y]) (by simp) rfl hH (by show 0 + 2 * 1 ≤ 2; omega) (fun j hj => by
      rcases (by omega : j = 0 ∨ j = 1) with rfl | rfl <;> rfl) c3
  obtain ⟨af, al, at', ar⟩ := a
  obtain ⟨bf, bl, bt, br⟩ := b
  simp only at c1 c2
  refine Call.enter' (N := 17) (rs := [.tmp 4]) Tryz.func93 rfl rfl rfl (by decide) rfl ?_; simp only [argT]; have hD : (0 : Nat) = 0 := rfl
  repeat' first | ((refine Call.mono (cl _ _ (by simp [find_cons, hD])) ?_); (intro r h' hx); (obtain ⟨rfl, rfl⟩ := hx); (try simp only [go_sem, hD])) | (refine SW.seq_k fun K hK => ?_) | ((first | refine SW.region ?_ | refine SW.regionY [11] (id := 1) (Checked.mixed Tryz.checked) ((.one 0 [0, 1, 4, 9, 10, 11, 12] (.one 1 [1, 4, 9, 10, 11, 12] (.one 2 [2, 3, 4, 9, 10, 11, 12] (.one 3 [3, 4, 9, 10, 11, 12] (.one 4 [4, 9, 10, 11, 12] (.one 5 [5, 6, 9, 10, 11, 12] (.one 6 [6, 9, 10, 11, 12] (.one 7 [7, 8, 9, 10, 11, 12] (.one 8 [8, 9, 10, 11, 12] (.one 9 [9, 10, 11, 12] (.alt 10 false (.alt 11 true (.one 12 [12] .done) .nil) .nil))))))))))) : OY) (by kernel_rfl) ?_ | refine SW.ret ?_ | refine ⟨_, c1, ?_⟩ | refine ⟨_, c2, ?_⟩ | (refine allF_i fun b hb => ?_; replace hD := And.intro hb hD; clear hb; try simp only [fresh_cons, fresh_nil, and_true, ne_eq, neF] at hD)); try simp only [go_sem, hD, true_implies]) | (apply hK; clear hK K)
  all_goals
    refine retQ_le (St.le_sublist (h' := []) (fun x hx => by cases hx) (fun _ => by simp)) ?_
    simp only [resL_tmp, resL_nil, tupOf, go_sem, hD]
theorem isAggD : ∀ w, (isAgg 40).run Tryz.prog w = .ok true w := fun w => by kernel_rfl
theorem sizeD : ∀ w, (Go.sizeOf 40).run Tryz.prog w = .ok 4 w := fun w => by kernel_rfl
theorem sort_d (b : Nat) (l : List Dp) (f t : ByteArray) (hf : ∀ d ∈ l, d.f = f ∧ d.t = t) (hne : l ≠ []) (hnd : l.Nodup) (hl : l.length ≤ 1000000000) (hs : ∀ d ∈ l, OkS d) :
    Ab.Call Tryz.prog 92 [.os b 0 l.length 4, .fn (.func 93) [] []] [(b, .svs (dCs l))] (fun r h' => r = .tup [] ∧ h' = [(b, .svs (dCs (srtD l)))]) :=
  Call.sortSK (P := Tryz.prog) (ρ := Tryz.sortI_ren) Tryz.sortI ⟨_, Tryz.func92, by kernel_rfl, by kernel_rfl⟩ 4 (by decide) isAggD sizeD dC (fun _ => rfl) (fun x j E v hj hr => by
      rcases (by omega : j = 0 ∨ j = 1 ∨ j = 2 ∨ j = 3) with rfl | rfl | rfl | rfl
      · cases hr; rfl
      · exact fl_one hr
      · cases hr; rfl
      · exact fl_one hr) cmpD swo_cmpD 93 (Go.Proofs.enters_of Tryz.func93 (by kernel_rfl) rfl) b l (fun x hx y hy h1 h2 => by
    simp only [ltOf, decide_eq_false_iff_not] at h1 h2
    have := cmpD_neg x y
    obtain ⟨e1, e2⟩ := cmpD_zero (a := x) (b := y) (by omega)
    exact dp_eq.2 ⟨by rw [(hf x hx).1, (hf y hy).1], by rw [(hf x hx).2, (hf y hy).2], e1, e2⟩) hne hnd (by omega) (fun x hx y hy => ord_d x y (hs x hx) (hs y hy))
theorem sort_dn : PCall Tryz.prog 92 [SN, .fn (.func 93) [] []] (.tup []) :=
  Call.sortQ0 (P := Tryz.prog) (ρ := Tryz.sortI_ren) Tryz.sortI ⟨_, Tryz.func92, by kernel_rfl, by kernel_rfl⟩ 93
end Go.Proofs.YtpidncgibgiidaaGreat
