/- Several texts in one: HD, W2, W1, DM, W3, P9, L0, HE, T1. -/
import Derived.Test.YtblfodnajpamfaaGreatDoorQ6
import Derived.Test.YtblfodnajpamfaaGreatDoorQ4
import Derived.Test.YtblfodnajpamfaaGreatDoorQ5
import Derived.Test.YtblfodnajpamfaaGreatDoorRows
import Derived.ProofKit
import Derived.LaidMore
import Derived.OpenShut
import Derived.Stop.Joined
set_option linter.unusedSimpArgs false
set_option linter.unusedVariables false
set_option linter.unusedSectionVars false
set_option maxHeartbeats 4000000
set_option maxRecDepth 100000
namespace Go.Ab.A15
open Go Go.Ab Go.Ab.A34 Go.Ab.A01
def mapB (S : List ByteArray) : List (Value × Value) := S.map fun s => (.string s, .bool true)
def fB (s : ByteArray) : Nat → List ByteArray → Option (Nat × Value)
  | _, [] => none
  | i, y :: l => if s = y then some (i, .bool true) else fB s (i + 1) l
theorem mfI_B (s : ByteArray) : ∀ (l : List ByteArray) (i : Nat), mfI .s (.string s) (mapB l) i = some (fB s i l)
  | [], i => rfl
  | y :: l, i => by
    show mfI .s (.string s) ((.string y, .bool true) :: mapB l) i = _
    rw [mfI, same_s]
    unfold fB
    by_cases e : s = y
    · rw [if_pos e, decide_eq_true e]
    · rw [if_neg e, decide_eq_false e]
      exact mfI_B s l (i + 1)
theorem fB_none {s : ByteArray} : ∀ {l : List ByteArray} {i : Nat}, s ∉ l → fB s i l = none
  | [], i, _ => rfl
  | y :: l, i, h => by
    unfold fB
    rw [if_neg (fun e => h (by rw [e]; exact List.mem_cons_self))]
    exact fB_none fun hm => h (List.mem_cons_of_mem _ hm)
theorem fB_some {s : ByteArray} : ∀ {l : List ByteArray} {i : Nat}, s ∈ l → ∃ k, fB s i l = some (i + k, .bool true) ∧ k < l.length ∧ l.getD k ⟨#[]⟩ = s
  | [], i, h => by cases h
  | y :: l, i, h => by
    unfold fB
    by_cases e : s = y
    · exact ⟨0, by rw [if_pos e]; rfl, by simp, by simp [e]⟩
    · obtain ⟨k, h1, h2, h3⟩ := fB_some (i := i + 1) ((List.mem_cons.1 h).resolve_left e)
      exact ⟨k + 1, by rw [if_neg e, h1, show i + 1 + k = i + (k + 1) by omega], by simpa using h2, by simpa using h3⟩
open Classical in
noncomputable def addB (l : List ByteArray) (s : ByteArray) : List ByteArray := if s ∈ l then l else l ++ [s]
theorem mset_B (s : ByteArray) (l : List ByteArray) : mset (.string s) (.bool true) (mapB l) (fB s 0 l) = mapB (addB l s) := by
  unfold addB
  by_cases h : s ∈ l
  · obtain ⟨k, h1, h2, h3⟩ := fB_some (i := 0) h
    rw [if_pos h, h1]
    show (mapB l).set (0 + k) (.string s, .bool true) = mapB l
    rw [Nat.zero_add]
    refine List.ext_getElem (by simp) fun j h4 h5 => ?_
    by_cases e : k = j
    · subst e
      rw [List.getElem_set_self]
      have e2 : (mapB l)[k] = (.string l[k], .bool true) := by simp [mapB]
      have : l.getD k ⟨#[]⟩ = l[k] := by simp [List.getD_eq_getElem?_getD, h2]
      rw [e2, ← this, h3]
    · rw [List.getElem_set_ne e]
  · rw [if_neg h, fB_none h]
    show mapB l ++ [(.string s, .bool true)] = mapB (l ++ [s])
    unfold mapB
    rw [List.map_append]
    rfl
theorem mem_addB {l : List ByteArray} {s x : ByteArray} : x ∈ addB l s ↔ x ∈ l ∨ x = s := by
  unfold addB
  by_cases h : s ∈ l
  · rw [if_pos h]
    exact ⟨.inl, fun h2 => h2.elim id (fun e => by rw [e]; exact h)⟩
  · rw [if_neg h, List.mem_append, List.mem_singleton]
noncomputable def keysB (T : List R3) (b : List Int) : Nat → List ByteArray
  | 0 => []
  | i + 1 => addB (keysB T b i) (mkB (catK (T.getD i r0) b))
theorem mem_keysB {T : List R3} {b : List Int} {x : ByteArray} : ∀ {i : Nat}, i ≤ T.length → (x ∈ keysB T b i ↔ ∃ j, j < i ∧ mkB (catK (T.getD j r0) b) = x)
  | 0, _ => ⟨fun h => (by cases h), fun ⟨j, h, _⟩ => absurd h (Nat.not_lt_zero _)⟩
  | i + 1, h => by
    rw [keysB, mem_addB, mem_keysB (i := i) (by omega)]
    constructor
    · rintro (⟨j, h1, h2⟩ | rfl)
      · exact ⟨j, by omega, h2⟩
      · exact ⟨i, by omega, rfl⟩
    · rintro ⟨j, h1, h2⟩
      rcases Nat.lt_or_eq_of_le (Nat.lt_succ_iff.1 h1) with h3 | h3
      · exact .inl ⟨j, h3, h2⟩
      · subst h3; exact .inr h2.symm
theorem mkB_inj {a b : List UInt8} (h : mkB a = mkB b) : a = b := by
  have := congrArg (fun x : ByteArray => x.data.toList) h
  simpa [mkB] using this
theorem key_any {T : List R3} {a b : List Int} {x : R3} (hab : a.length = b.length) (hx : OkR x) (hT : ∀ y ∈ T, OkR y) (ha : ∀ z ∈ a, 0 ≤ z ∧ z < x.2.length) (hb : ∀ y ∈ T, ∀ z ∈ b, 0 ≤ z ∧ z < y.2.length) :
    (mkB (catK x a) ∈ keysB T b T.length) ↔ (T.any fun y => agB a b x.2 y.2) = true := by
  rw [mem_keysB (Nat.le_refl _), List.any_eq_true]
  constructor
  · rintro ⟨j, hj, h⟩
    have hm := getD_mem r0 hj
    exact ⟨_, hm, agB_iff.2 ((catK_inj hx (hT _ hm) hab ha (hb _ hm)).1 (mkB_inj h).symm)⟩
  · rintro ⟨y, hy, h⟩
    obtain ⟨j, hj, rfl⟩ := List.getElem_of_mem hy
    have e : T.getD j r0 = T[j] := by simp [List.getD_eq_getElem?_getD, hj]
    exact ⟨j, hj, by rw [e, (catK_inj hx (hT _ hy) hab ha (hb _ hy)).2 (agB_iff.1 h)]⟩
end Go.Ab.A15
namespace Go.Proofs.YtblfodnajpamfaaGreatDoor
open Go Go.Ab Go.Ab.A34 Go.Ab.A15 Go.Ab.A01
variable [Gl] [Tabs]
theorem viol_bad (db : List Tb) (d : Dp) (hdb : db.length ≤ 9223372036854775807) (hd : OkD d) (h : ¬ vE db d = 0) : PCall Tryz.prog 30 [DB db, DV d] (.tup [SN, I64 (vE db d)]) := by
  have c := valid_ip db d hdb hd
  rw [show (if ¬ chkS db = 0 then chkS db else fitsS db d) = vE db d from rfl] at c
  generalize vE db d = v at *
  obtain ⟨df, dl, dt, dr⟩ := d
  refine Call.enter' (N := 70) (rs := [.tmp 4, .tmp 5]) Tryz.func30 rfl rfl rfl (by decide) rfl ?_; simp only [argT]; have hD : (0 : Nat) = 0 := rfl
  repeat' first | (refine SW.seq_k fun K hK => ?_) | ((first | refine SW.region ?_ | refine SW.cond ?_ | refine SW.ret ?_ | refine Call.of_pure (c) ?_ | (refine allF_i fun b hb => ?_; replace hD := And.intro hb hD; clear hb; try simp only [fresh_cons, fresh_nil, and_true, ne_eq, neF] at hD)); try simp only [go_sem, hD, h, true_implies]) | ((first | apply hK | (clear hK K; apply hK) | (clear hK K; clear hK K; apply hK)); clear hK K)
  refine ret_pure ?_; simp only [resL_tmp, resL_nil, tupOf, go_sem, hD]
theorem viol_p (db : List Tb) (d : Dp) (hdb : db.length ≤ 9223372036854775807) (hd : OkD d) (hn : OkN db) (h : vE db d = 0) : PCall Tryz.prog 30 [DB db, DV d] (.tup [IL (violS (rowsAt db d.f) (rowsAt db d.t) d.l d.r), I64 0]) := by
  have c := valid_ip db d hdb hd
  rw [show (if ¬ chkS db = 0 then chkS db else fitsS db d) = vE db d from rfl, h] at c
  obtain ⟨V, F⟩ := vE_ok h
  have kf := rows_k V F.f
  have kt := rows_k V F.t
  have nf := rows_n hn F.f
  have nt := rows_n hn F.t
  have l1 := idxN_lt F.f
  have l2 := idxN_lt F.t
  have nl : (nmsOf db).length = db.length := by unfold nmsOf; rw [List.length_map]
  rw [nl] at l1 l2
  have c1 := find_p d.f db db.length (by omega) rfl (tF db) (fun i hi => rfl)
  have c2 := find_p d.t db db.length (by omega) rfl (tF db) (fun i hi => rfl)
  have e1 := tabI_idx (i := 0) F.f
  have e2 := tabI_idx (i := 0) F.t
  rw [Nat.zero_add] at e1 e2
  rw [e1] at c1
  rw [e2] at c2
  have b16 := in16_len F.nl (F.in16l V)
  have b16r := in16_len F.nr (F.in16r V)
  have fl : ∀ x ∈ rowsAt db d.f, ∀ z ∈ d.l, 0 ≤ z ∧ z < x.2.length := fun x hx z hz => by rw [kf.l x hx]; exact F.l z hz
  have tl : ∀ y ∈ rowsAt db d.t, ∀ z ∈ d.r, 0 ≤ z ∧ z < y.2.length := fun y hy z hz => by rw [kt.l y hy]; exact F.r z hz
  have okf : ∀ x ∈ rowsAt db d.f, OkR x := fun x hx => ⟨kf.v x hx, nf x hx⟩
  have okt : ∀ x ∈ rowsAt db d.t, OkR x := fun x hx => ⟨kt.v x hx, nt x hx⟩
  have kpf := fun x (hx : x ∈ rowsAt db d.f) => key_p x d.l (okf x hx) (fl x hx) (by omega)
  have kpt := fun x (hx : x ∈ rowsAt db d.t) => key_p x d.r (okt x hx) (tl x hx) (by omega)
  have kan := fun x (hx : x ∈ rowsAt db d.f) => key_any (T := rowsAt db d.t) (x := x) F.lr (okf x hx) okt (fl x hx) tl
  have kfn := kf.n
  have ktn := kt.n
  unfold rowsAt at kpf kpt kan kfn ktn ⊢
  have ff : tF db (idxN d.f (nmsOf db)) = tC (db.getD (idxN d.f (nmsOf db)) t0) := rfl
  have ft : tF db (idxN d.t (nmsOf db)) = tC (db.getD (idxN d.t (nmsOf db)) t0) := rfl
  clear kf kt nf nt F V e1 e2 h fl tl okf okt
  generalize idxN d.f (nmsOf db) = p at *
  generalize idxN d.t (nmsOf db) = q at *
  have p1 : ((p : Nat) : Int) < ((db.length : Nat) : Int) := by omega
  have q1 : ((q : Nat) : Int) < ((db.length : Nat) : Int) := by omega
  have p0 : (0 : Int) ≤ ((p : Nat) : Int) := by omega
  have q0 : (0 : Int) ≤ ((q : Nat) : Int) := by omega
  have pe : ((p : Nat) : Int).toNat = p := Int.toNat_natCast _
  have qe : ((q : Nat) : Int).toNat = q := Int.toNat_natCast _
  generalize db.getD p t0 = tp at *
  generalize db.getD q t0 = tq at *
  obtain ⟨pn, pa, fr⟩ := tp
  obtain ⟨qn, qa, tr⟩ := tq
  obtain ⟨df, dl, dt, dr⟩ := d
  simp only at kpf kpt kan kfn ktn c1 c2 ⊢
  obtain ⟨W, hW⟩ : ∃ W, W = violP fr tr dl dr := ⟨_, rfl⟩
  have hWs := fun i hi => @violP_succ fr tr dl dr i hi
  have hWl := violP_len fr tr dl dr
  have hWe : violS fr tr dl dr = W fr.length := by rw [hW]; rfl
  have hW0 : W 0 = [] := by rw [hW]; rfl
  rw [← hW] at hWs hWl
  rw [hWe]
  clear hW hWe
  refine Call.enter' (N := 70) (rs := [.tmp 4, .tmp 5]) Tryz.func30 rfl rfl rfl (by decide) rfl ?_; simp only [argT]; have hD : (0 : Nat) = 0 := rfl
  repeat' first | (refine SW.seq_k fun K hK => ?_) | ((first | refine SW.region ?_ | refine SW.cond ?_ | refine SW.skip ?_ | refine Call.of_pure (c) ?_ | (refine allF_i fun b hb => ?_; replace hD := And.intro hb hD; clear hb; try simp only [fresh_cons, fresh_nil, and_true, ne_eq, neF] at hD)); try simp only [go_sem, hD, true_implies]) | ((first | apply hK | (clear hK K; apply hK) | (clear hK K; clear hK K; apply hK)); clear hK K)
  obtain ⟨mb, rfl⟩ : ∃ x, x = b := ⟨_, rfl⟩
  obtain ⟨b3, rfl⟩ : ∃ x, x = b := ⟨_, rfl⟩
  obtain ⟨b2, rfl⟩ : ∃ x, x = b := ⟨_, rfl⟩
  refine Ab.SW.le (S' := ⟨[(2, .fp [TL db]), (3, .fp [Str df, IL dl, Str dt, IL dr]), (4, SN), (5, I64 0), (7, .mp mb)], [(mb, .mp [])]⟩) ?_ ?_
  · refine St.le.trans (St.le_freezeP (i := 3) (b := b3) (off := 0) (n := 4) (k := .svs [Str df, IL dl, Str dt, IL dr]) rfl (by simp [find_cons, hD]) (by exact Nat.le_refl 4)) ?_
    simp only [getN, Blk.get, go_sem, hD]
    refine St.le.trans (St.le_freezeP (i := 2) (b := b2) (off := 0) (n := 1) (k := .svs [TL db]) rfl (by simp [find_cons, hD]) (by exact Nat.le_refl 1)) ?_
    simp only [getN, Blk.get, go_sem, hD]
    exact St.le_sub (by repeat' (first | exact rfl | exact trivial | exact int_eq (by omega) | exact int_eq (by (rw [i64_wrap] <;> omega)) | constructor))
  clear hD
  have hD : (0 : Nat) = 0 := rfl
  repeat' first | (refine SW.block ?_) | ((first | refine SW.regionZ (id := 5) (Checked.mixed Tryz.checked) ((.one 0 [0, 1, 7, 8, 9, 10] (.one 1 [1, 7, 8, 9, 10] (.one 2 [2, 3, 6, 7, 8, 9, 10] (.one 3 [3, 6, 7, 8, 9, 10] (.one 4 [4, 5, 6, 7, 8, 9, 10] (.one 5 [5, 6, 7, 8, 9, 10] (.one 6 [6, 7, 8, 9, 10] (.one 7 [7, 8, 9, 10] (.one 8 [8, 9, 10] (.one 9 [9, 10] (.one 10 [10] (.one 11 [11] .done)))))))))))) : OZ) (by kernel_rfl) ?_ | refine ⟨_, c2, ?_⟩); try simp only [go_sem, hD, p1, q1, p0, q0, pe, qe, ff, ft, true_implies]) | ((first | apply hK | (clear hK K; apply hK) | (clear hK K; clear hK K; apply hK)); clear hK K)
  obtain ⟨I, hI⟩ : ∃ I : Nat → St → Prop, ∀ k S, I k S ↔ (∃ (i : Nat) , k = tr.length - i ∧ i ≤ tr.length ∧ S = ⟨[(2, .fp [TL db]), (3, .fp [Str df, IL dl, Str dt, IL dr]), (4, SN), (5, I64 0), (7, .mp mb), (29, RL tr), (30, I64 tr.length), (31, I64 i)], [(mb, .mp (mapB (keysB tr dr i)))]⟩) := ⟨fun k S => _, fun _ _ => Iff.rfl⟩
  refine SW.loop' I (tr.length) ((hI _ _).2 ⟨0, rfl, Nat.zero_le _, rfl⟩) (by repeat' (first | exact rfl | exact trivial | exact int_eq (by omega) | exact int_eq (by (rw [i64_wrap] <;> omega)) | constructor)) ?_
  intro k S hIn
  obtain ⟨i, rfl, hi, rfl⟩ := (hI _ _).1 hIn
  clear hIn
  have ie : ((i : Nat) : Int).toNat = i := Int.toNat_natCast _
  have i0 : (0 : Int) ≤ ((i : Nat) : Int) := by omega
  by_cases hlt : i < tr.length
  · have hli : ((i : Nat) : Int) < (((tr.length) : Nat) : Int) := by omega
    have w1 : IntKind.i64.wrap ((i : Int) + 1) = ((i + 1 : Nat) : Int) := by rw [i64_wrap (by omega) (by omega)]; omega
    have fi : rF tr i = [I64 (tr.getD i r0).1, VL (tr.getD i r0).2] := rfl
    have kp := kpt _ (getD_mem r0 hlt)
    have mf := mfI_B (mkB (catK (tr.getD i r0) dr)) (keysB tr dr i) 0
    have ms := mset_B (mkB (catK (tr.getD i r0) dr)) (keysB tr dr i)
    have hks : keysB tr dr (i + 1) = addB (keysB tr dr i) (mkB (catK (tr.getD i r0) dr)) := rfl
    rw [← hks] at ms
    clear hks
    generalize mkB (catK (tr.getD i r0) dr) = key at *
    generalize tr.getD i r0 = y at *
    obtain ⟨yi, ys⟩ := y
    simp only at fi kp
    generalize fB key 0 (keysB tr dr i) = fz at *
    repeat' first | (refine SW.seq_k fun K hK => ?_) | (refine SW.block ?_) | ((first | refine SW.region ?_ | refine SW.cond ?_ | refine SW.skip ?_ | refine Call.of_pure (kp) ?_ | (refine allF_i fun b hb => ?_; replace hD := And.intro hb hD; clear hb; try simp only [fresh_cons, fresh_nil, and_true, ne_eq, neF] at hD)); try simp only [go_sem, hD, hli, ie, i0, w1, fi, mf, ms, true_implies]) | ((first | apply hK | (clear hK K; apply hK) | (clear hK K; clear hK K; apply hK)); clear hK K)
    refine Rnd.le (St.le_slist (List.Sublist.cons _ (List.Sublist.refl _))) ?_
    refine Rnd.sub (tr.length - (i + 1)) (by omega) ((hI _ _).2 ⟨i + 1, rfl, by omega, rfl⟩) (by repeat' (first | exact rfl | exact trivial | exact int_eq (by omega) | exact int_eq (by (rw [i64_wrap] <;> omega)) | constructor))
  · have hli : ¬ ((i : Nat) : Int) < (((tr.length) : Nat) : Int) := by omega
    obtain rfl : i = tr.length := by omega
    generalize keysB tr dr tr.length = Ks at *
    repeat' first | (refine SW.seq_k fun K hK => ?_) | (refine SW.block ?_) | ((first | refine SW.region ?_ | refine SW.regionZ (id := 11) (Checked.mixed Tryz.checked) ((.one 0 [0, 1, 7, 8, 9, 10] (.one 1 [1, 7, 8, 9, 10] (.one 2 [2, 3, 6, 7, 8, 9, 10] (.one 3 [3, 6, 7, 8, 9, 10] (.one 4 [4, 5, 6, 7, 8, 9, 10] (.one 5 [5, 6, 7, 8, 9, 10] (.one 6 [6, 7, 8, 9, 10] (.one 7 [7, 8, 9, 10] (.one 8 [8, 9, 10] (.one 9 [9, 10] (.one 10 [10] (.one 11 [11] .done)))))))))))) : OZ) (by kernel_rfl) ?_ | refine SW.cond ?_ | refine SW.exit ?_ | refine ⟨_, c1, ?_⟩); try simp only [go_sem, hD, hli, p1, q1, p0, q0, pe, qe, ff, ft, true_implies]) | ((first | apply hK | (clear hK K; apply hK) | (clear hK K; clear hK K; apply hK)); clear hK K)
    have hD : (0 : Nat) = 0 := rfl
    obtain ⟨I, hI⟩ : ∃ I : Nat → St → Prop, ∀ k S, I k S ↔ (∃ (k2 : Nat) (x : SV) (h : Heap), k = fr.length - k2 ∧ k2 ≤ fr.length ∧ ((W k2 = [] ∧ x = SN ∧ h = []) ∨ ∃ g, ¬ g = mb ∧ ¬ mb = g ∧ x = .os g 0 (W k2).length 1 ∧ h = [(g, .ints .i64 (W k2))]) ∧ S = ⟨[(2, .fp [TL db]), (3, .fp [Str df, IL dl, Str dt, IL dr]), (4, SN), (5, I64 0), (7, .mp mb), (10, x), (50, RL fr), (51, I64 fr.length), (52, I64 k2)], (mb, .mp (mapB Ks)) :: h⟩) := ⟨fun k S => _, fun _ _ => Iff.rfl⟩
    refine SW.loop' I (fr.length) ((hI _ _).2 ⟨0, SN, [], rfl, Nat.zero_le _, .inl ⟨hW0, rfl, rfl⟩, rfl⟩) (by repeat' (first | exact rfl | exact trivial | exact int_eq (by omega) | exact int_eq (by (rw [i64_wrap] <;> omega)) | constructor)) ?_
    intro k S hIn
    obtain ⟨k2, x, h, rfl, hi, hB, rfl⟩ := (hI _ _).1 hIn
    clear hIn
    have ie : ((k2 : Nat) : Int).toNat = k2 := Int.toNat_natCast _
    have i0 : (0 : Int) ≤ ((k2 : Nat) : Int) := by omega
    by_cases hlk : k2 < fr.length
    · have hli : ((k2 : Nat) : Int) < (((fr.length) : Nat) : Int) := by omega
      have w1 : IntKind.i64.wrap ((k2 : Int) + 1) = ((k2 + 1 : Nat) : Int) := by rw [i64_wrap (by omega) (by omega)]; omega
      have fi : rF fr k2 = [I64 (fr.getD k2 r0).1, VL (fr.getD k2 r0).2] := rfl
      have kp := kpf _ (getD_mem r0 hlk)
      have ka := kan _ (getD_mem r0 hlk)
      have mf := mfI_B (mkB (catK (fr.getD k2 r0) dl)) Ks 0
      have hst := hWs k2 hlk
      have hwl := hWl k2
      generalize (tr.any fun y => agB dl dr (fr.getD k2 r0).2 y.2) = av at *
      generalize mkB (catK (fr.getD k2 r0) dl) = key at *
      generalize fr.getD k2 r0 = y at *
      obtain ⟨yi, ys⟩ := y
      simp only at fi kp hst
      cases av with
      | true =>
        obtain ⟨j, hj, _⟩ := fB_some (i := 0) (ka.2 rfl)
        rw [hj] at mf
        rw [if_pos rfl] at hst
        rcases hB with ⟨hw0, rfl, rfl⟩ | ⟨g, u1, u2, rfl, rfl⟩
        · repeat' first | (refine SW.seq_k fun K hK => ?_) | (refine SW.block ?_) | ((first | refine SW.region ?_ | refine SW.cond ?_ | refine SW.skip ?_ | refine Call.of_pure (kp) ?_ | (refine allF_i fun b hb => ?_; replace hD := And.intro hb hD; clear hb; try simp only [fresh_cons, fresh_nil, and_true, ne_eq, neF] at hD)); try simp only [go_sem, hD, hli, ie, i0, w1, fi, mf, true_implies]) | ((first | apply hK | (clear hK K; apply hK) | (clear hK K; clear hK K; apply hK)); clear hK K)
          refine Rnd.le (St.le_slist (List.Sublist.cons _ (List.Sublist.refl _))) ?_
          refine Rnd.sub (fr.length - (k2 + 1)) (by omega) ((hI _ _).2 ⟨k2 + 1, SN, [], rfl, by omega, .inl ⟨by rw [hst, hw0], rfl, rfl⟩, rfl⟩) (by repeat' (first | exact rfl | exact trivial | exact int_eq (by omega) | exact int_eq (by (rw [i64_wrap] <;> omega)) | constructor))
        · have hD := And.intro (eq_false u1) (eq_false u2)
          repeat' first | (refine SW.seq_k fun K hK => ?_) | (refine SW.block ?_) | ((first | refine SW.region ?_ | refine SW.cond ?_ | refine SW.skip ?_ | refine Call.of_pure (kp) ?_ | (refine allF_i fun b hb => ?_; replace hD := And.intro hb hD; clear hb; try simp only [fresh_cons, fresh_nil, and_true, ne_eq, neF] at hD)); try simp only [go_sem, hD, hli, ie, i0, w1, fi, mf, true_implies]) | ((first | apply hK | (clear hK K; apply hK) | (clear hK K; clear hK K; apply hK)); clear hK K)
          refine Rnd.le (St.le_slist (List.Sublist.cons _ (List.Sublist.refl _))) ?_
          refine Rnd.sub (fr.length - (k2 + 1)) (by omega) ((hI _ _).2 ⟨k2 + 1, .os g 0 (W k2).length 1, [(g, .ints .i64 (W k2))], rfl, by omega, .inr ⟨g, u1, u2, by rw [hst], by rw [hst]⟩, rfl⟩) (by repeat' (first | exact rfl | exact trivial | exact int_eq (by omega) | exact int_eq (by (rw [i64_wrap] <;> omega)) | constructor))
      | false =>
        have hj := fB_none (i := 0) (fun h => by have := ka.1 h; cases this)
        rw [hj] at mf
        rw [if_neg (by simp)] at hst
        have ba : ((W k2).length + 1) * 8 ≤ 140737488355328 := by omega
        rcases hB with ⟨hw0, rfl, rfl⟩ | ⟨g, u1, u2, rfl, rfl⟩
        · have hst2 : W (k2 + 1) = [yi] := by rw [hst, hw0]; rfl
          repeat' first | (with_reducible refine And.intro (by omega) ?_) | (refine SW.seq_k fun K hK => ?_) | (refine SW.block ?_) | ((first | refine SW.region ?_ | refine SW.cond ?_ | refine SW.skip ?_ | refine Call.of_pure (kp) ?_ | (refine allF_i fun b hb => ?_; replace hD := And.intro hb hD; clear hb; try simp only [fresh_cons, fresh_nil, and_true, ne_eq, neF] at hD) | simp only [appK, appOsK]); try simp only [go_sem, hD, hli, ie, i0, w1, fi, mf, ba, true_implies]) | (refine And.intro (by omega) ?_) | ((first | apply hK | (clear hK K; apply hK) | (clear hK K; clear hK K; apply hK)); clear hK K)
          refine Rnd.le ((St.le_slist (List.Sublist.cons_cons _ (List.Sublist.cons _ (List.Sublist.cons _ (List.Sublist.refl _))))).trans (St.le_perm (h' := [(mb, .mp (mapB Ks)), (b, .ints .i64 [yi])]) (List.Perm.swap _ _ _))) ?_
          refine Rnd.sub (fr.length - (k2 + 1)) (by omega) ((hI _ _).2 ⟨k2 + 1, .os b 0 1 1, [(b, .ints .i64 [yi])], rfl, by omega, .inr ⟨b, by simp [hD], by simp [hD], by rw [hst2]; rfl, by rw [hst2]⟩, rfl⟩) (by repeat' (first | exact rfl | exact trivial | exact int_eq (by omega) | exact int_eq (by (rw [i64_wrap] <;> omega)) | constructor))
        · have hD := And.intro (eq_false u1) (eq_false u2)
          have hst2 : (W (k2 + 1)).length = (W k2).length + 1 := by rw [hst, List.length_append]; rfl
          repeat' first | (with_reducible refine And.intro (by omega) ?_) | (refine SW.seq_k fun K hK => ?_) | (refine SW.block ?_) | ((first | refine SW.region ?_ | refine SW.cond ?_ | refine SW.skip ?_ | refine Call.of_pure (kp) ?_ | (refine allF_i fun b hb => ?_; replace hD := And.intro hb hD; clear hb; try simp only [fresh_cons, fresh_nil, and_true, ne_eq, neF] at hD) | simp only [appK, appOsK]); try simp only [go_sem, hD, hli, ie, i0, w1, fi, mf, ba, true_implies]) | ((first | apply hK | (clear hK K; apply hK) | (clear hK K; clear hK K; apply hK)); clear hK K)
          refine Rnd.le (St.le_slist (List.Sublist.cons _ (List.Sublist.cons _ (List.Sublist.refl _)))) ?_
          refine Rnd.sub (fr.length - (k2 + 1)) (by omega) ((hI _ _).2 ⟨k2 + 1, .os b 0 ((W k2).length + 1) 1, [(b, .ints .i64 (W k2 ++ [yi]))], rfl, by omega, .inr ⟨b, by simp [hD], by simp [hD], by rw [hst2], by rw [hst]⟩, rfl⟩) (by repeat' (first | exact rfl | exact trivial | exact int_eq (by omega) | exact int_eq (by (rw [i64_wrap] <;> omega)) | constructor))
    · have hli : ¬ ((k2 : Nat) : Int) < (((fr.length) : Nat) : Int) := by omega
      obtain rfl : k2 = fr.length := by omega
      generalize W fr.length = R at *
      rcases hB with ⟨rfl, rfl, rfl⟩ | ⟨g, u1, u2, rfl, rfl⟩
      · repeat' first | (refine SW.seq_k fun K hK => ?_) | ((first | refine SW.region ?_ | refine SW.cond ?_ | refine SW.exit ?_ | refine SW.ret ?_); try simp only [go_sem, hD, hli, true_implies]) | ((first | apply hK | (clear hK K; apply hK) | (clear hK K; clear hK K; apply hK)); clear hK K)
        refine retQ_le (S' := ⟨[(4, IL []), (5, I64 0)], []⟩) ?_ ?_
        · refine St.le.trans (St.le_say (i := 4) (v := IL []) (fun E u hr => Rep.fl_nil hr)) ?_
          exact St.le.trans St.le_drop (St.le_sub (by repeat' (first | exact rfl | exact trivial | exact int_eq (by omega) | exact int_eq (by (rw [i64_wrap] <;> omega)) | constructor)))
        simp only [resL_tmp, resL_nil, tupOf, go_sem, hD]
        try exact rfl
      · have hD := And.intro (eq_false u1) (eq_false u2)
        repeat' first | (refine SW.seq_k fun K hK => ?_) | ((first | refine SW.region ?_ | refine SW.cond ?_ | refine SW.exit ?_ | refine SW.ret ?_); try simp only [go_sem, hD, hli, true_implies]) | ((first | apply hK | (clear hK K; apply hK) | (clear hK K; clear hK K; apply hK)); clear hK K)
        refine retQ_le ((St.le_ints (i := 4) .i64 R rfl rfl (by rw [find_cons, if_neg u2, find_cons, if_pos rfl]) rfl).trans St.le_drop) ?_
        simp only [resL_tmp, resL_nil, tupOf, go_sem, hD]
        try exact rfl
end Go.Proofs.YtblfodnajpamfaaGreatDoor
namespace Go.Ab.A15
open Go Go.Ab Go.Ab.A34
def exT : List Tb := [⟨⟨#[114]⟩, [⟨#[97]⟩, ⟨#[98]⟩], []⟩, ⟨⟨#[115]⟩, [⟨#[99]⟩, ⟨#[100]⟩], []⟩]
def givD : List Dp := [⟨⟨#[114]⟩, [0, 1], ⟨#[115]⟩, [0, 1]⟩, ⟨⟨#[115]⟩, [1], ⟨#[114]⟩, [0]⟩]
def goalD : Dp := ⟨⟨#[114]⟩, [1], ⟨#[114]⟩, [0]⟩
def backD : Dp := ⟨⟨#[114]⟩, [0], ⟨#[114]⟩, [1]⟩
end Go.Ab.A15
namespace Go.Proofs.YtblfodnajpamfaaGreatDoor
open Go Go.Ab Go.Ab.A34 Go.Ab.A15
variable [Gl] [Tabs]
theorem ex_c : PCall Tryz.prog 35 [] (DB exT) := by
  refine Call.enter' (N := 7) (rs := [.cell 0 30]) Tryz.func35 rfl rfl rfl (by decide) rfl ?_; simp only [argT]; have hD : (0 : Nat) = 0 := rfl
  repeat' first | (refine SW.seq_k fun K hK => ?_) | ((first | refine SW.region ?_ | refine SW.ret ?_ | (refine allF_i fun b hb => ?_; replace hD := And.intro hb hD; clear hb; try simp only [fresh_cons, fresh_nil, and_true, ne_eq, neF] at hD)); try simp only [go_sem, hD]) | ((first | apply hK | (clear hK K; apply hK) | (clear hK K; clear hK K; apply hK)); clear hK K)
  obtain ⟨T, rfl⟩ : ∃ x, x = b := ⟨_, rfl⟩
  obtain ⟨B2, rfl⟩ : ∃ x, x = b := ⟨_, rfl⟩
  obtain ⟨B1, rfl⟩ : ∃ x, x = b := ⟨_, rfl⟩
  obtain ⟨O, rfl⟩ : ∃ x, x = b := ⟨_, rfl⟩
  refine retQ_le (S' := ⟨[(0, .fp [TL exT])], []⟩) ?_ ?_
  · skip
    refine St.le.trans (St.le_nilC (c := T) (j := 2) (sz := 2) (f := rF []) (by first | (rw [find_cons, if_pos rfl]) | (simp [find_cons, hD]; done) | (simp [find_cons, hD]; rfl)) (by first | decide | simp [Blk.len_svs]) rfl) ?_
    simp only [go_sem, hD]
    refine St.le.trans (St.le_nilC (c := T) (j := 5) (sz := 2) (f := rF []) (by first | (rw [find_cons, if_pos rfl]) | (simp [find_cons, hD]; done) | (simp [find_cons, hD]; rfl)) (by first | decide | simp [Blk.len_svs]) rfl) ?_
    simp only [go_sem, hD]
    refine St.le.trans (St.le_freezeC (c := T) (j := 4) (b := B2) (off := 0) (len := 2) (sz := 1) (by first | (rw [find_cons, if_pos rfl]) | (simp [find_cons, hD]; done) | (simp [find_cons, hD]; rfl)) (by simp [hD]) (by first | decide | simp [Blk.len_svs]) rfl (by first | (rw [find_cons, if_pos rfl]) | (simp [find_cons, hD]; done) | (simp [find_cons, hD]; rfl)) (by first | decide | simp [Blk.len_svs]) (sF [⟨#[99]⟩, ⟨#[100]⟩]) (fun p hp => by
      have h9 : p = 0 ∨ p = 1 := by omega
      rcases h9 with rfl | rfl <;> rfl)) ?_
    simp only [go_sem, hD]
    refine St.le.trans (St.le_freezeC (c := T) (j := 1) (b := B1) (off := 0) (len := 2) (sz := 1) (by first | (rw [find_cons, if_pos rfl]) | (simp [find_cons, hD]; done) | (simp [find_cons, hD]; rfl)) (by simp [hD]) (by first | decide | simp [Blk.len_svs]) rfl (by first | (rw [find_cons, if_pos rfl]) | (simp [find_cons, hD]; done) | (simp [find_cons, hD]; rfl)) (by first | decide | simp [Blk.len_svs]) (sF [⟨#[97]⟩, ⟨#[98]⟩]) (fun p hp => by
      have h9 : p = 0 ∨ p = 1 := by omega
      rcases h9 with rfl | rfl <;> rfl)) ?_
    simp only [go_sem, hD]
    refine St.le.trans (St.le_freezeC (c := O) (j := 0) (b := T) (off := 0) (len := 2) (sz := 3) (by first | (rw [find_cons, if_pos rfl]) | (simp [find_cons, hD]; done) | (simp [find_cons, hD]; rfl)) (by simp [hD]) (by first | decide | simp [Blk.len_svs]) rfl (by first | (rw [find_cons, if_pos rfl]) | (simp [find_cons, hD]; done) | (simp [find_cons, hD]; rfl)) (by first | decide | simp [Blk.len_svs]) (tF exT) (fun p hp => by
      have h9 : p = 0 ∨ p = 1 := by omega
      rcases h9 with rfl | rfl <;> rfl)) ?_
    simp only [go_sem, hD]
    refine St.le.trans (St.le_freezeP (i := 0) (b := O) (off := 0) (n := 1) rfl (by rw [find_cons, if_pos rfl]) (by exact Nat.le_refl 1)) ?_
    simp only [getN, Blk.get, go_sem, hD]
    exact St.le_sub (by repeat' (first | exact rfl | exact trivial | exact int_eq (by omega) | exact int_eq (by (rw [i64_wrap] <;> omega)) | constructor))
  simp only [resL_tmp, resL_cellE, resC_ok, resL_nil, tupOf, getN, go_sem, hD]
  try exact ⟨rfl, rfl⟩
theorem giv_c : PCall Tryz.prog 36 [] (DpL givD) := by
  refine Call.enter' (N := 8) (rs := [.tmp 0]) Tryz.func36 rfl rfl rfl (by decide) rfl ?_; simp only [argT]; have hD : (0 : Nat) = 0 := rfl
  repeat' first | (refine SW.seq_k fun K hK => ?_) | ((first | refine SW.region ?_ | refine SW.ret ?_ | (refine allF_i fun b hb => ?_; replace hD := And.intro hb hD; clear hb; try simp only [fresh_cons, fresh_nil, and_true, ne_eq, neF] at hD)); try simp only [go_sem, hD]) | ((first | apply hK | (clear hK K; apply hK) | (clear hK K; clear hK K; apply hK)); clear hK K)
  obtain ⟨T, rfl⟩ : ∃ x, x = b := ⟨_, rfl⟩
  obtain ⟨B4, rfl⟩ : ∃ x, x = b := ⟨_, rfl⟩
  obtain ⟨B3, rfl⟩ : ∃ x, x = b := ⟨_, rfl⟩
  obtain ⟨B2, rfl⟩ : ∃ x, x = b := ⟨_, rfl⟩
  obtain ⟨B1, rfl⟩ : ∃ x, x = b := ⟨_, rfl⟩
  refine retQ_le (S' := ⟨[(0, DpL givD)], []⟩) ?_ ?_
  · skip
    refine St.le.trans (St.le_freezeC (c := T) (j := 7) (b := B4) (off := 0) (len := 1) (sz := 1) (by first | (rw [find_cons, if_pos rfl]) | (simp [find_cons, hD]; done) | (simp [find_cons, hD]; rfl)) (by simp [hD]) (by first | decide | simp [Blk.len_svs]) rfl (by first | (rw [find_cons, if_pos rfl]) | (simp [find_cons, hD]; done) | (simp [find_cons, hD]; rfl)) (by first | decide | simp [Blk.len_svs]) (iF [0]) (fun p hp => by
      have h9 : p = 0 := by omega
      rcases h9 with rfl <;> rfl)) ?_
    simp only [go_sem, hD]
    refine St.le.trans (St.le_freezeC (c := T) (j := 5) (b := B3) (off := 0) (len := 1) (sz := 1) (by first | (rw [find_cons, if_pos rfl]) | (simp [find_cons, hD]; done) | (simp [find_cons, hD]; rfl)) (by simp [hD]) (by first | decide | simp [Blk.len_svs]) rfl (by first | (rw [find_cons, if_pos rfl]) | (simp [find_cons, hD]; done) | (simp [find_cons, hD]; rfl)) (by first | decide | simp [Blk.len_svs]) (iF [1]) (fun p hp => by
      have h9 : p = 0 := by omega
      rcases h9 with rfl <;> rfl)) ?_
    simp only [go_sem, hD]
    refine St.le.trans (St.le_freezeC (c := T) (j := 3) (b := B2) (off := 0) (len := 2) (sz := 1) (by first | (rw [find_cons, if_pos rfl]) | (simp [find_cons, hD]; done) | (simp [find_cons, hD]; rfl)) (by simp [hD]) (by first | decide | simp [Blk.len_svs]) rfl (by first | (rw [find_cons, if_pos rfl]) | (simp [find_cons, hD]; done) | (simp [find_cons, hD]; rfl)) (by first | decide | simp [Blk.len_svs]) (iF [0, 1]) (fun p hp => by
      have h9 : p = 0 ∨ p = 1 := by omega
      rcases h9 with rfl | rfl <;> rfl)) ?_
    simp only [go_sem, hD]
    refine St.le.trans (St.le_freezeC (c := T) (j := 1) (b := B1) (off := 0) (len := 2) (sz := 1) (by first | (rw [find_cons, if_pos rfl]) | (simp [find_cons, hD]; done) | (simp [find_cons, hD]; rfl)) (by simp [hD]) (by first | decide | simp [Blk.len_svs]) rfl (by first | (rw [find_cons, if_pos rfl]) | (simp [find_cons, hD]; done) | (simp [find_cons, hD]; rfl)) (by first | decide | simp [Blk.len_svs]) (iF [0, 1]) (fun p hp => by
      have h9 : p = 0 ∨ p = 1 := by omega
      rcases h9 with rfl | rfl <;> rfl)) ?_
    simp only [go_sem, hD]
    refine St.le.trans (St.le_freeze (i := 0) (b := T) (off := 0) (len := 2) (sz := 4) rfl (by first | (rw [find_cons, if_pos rfl]) | (simp [find_cons, hD]; done) | (simp [find_cons, hD]; rfl)) (by first | decide | simp [Blk.len_svs]) (dpF givD) (fun p hp => by
      have h9 : p = 0 ∨ p = 1 := by omega
      rcases h9 with rfl | rfl <;> rfl)) ?_
    simp only [go_sem, hD]
    exact St.le_sub (by repeat' (first | exact rfl | exact trivial | exact int_eq (by omega) | exact int_eq (by (rw [i64_wrap] <;> omega)) | constructor))
  simp only [resL_tmp, resL_nil, tupOf, go_sem, hD]
  try exact ⟨rfl, rfl⟩
end Go.Proofs.YtblfodnajpamfaaGreatDoor
namespace Go.Ab.A15
open Go Go.Ab Go.Ab.A34
theorem ex_all1 : allS exT givD goalD = 0 := by decide +kernel
theorem ex_all2 : allS exT givD backD = 0 := by decide +kernel
theorem ex_find1 : ¬ findS goalD.t goalD.r 0 (states givD goalD) < 0 := by decide +kernel
theorem ex_find2 : findS backD.t backD.r 0 (states givD backD) < 0 := by decide +kernel
theorem ex_len : (proofS givD goalD).length = 2 := by decide +kernel
theorem ex_chk : chkP givD goalD.t goalD.r (proofS givD goalD) goalD.f goalD.l = true := by decide +kernel
theorem ex_okp : OkP (proofS givD goalD) := by
  have h : (proofS givD goalD).all (fun p => decide (p.2.length ≤ 1000000)) = true := by decide +kernel
  exact ⟨by rw [ex_len]; omega, fun p hp => of_decide_eq_true (List.all_eq_true.1 h p hp)⟩
theorem ex_okd (d : Dp) (h : d = goalD ∨ d = backD ∨ d ∈ givD) : OkD d := by
  have : d = goalD ∨ d = backD ∨ d = ⟨⟨#[114]⟩, [0, 1], ⟨#[115]⟩, [0, 1]⟩ ∨ d = ⟨⟨#[115]⟩, [1], ⟨#[114]⟩, [0]⟩ := by
    rcases h with h | h | h
    · exact .inl h
    · exact .inr (.inl h)
    · unfold givD at h
      rcases List.mem_cons.1 h with h | h
      · exact .inr (.inr (.inl h))
      · exact .inr (.inr (.inr (List.mem_singleton.1 h)))
  rcases this with rfl | rfl | rfl | rfl <;> exact ⟨by decide, by decide⟩
theorem ex_few1 : Few exT givD goalD := ⟨by decide, by decide, fun d hd => ex_okd d (.inr (.inr hd)), ex_okd _ (.inl rfl), by decide, by decide⟩
theorem ex_few2 : Few exT givD backD := ⟨by decide, by decide, fun d hd => ex_okd d (.inr (.inr hd)), ex_okd _ (.inr (.inl rfl)), by decide, by decide⟩
def exW : List Wt := [(0, [[1, 0], [0, 0]]), (0, [[1, 0], [0, 0]])]
abbrev exC := Cl (nmsOf exT) (nsOf exT) givD backD
theorem ex_c0 : exC 0 [1, 0] := by
  have h := Cl.first (nm := nmsOf exT) (ns := nsOf exT) (l := givD) (g := backD)
  rwa [show idxN backD.f (nmsOf exT) = 0 by decide +kernel, show firstR ((nsOf exT).getD 0 0) backD = [1, 0] by decide +kernel] at h
theorem ex_c1 {r : List Int} (h : exC 0 r) (e : imgR 2 ⟨⟨#[114]⟩, [0, 1], ⟨#[115]⟩, [0, 1]⟩ r = r) : exC 1 r := by
  have k := Cl.step (nm := nmsOf exT) (ns := nsOf exT) (l := givD) (g := backD) ⟨⟨#[114]⟩, [0, 1], ⟨#[115]⟩, [0, 1]⟩ r List.mem_cons_self (by rw [show idxN (Dp.mk ⟨#[114]⟩ [0, 1] ⟨#[115]⟩ [0, 1]).f (nmsOf exT) = 0 by decide +kernel]; exact h)
  rwa [show idxN (Dp.mk ⟨#[114]⟩ [0, 1] ⟨#[115]⟩ [0, 1]).t (nmsOf exT) = 1 by decide +kernel, show (nsOf exT).getD 1 0 = 2 by decide +kernel, e] at k
theorem ex_c2 {r : List Int} (h : exC 1 r) : exC 0 (imgR 2 ⟨⟨#[115]⟩, [1], ⟨#[114]⟩, [0]⟩ r) := by
  have k := Cl.step (nm := nmsOf exT) (ns := nsOf exT) (l := givD) (g := backD) ⟨⟨#[115]⟩, [1], ⟨#[114]⟩, [0]⟩ r (List.mem_cons_of_mem _ List.mem_cons_self) (by rw [show idxN (Dp.mk ⟨#[115]⟩ [1] ⟨#[114]⟩ [0]).f (nmsOf exT) = 1 by decide +kernel]; exact h)
  rwa [show idxN (Dp.mk ⟨#[115]⟩ [1] ⟨#[114]⟩ [0]).t (nmsOf exT) = 0 by decide +kernel, show (nsOf exT).getD 0 0 = 2 by decide +kernel] at k
theorem ex_c3 : exC 0 [0, 0] := by
  have h := ex_c2 (ex_c1 ex_c0 (by decide +kernel))
  rwa [show imgR 2 ⟨⟨#[115]⟩, [1], ⟨#[114]⟩, [0]⟩ [1, 0] = [0, 0] by decide +kernel] at h
theorem ex_good : GoodW exT givD backD exW 4 where
  wi := {
    nd := fun s hs => by
      have : s = 0 ∨ s = 1 := by have h : s < 2 := hs; omega
      rcases this with rfl | rfl <;> decide +kernel
    c := fun s hs r hr => by
      have : s = 0 ∨ s = 1 := by have h : s < 2 := hs; omega
      have e : (exW.getD s w0).2 = [[1, 0], [0, 0]] := by rcases this with rfl | rfl <;> rfl
      rw [e] at hr
      have h2 : r = [1, 0] ∨ r = [0, 0] := by simpa using hr
      rcases this with rfl | rfl <;> rcases h2 with rfl | rfl
      · exact ex_c0
      · exact ex_c3
      · exact ex_c1 ex_c0 (by decide +kernel)
      · exact ex_c1 ex_c3 (by decide +kernel)
    z := by decide +kernel }
  len := rfl
  first := by decide +kernel
  cl := fun d hd r hr => by
    have h1 : d = ⟨⟨#[114]⟩, [0, 1], ⟨#[115]⟩, [0, 1]⟩ ∨ d = ⟨⟨#[115]⟩, [1], ⟨#[114]⟩, [0]⟩ := by
      unfold givD at hd
      rcases List.mem_cons.1 hd with h | h
      · exact .inl h
      · exact .inr (List.mem_singleton.1 h)
    have e : ∀ u, u = idxN d.f (nmsOf exT) → (exW.getD u w0).2 = [[1, 0], [0, 0]] := fun u hu => by
      rcases h1 with rfl | rfl <;> (rw [hu]; decide +kernel)
    replace hr : r ∈ (exW.getD (idxN d.f (nmsOf exT)) w0).2 := hr
    rw [e _ rfl] at hr
    have h2 : r = [1, 0] ∨ r = [0, 0] := by simpa using hr
    rcases h1 with rfl | rfl <;> rcases h2 with rfl | rfl <;> decide +kernel
  z := by decide
theorem ex_out : refOut exT givD backD = .tup [DB (refW exT exW), I64 0] := refOut_yes ex_good
theorem ex_two : (refW exT exW).length = 2 ∧ ((refW exT exW).getD 0 t0).rows.length = 2 ∧ ((refW exT exW).getD 1 t0).rows.length = 2 := by
  have e : refW exT exW = [tabW (exT.getD 0 t0) (exW.getD 0 w0).2, tabW (exT.getD 1 t0) (exW.getD 1 w0).2] := rfl
  rw [e]
  refine ⟨rfl, ?_, ?_⟩
  · show (rowsP _ (srtL _).length).length = 2
    rw [rowsP_len, srt_len]
    rfl
  · show (rowsP _ (srtL _).length).length = 2
    rw [rowsP_len, srt_len]
    rfl
end Go.Ab.A15
namespace Go.Proofs.YtblfodnajpamfaaGreatDoor
open Go Go.Ab Go.Ab.A34 Go.Ab.A15
variable [Gl] [Tabs]
theorem Cl.le16 {db : List Tb} {l : List Dp} {g : Dp} (V : Vdb db) {s : Nat} {r : List Int} (h : Cl (nmsOf db) (nsOf db) l g s r) : r.length ≤ 16 := by
  rw [h.len]
  exact V.ns s
theorem ns_at (db : List Tb) (i : Nat) : (nsOf db).getD i 0 = (db.getD i t0).attrs.length := by
  unfold nsOf
  simp only [List.getD_eq_getElem?_getD, List.getElem?_map]
  cases db[i]? <;> rfl
theorem grow_c (wb rb : Nat) (db : List Tb) (l : List Dp) (g : Dp) (V : Vall db l g) (h4 : db.length ≤ 4) (z : Int) (ws : List Wt) (hI : WI (Cl (nmsOf db) (nsOf db) l g) ws z) (hN : ws.length = db.length) (hz : z ≤ 401) (d : Dp) (hd : d ∈ l) :
    Ab.Call Tryz.prog 49 [.op wb 0, DV d] (WH wb rb (TL db) z ws) (fun r h' => ∃ ws' z' g', r = SB g' ∧ h'.Perm (WH wb rb (TL db) z' ws') ∧ WI (Cl (nmsOf db) (nsOf db) l g) ws' z' ∧ ws'.length = db.length ∧ Beg ws ws' ∧
      (g' = false → z' = z ∧ ws' = ws ∧ (z ≤ 400 → Clo (nmsOf db) (nsOf db) (fun t => (ws.getD t w0).2) d)) ∧ (g' = true → z < z') ∧ z' ≤ 401) := by
  have F := V.l d hd
  have l1 := idxN_lt F.f
  have l2 := idxN_lt F.t
  have nl : (nmsOf db).length = db.length := by unfold nmsOf; rw [List.length_map]
  rw [nl] at l1 l2
  have e1 := tabI_idx (i := 0) F.f
  have e2 := tabI_idx (i := 0) F.t
  rw [Nat.zero_add] at e1 e2
  have b16 := in16_len F.nr (F.in16r V.vd)
  have t16 := V.vd.ns (idxN d.t (nmsOf db))
  have hr := F.r
  have hl := F.l
  rw [ns_at] at t16 hr
  have c := grow_w wb rb db z ws d (idxN d.f (nmsOf db)) (idxN d.t (nmsOf db)) (Cl (nmsOf db) (nsOf db) l g) hI hN.symm (by omega) (by omega) (by omega) (by omega) e1 e2 F.lr (by omega) F.nr (by omega) hr (fun r hc a ha => by rw [hc.len]; exact hl a ha) (fun s r hc => by have := Cl.le16 V.vd hc; omega) (fun r hc => by rw [← ns_at]; exact Cl.step d r hd hc)
  refine Call.mono c fun r h' hx => ?_
  obtain ⟨ws', z', g', rfl, hp, hw, hln, hb, h0, h1, hm⟩ := hx
  refine ⟨ws', z', g', rfl, hp, hw, hln.trans hN, hb, fun h => ?_, h1, by omega⟩
  obtain ⟨a1, a2, a3⟩ := h0 h
  refine ⟨a1, a2, fun hz4 r hr => ?_⟩
  rw [ns_at]
  exact a3 hz4 r hr
theorem refute_no (db : List Tb) (l : List Dp) (g : Dp) (hf : Few db l g) (h : allS db l g = 0) (hp : findS g.t g.r 0 (states l g) < 0) : PCall Tryz.prog 18 [DB db, DpL l, DV g] (refOut db l g) := by
  have c := implies_p db l g hf h
  rw [decide_eq_false (show ¬ 0 ≤ findS g.t g.r 0 (states l g) by omega)] at c
  have hd4 := hf.d4
  have cg := find_p g.f db db.length (by omega) rfl (tF db) (fun i hi => rfl)
  clear hp
  have V := allS_ok h
  obtain ⟨U, hU⟩ : ∃ U, U = refOut db l g := ⟨_, rfl⟩
  rw [← hU]
  have hat : ∀ t ∈ db, t.attrs.length ≤ 1000 := fun t ht => by have := (valid_rows (V.vd.v t ht)).2.1; omega
  have hgc := fun wb rb z ws => grow_c wb rb db l g V hd4 z ws
  have hdc := fun wb rb z ws => database_c wb rb db z ws
  have hno := @refOut_no db l g
  have hyes := @refOut_yes db l g
  rw [← hU] at hno hyes
  clear hU
  have hgf := V.g.f
  have hti := tabI_idx (i := 0) hgf
  obtain ⟨f, hfd⟩ : ∃ f, f = idxN g.f (nmsOf db) := ⟨_, rfl⟩
  rw [← hfd, Nat.zero_add] at hti
  rw [hti] at cg
  have hfl : f < db.length := by rw [hfd]; have := idxN_lt hgf; rwa [nmsOf, List.length_map] at this
  have hns : (nsOf db).getD f 0 = (db.getD f t0).attrs.length := by
    unfold nsOf
    simp [List.getD_eq_getElem?_getD, hfl]
  have hn16 := V.vd.ns f
  have hC1 : Cl (nmsOf db) (nsOf db) l g f (firstR (db.getD f t0).attrs.length g) := by
    rw [← hns, hfd]
    exact Cl.first
  have hCL := fun s r (hc : Cl (nmsOf db) (nsOf db) l g s r) => Cl.le16 V.vd hc
  have hGW : ∀ ws z, WI (Cl (nmsOf db) (nsOf db) l g) ws z → ws.length = db.length → firstR (db.getD f t0).attrs.length g ∈ (ws.getD f w0).2 → (∀ d ∈ l, Clo (nmsOf db) (nsOf db) (fun t => (ws.getD t w0).2) d) → z ≤ 400 → GoodW db l g ws z := fun ws z a b c d e => ⟨a, b, by rw [← hfd, hns]; exact c, d, e⟩
  have hyes2 : ∀ ws z, WI (Cl (nmsOf db) (nsOf db) l g) ws z → ws.length = db.length → firstR (db.getD f t0).attrs.length g ∈ (ws.getD f w0).2 → (∀ d ∈ l, Clo (nmsOf db) (nsOf db) (fun t => (ws.getD t w0).2) d) → z ≤ 400 → U = .tup [DB (refW db ws), I64 0] := fun ws z a b c d e => hyes (hGW ws z a b c d e)
  clear hGW hyes
  obtain ⟨C, hC⟩ : ∃ C, C = Cl (nmsOf db) (nsOf db) l g := ⟨_, rfl⟩
  rw [← hC] at hno hC1
  simp only [← hC] at hgc hCL hyes2
  clear hC
  have hgl := V.g.l
  rw [← hfd] at hgl
  rw [hns] at hn16 hgl
  have fdb : ((f : Nat) : Int) < ((db.length : Nat) : Int) := by omega
  have f0q : (0 : Int) ≤ ((f : Nat) : Int) := by omega
  have fe : ((f : Nat) : Int).toNat = f := Int.toNat_natCast _
  have ff : tF db f = tC (db.getD f t0) := rfl
  generalize db.getD f t0 = tt at *
  obtain ⟨tn, ta, tr⟩ := tt
  have tal : ta.length ≤ 16 := hn16
  have tan : ((ta.length : Nat) : Int).toNat = ta.length := Int.toNat_natCast _
  have ta0 : (0 : Int) ≤ ((ta.length : Nat) : Int) := by omega
  have ta8 : ((ta.length : Nat) : Int) * 8 ≤ 140737488355328 := by omega
  obtain ⟨gf, gl, gt, gr⟩ := g
  have dbn : ((db.length : Nat) : Int).toNat = db.length := Int.toNat_natCast _
  have db0 : (0 : Int) ≤ ((db.length : Nat) : Int) := by omega
  have db24 : ((db.length : Nat) : Int) * 24 ≤ 140737488355328 := by omega
  refine Call.enter' (N := 96) (rs := [.cell 6 30, .tmp 7]) Tryz.func18 rfl rfl rfl (by decide) rfl ?_; simp only [argT]; have hD : (0 : Nat) = 0 := rfl
  repeat' first | (with_reducible refine And.intro (by omega) ?_) | (refine SW.seq_k fun K hK => ?_) | (refine SW.block ?_) | ((first | refine SW.region ?_ | refine SW.regionZ (id := 6) (Checked.mixed Tryz.checked) ((.one 0 [0, 1, 6, 7, 8] (.one 1 [1, 6, 7, 8] (.one 2 [2, 3, 4, 5, 6, 7, 8] (.one 3 [3, 4, 5, 6, 7, 8] (.one 4 [4, 5, 6, 7, 8] (.alt 5 (.one 6 [6, 7, 8] (.alt 7 (.one 8 [8] .done) .nil)) .nil)))))) : OZ) (by kernel_rfl) ?_ | refine SW.cond ?_ | refine SW.skip ?_ | refine Call.of_pure (c) ?_ | refine Call.of_pure (cg) ?_ | (refine allF_i fun b hb => ?_; replace hD := And.intro hb hD; clear hb; try simp only [fresh_cons, fresh_nil, and_true, ne_eq, neF] at hD)); try simp only [go_sem, hD, dbn, db0, db24, fdb, f0q, fe, ff, tan, ta0, ta8, true_implies]) | ((first | apply hK | (clear hK K; apply hK) | (clear hK K; clear hK K; apply hK)); clear hK K)
  obtain ⟨nb, rfl⟩ : ∃ x, x = b := ⟨_, rfl⟩
  obtain ⟨wb, rfl⟩ : ∃ x, x = b := ⟨_, rfl⟩
  obtain ⟨rb, rfl⟩ : ∃ x, x = b := ⟨_, rfl⟩
  obtain ⟨ob, rfl⟩ : ∃ x, x = b := ⟨_, rfl⟩
  have k1 : ¬ nb = wb := by simp [hD]
  have k2 : ¬ wb = nb := by simp [hD]
  have k3 : ¬ nb = rb := by simp [hD]
  have k4 : ¬ rb = nb := by simp [hD]
  have k5 : ¬ nb = ob := by simp [hD]
  have k6 : ¬ ob = nb := by simp [hD]
  have k7 : ¬ wb = rb := by simp [hD]
  have k8 : ¬ rb = wb := by simp [hD]
  have k9 : ¬ wb = ob := by simp [hD]
  have ka : ¬ ob = wb := by simp [hD]
  have kb : ¬ rb = ob := by simp [hD]
  have kc : ¬ ob = rb := by simp [hD]
  have hpz := parV_zero ta.length gl (fun k => (k : Int) + 1)
  rw [← hpz, ← ws0_wc]
  refine Ab.SW.le (St.le_pick [(nb, .ints .i64 (parV ta.length gl (fun k => (k : Int) + 1) 0)), (wb, .svs [TL db, .os rb 0 db.length 1, I64 0]), (rb, .svs ((ws0 db.length).map wc)), (ob, .svs [SN])] ?_ ?_) ?_
  · repeat' (first | exact (fun x hx => (List.not_mem_nil hx).elim) | refine List.forall_mem_cons.2 ⟨?_, ?_⟩ | exact List.mem_cons_self | apply List.mem_cons_of_mem)
  · simp [fresh_cons, fresh_nil, hD]
  clear hD
  have hE := And.intro (And.intro (And.intro (eq_false k1) (eq_false k2)) (And.intro (And.intro (eq_false k3) (eq_false k4)) (And.intro (eq_false k5) (eq_false k6)))) (And.intro (And.intro (eq_false k7) (eq_false k8)) (And.intro (And.intro (eq_false k9) (eq_false ka)) (And.intro (eq_false kb) (eq_false kc))))
  have hg3 := hf.g3
  have hgn := V.g.nl
  have hgr : ∀ a ∈ gl, 0 ≤ a ∧ a < (ta.length : Int) := hgl
  simp only at hg3 hgn
  have hpi := parV_first (n := ta.length) (g := ⟨gf, gl, gt, gr⟩)
  have hps := fun m (h : m < gl.length) => parV_succ (n := ta.length) (v := fun k => (k : Int) + 1) hgn h (hgr _ (getD_mem' 0 h))
  have hpl := fun m => parV_len ta.length gl (fun k => (k : Int) + 1) m
  try simp only at hpi
  try simp only at hps
  have hv : ∀ m : Nat, (fun k : Nat => (k : Int) + 1) m = (m : Int) + 1 := fun m => rfl
  generalize (fun k : Nat => (k : Int) + 1) = v at *
  obtain ⟨I, hI⟩ : ∃ I : Nat → St → Prop, ∀ k S, I k S ↔ (∃ (m : Nat) , k = gl.length - m ∧ m ≤ gl.length ∧ S = ⟨[(1, DpL l), (6, .op ob 0), (7, I64 0), (10, .op wb 0), (11, I64 f), (12, .os nb 0 ta.length 1), (53, IL gl), (54, I64 gl.length), (55, I64 m)], [(nb, .ints .i64 (parV ta.length gl v m)), (wb, .svs [TL db, .os rb 0 db.length 1, I64 0]), (rb, .svs ((ws0 db.length).map wc)), (ob, .svs [SN])]⟩) := ⟨fun k S => _, fun _ _ => Iff.rfl⟩
  refine SW.loop' I (gl.length) ((hI _ _).2 ⟨0, rfl, Nat.zero_le _, rfl⟩) (by repeat' (first | exact rfl | exact trivial | exact int_eq (by omega) | exact int_eq (by (rw [i64_wrap] <;> omega)) | constructor)) ?_
  intro k S hIn
  obtain ⟨m, rfl, hi, rfl⟩ := (hI _ _).1 hIn
  clear hIn
  have ie : ((m : Nat) : Int).toNat = m := Int.toNat_natCast _
  have i0 : (0 : Int) ≤ ((m : Nat) : Int) := by omega
  by_cases hlm : m < gl.length
  · have hli : ((m : Nat) : Int) < (((gl.length) : Nat) : Int) := by omega
    have w1 : IntKind.i64.wrap ((m : Int) + 1) = ((m + 1 : Nat) : Int) := by rw [i64_wrap (by omega) (by omega)]; omega
    have fm : iF gl m = [I64 (gl.getD m 0)] := rfl
    have hga := hgr _ (getD_mem' 0 hlm)
    have hvm := hv m
    have hpm := hps m hlm
    have hplm := hpl m
    have w2 : IntKind.i64.wrap ((m : Int) + 1) = v m := by rw [hvm, i64_wrap (by omega) (by omega)]
    generalize gl.getD m 0 = a at *
    obtain ⟨a0, a1⟩ := hga
    have za : 0 + a.toNat * 1 = a.toNat := by omega
    have at1 : a.toNat < ta.length := by omega
    have w3 : ((m + 1 : Nat) : Int) = v m := by rw [hvm]; omega
    have hpm2 : (parV ta.length gl v m).set a.toNat ((m + 1 : Nat) : Int) = parV ta.length gl v (m + 1) := by first | (rw [w3]; exact hpm) | (rw [show ((m + 1 : Nat) : Int) = (m : Int) + 1 by omega]; exact hpm)
    clear hpm
    have hD := hE
    repeat' first | (with_reducible refine And.intro (by omega) ?_) | (refine SW.seq_k fun K hK => ?_) | (refine SW.block ?_) | ((first | refine SW.region ?_ | refine SW.cond ?_ | refine SW.skip ?_); try simp only [go_sem, hD, hli, ie, i0, w1, fm, a0, a1, za, hplm, at1, true_implies]) | ((first | apply hK | (clear hK K; apply hK) | (clear hK K; clear hK K; apply hK)); clear hK K)
    all_goals
      rw [hpm2]
      refine Rnd.sub (gl.length - (m + 1)) (by omega) ((hI _ _).2 ⟨m + 1, rfl, by omega, rfl⟩) (by repeat' (first | exact rfl | exact trivial | exact int_eq (by omega) | exact int_eq (by (rw [i64_wrap] <;> omega)) | constructor))
  · have hli : ¬ ((m : Nat) : Int) < (((gl.length) : Nat) : Int) := by omega
    obtain rfl : m = gl.length := by omega
    have hpl2 := hpl gl.length
    rw [hpi] at hpl2 ⊢
    obtain ⟨R, hR⟩ : ∃ R, R = firstR ta.length ⟨gf, gl, gt, gr⟩ := ⟨_, rfl⟩
    rw [← hR] at hpl2 ⊢
    have hD := hE.2
    refine Ab.SW.le (St.le_ints (i := 12) .i64 R rfl hpl2.symm (by rw [find_cons, if_pos rfl]) rfl) ?_
    rw [del_head]
    have hwl0 := ws0_len db.length
    have hwi0 := fun C => ws0_WI C db.length
    have hwg0 := ws0_get db.length
    have hwB0 := ws0_wB db.length
    generalize ws0 db.length = wl at *
    obtain ⟨A, e2, D, hwl, hA⟩ := split_at (ws := wl) (t := f) (by omega)
    have hge : e2 = w0 := by rw [← hwg0 f, hwl, ← hA, mid_get A D e2 e2, if_pos rfl]
    subst hge
    have hAD : (A ++ ((0 : Nat), ([] : List (List Int))) :: D).length = wl.length := by rw [hwl]; rfl
    have ca := add_w wb rb (TL db) 0 A D 0 [] R ⟨by omega, by omega⟩ (by simp) (by omega) (by simp) (by omega)
    have hwl' : wl = A ++ ((0 : Nat), ([] : List (List Int))) :: D := hwl
    rw [hA, ← hwl'] at ca
    have eWH : WH wb rb (TL db) 0 wl = [(wb, .svs [TL db, .os rb 0 db.length 1, I64 0]), (rb, .svs (wl.map wc))] := by
      unfold WH
      rw [hwB0, hwl0]
    rw [eWH] at ca
    repeat' first | ((refine Call.mono (Call.frameN (h2 := [(ob, .svs [SN])]) ca) ?_); (intro r' h' hx); (refine stop_i ?_)) | (refine SW.seq_k fun K hK => ?_) | ((first | refine SW.region ?_ | refine SW.cond ?_ | refine SW.exit ?_); try simp only [go_sem, hD, hli, true_implies]) | ((first | apply hK | (clear hK K; apply hK) | (clear hK K; clear hK K; apply hK)); clear hK K)
    refine Stop.mk ?_
    obtain ⟨h1, rfl, hq, _⟩ := hx
    rcases hq with ⟨hm, _⟩ | ⟨hm, rfl, b', hp⟩
    · simp at hm
    apply hK
    clear hK K
    refine Ab.SW.le (St.le_perm (h' := WH wb rb (TL db) (0 + 1) (A ++ (b', [] ++ [R]) :: D) ++ [(ob, .svs [SN])]) (hp.symm.append_right _)) ?_
    have hll := hf.ll
    have hWI1 := WI.add (C := C) (A := A) (D := D) (e := ((0 : Nat), ([] : List (List Int)))) (b := b') (row := R) (z := 0) (by rw [← hwl']; exact hwi0 C) (by simp) (by rw [hA, hR]; exact hC1)
    have hL1 : (A ++ (b', [] ++ [R]) :: D).length = db.length := by rw [← hwl0, hwl']; simp
    have hm1 : R ∈ ((A ++ (b', [] ++ [R]) :: D).getD f w0).2 := by rw [← hA, mid_get A D (b', [] ++ [R]) (b', [] ++ [R]), if_pos rfl]; simp
    simp only [← hR] at hyes2
    have hk1 : ¬ (wb = rb) := k7
    clear hp ca hwi0 hwg0 hwB0 hwl0 hpl2 hAD hps hpl hv hpi hpz hE hD hwl hwl' hA hC1 hR eWH
    simp only at hWI1
    generalize A ++ (b', [] ++ [R]) :: D = ws1 at *
    have hD := And.intro (And.intro (And.intro (eq_false k7) (eq_false k8)) (And.intro (eq_false k9) (eq_false ka))) (And.intro (eq_false kb) (eq_false kc))
    have hE := hD
    unfold WH
    simp only [List.cons_append]
    repeat' first | (refine SW.seq_k fun K hK => ?_) | (refine SW.block ?_) | (refine SW.region ?_; try simp only [go_sem, hD, true_implies]) | ((first | apply hK | (clear hK K; apply hK) | (clear hK K; clear hK K; apply hK)); clear hK K)
    obtain ⟨I, hI⟩ : ∃ I : Nat → St → Prop, ∀ k S, I k S ↔ (∃ (n : Nat) (zz : Int) (wl : List Wt) (gg : Bool), k = 403 - n ∧ n ≤ 403 ∧ WI C wl zz ∧ wl.length = db.length ∧ R ∈ (wl.getD f w0).2 ∧ zz ≤ 401 ∧ (gg = true → (n : Int) ≤ zz) ∧ (gg = false → zz ≤ 400 → ∀ d ∈ l, Clo (nmsOf db) (nsOf db) (fun t => (wl.getD t w0).2) d) ∧ S = ⟨[(1, DpL l), (6, .op ob 0), (7, I64 0), (10, .op wb 0), (15, SB gg)], (wb, .svs [TL db, .os rb 0 wl.length 1, I64 zz]) :: (rb, .svs (wl.map wc)) :: (wB wl ++ [(ob, .svs [SN])])⟩) := ⟨fun k S => _, fun _ _ => Iff.rfl⟩
    refine SW.loop' I (403) ((hI _ _).2 ⟨0, 0 + 1, ws1, true, rfl, Nat.zero_le _, hWI1, hL1, hm1, by omega, (fun _ => by omega), (fun h => by cases h), rfl⟩) (by repeat' (first | exact rfl | exact trivial | exact int_eq (by omega) | exact int_eq (by (rw [i64_wrap] <;> omega)) | constructor)) ?_
    intro k S hIn
    obtain ⟨n, zz, wl, gg, rfl, hi, hWI, hLn, hRm, hz1, hg1, hg0, rfl⟩ := (hI _ _).1 hIn
    clear hIn
    have ie : ((n : Nat) : Int).toNat = n := Int.toNat_natCast _
    have i0 : (0 : Int) ≤ ((n : Nat) : Int) := by omega
    by_cases hgo : gg = true ∧ zz ≤ 400
    · obtain ⟨rfl, hz4⟩ := hgo
      have hn4 := hg1 rfl
      repeat' first | (refine SW.seq_k fun K hK => ?_) | (refine SW.block ?_) | ((first | refine SW.region ?_ | refine SW.cond ?_ | refine SW.skip ?_); try simp only [go_sem, hD, hz4, true_implies]) | ((first | apply hK | (clear hK K; apply hK) | (clear hK K; clear hK K; apply hK)); clear hK K)
      have hIO := hI
      clear hI hg0 hg1
      obtain ⟨I, hI⟩ : ∃ I : Nat → St → Prop, ∀ k S, I k S ↔ (∃ (m : Nat) (z2 : Int) (w2 : List Wt) (g2 : Bool), k = l.length - m ∧ m ≤ l.length ∧ WI C w2 z2 ∧ w2.length = db.length ∧ R ∈ (w2.getD f w0).2 ∧ z2 ≤ 401 ∧ zz ≤ z2 ∧ (g2 = false → z2 = zz ∧ ∀ j, j < m → Clo (nmsOf db) (nsOf db) (fun t => (w2.getD t w0).2) (l.getD j d0)) ∧ (g2 = true → zz < z2) ∧ S = ⟨[(1, DpL l), (6, .op ob 0), (7, I64 0), (10, .op wb 0), (15, SB g2), (78, DpL l), (79, I64 l.length), (80, I64 m)], (wb, .svs [TL db, .os rb 0 w2.length 1, I64 z2]) :: (rb, .svs (w2.map wc)) :: (wB w2 ++ [(ob, .svs [SN])])⟩) := ⟨fun k S => _, fun _ _ => Iff.rfl⟩
      refine SW.loop' I (l.length) ((hI _ _).2 ⟨0, zz, wl, false, rfl, Nat.zero_le _, hWI, hLn, hRm, hz1, Int.le_refl _, (fun _ => ⟨rfl, fun j hj => absurd hj (Nat.not_lt_zero _)⟩), (fun h => by cases h), rfl⟩) (by repeat' (first | exact rfl | exact trivial | exact int_eq (by omega) | exact int_eq (by (rw [i64_wrap] <;> omega)) | constructor)) ?_
      intro k S hIn
      obtain ⟨m, z2, w2, g2, rfl, hi, hWI2, hL2, hR2, hz2, hzz, h20, h21, rfl⟩ := (hI _ _).1 hIn
      clear hIn
      have ie : ((m : Nat) : Int).toNat = m := Int.toNat_natCast _
      have i0 : (0 : Int) ≤ ((m : Nat) : Int) := by omega
      by_cases hlm : m < l.length
      · have hli : ((m : Nat) : Int) < (((l.length) : Nat) : Int) := by omega
        have w1 : IntKind.i64.wrap ((m : Int) + 1) = ((m + 1 : Nat) : Int) := by rw [i64_wrap (by omega) (by omega)]; omega
        have fd : dpF l m = dC (l.getD m d0) := rfl
        have hdm : l.getD m d0 ∈ l := getD_mem' d0 hlm
        have cg := hgc wb rb z2 w2 hWI2 hL2 hz2 (l.getD m d0) hdm
        generalize hd0 : l.getD m d0 = dd at *
        obtain ⟨df, dl, dt, dr⟩ := dd
        have hD := hE
        repeat' first | (refine SW.seq_k fun K hK => ?_) | (refine SW.block ?_) | ((first | refine SW.region ?_ | refine SW.cond ?_ | refine SW.skip ?_ | (refine allF_i fun b hb => ?_; replace hD := And.intro hb hD; clear hb; try simp only [fresh_cons, fresh_nil, and_true, ne_eq, neF] at hD)); try simp only [go_sem, hD, hli, ie, i0, fd, true_implies]) | ((first | apply hK | (clear hK K; apply hK) | (clear hK K; clear hK K; apply hK)); clear hK K)
        obtain ⟨nb, rfl⟩ : ∃ x, x = b := ⟨_, rfl⟩
        refine Call.permN (Call.mono (Call.frameN (h2 := [(nb, .svs [Str df, IL dl, Str dt, IL dr]), (ob, .svs [SN])]) cg) fun r h' hx => ?_) (List.perm_middle (l₁ := WH wb rb (TL db) z2 w2) (a := (nb, Blk.svs [Str df, IL dl, Str dt, IL dr])) (l₂ := [(ob, Blk.svs [SN])]))
        obtain ⟨h1, rfl, ⟨w3, z3, g3, rfl, hp, hW3, hL3, hB3, h30, h31, hz3⟩, _⟩ := hx
        apply hK
        clear hK K
        refine Ab.SW.le ((St.le_perm (h' := WH wb rb (TL db) z3 w3 ++ [(nb, .svs [Str df, IL dl, Str dt, IL dr]), (ob, .svs [SN])]) (hp.symm.append_right _)).trans (St.le_slist (h' := WH wb rb (TL db) z3 w3 ++ [(ob, .svs [SN])]) ((List.Sublist.refl _).append (List.Sublist.cons _ (List.Sublist.refl _))))) ?_
        clear hp
        unfold WH
        simp only [List.cons_append]
        cases g3 with
        | false =>
          obtain ⟨rfl, rfl, hcl⟩ := h30 rfl
          have hnew : g2 = false → z3 = zz ∧ ∀ j, j < m + 1 → Clo (nmsOf db) (nsOf db) (fun t => (w3.getD t w0).2) (l.getD j d0) := fun h => by
            obtain ⟨e1, e2⟩ := h20 h
            refine ⟨e1, fun j hj => ?_⟩
            rcases Nat.lt_or_eq_of_le (Nat.lt_succ_iff.1 hj) with h5 | h5
            · exact e2 j h5
            · rw [h5, hd0]; exact hcl (by omega)
          repeat' first | ((first | refine SW.region ?_ | refine SW.cond ?_ | refine SW.skip ?_); try simp only [go_sem, hD, w1, true_implies]) | ((first | apply hK | (clear hK K; apply hK) | (clear hK K; clear hK K; apply hK)); clear hK K)
          refine Rnd.sub (l.length - (m + 1)) (by omega) ((hI _ _).2 ⟨m + 1, z3, w3, g2, rfl, by omega, hWI2, hL2, hR2, hz2, hzz, hnew, h21, rfl⟩) (by repeat' (first | exact rfl | exact trivial | exact int_eq (by omega) | exact int_eq (by (rw [i64_wrap] <;> omega)) | constructor))
        | true =>
          have hz5 := h31 rfl
          repeat' first | ((first | refine SW.region ?_ | refine SW.cond ?_); try simp only [go_sem, hD, w1, true_implies]) | ((first | apply hK | (clear hK K; apply hK) | (clear hK K; clear hK K; apply hK)); clear hK K)
          refine Rnd.sub (l.length - (m + 1)) (by omega) ((hI _ _).2 ⟨m + 1, z3, w3, true, rfl, by omega, hW3, hL3, (hB3 f).subset hR2, hz3, by omega, (fun h => by cases h), (fun _ => by omega), rfl⟩) (by repeat' (first | exact rfl | exact trivial | exact int_eq (by omega) | exact int_eq (by (rw [i64_wrap] <;> omega)) | constructor))
      · have hli : ¬ ((m : Nat) : Int) < (((l.length) : Nat) : Int) := by omega
        obtain rfl : m = l.length := by omega
        have hnew : g2 = false → z2 ≤ 400 → ∀ d ∈ l, Clo (nmsOf db) (nsOf db) (fun t => (w2.getD t w0).2) d := fun h h4 d hd => by
          obtain ⟨j, hj, rfl⟩ := List.getElem_of_mem hd
          have := (h20 h).2 j hj
          rwa [show l.getD j d0 = l[j] by simp [List.getD_eq_getElem?_getD, hj]] at this
        repeat' first | (refine SW.seq_k fun K hK => ?_) | ((first | refine SW.region ?_ | refine SW.cond ?_ | refine SW.exit ?_); try simp only [go_sem, hD, hli, true_implies]) | ((first | apply hK | (clear hK K; apply hK) | (clear hK K; clear hK K; apply hK)); clear hK K)
        refine Rnd.sub (403 - (n + 1)) (by omega) ((hIO _ _).2 ⟨n + 1, z2, w2, g2, rfl, by omega, hWI2, hL2, hR2, hz2, (fun h => by have := h21 h; omega), hnew, rfl⟩) (by repeat' (first | exact rfl | exact trivial | exact int_eq (by omega) | exact int_eq (by (rw [i64_wrap] <;> omega)) | constructor))
    · by_cases hz4 : zz ≤ 400
      · have hgg : gg = false := by
          cases gg with
          | false => rfl
          | true => exact absurd ⟨rfl, hz4⟩ hgo
        subst hgg
        have hU2 := hyes2 wl zz hWI hLn hRm (hg0 rfl hz4) hz4
        have cdb := hdc wb rb zz wl hLn (by omega) hat (fun s hs => ⟨by have := len_tot hs; have := hWI.z; omega, hWI.nd s hs, fun r hr => by have := hCL s r (hWI.c s hs r hr); omega⟩)
        have hz5 : ¬ 400 < zz := by omega
        subst hU2
        generalize refW db wl = W at *
        repeat' first | ((refine Call.mono (Call.frameN (h1 := WH wb rb (TL db) zz wl) (h2 := [(ob, .svs [SN])]) cdb) ?_); (intro r' h' hx); (obtain ⟨h1, rfl, ⟨rfl, rfl⟩, _⟩ := hx); (simp only [go_sem, hD])) | (refine SW.seq_k fun K hK => ?_) | ((first | refine SW.region ?_ | refine SW.cond ?_ | refine SW.skip ?_ | refine SW.exit ?_ | refine SW.ret ?_); try simp only [go_sem, hD, hz5, true_implies]) | ((first | apply hK | (clear hK K; apply hK) | (clear hK K; clear hK K; apply hK)); clear hK K)
        apply ret_cell (i := 6) (n := 1); exact rfl; (simp only [go_sem, hD]; try rfl); (first | exact Nat.le_refl _ | decide); simp only [resL_tmp, resL_cellE, resC_ok, resL_nil, tupOf, getN, go_sem, hD]
      · have hz5 : 400 < zz := by omega
        have hU2 := hno hWI hLn hz5
        subst hU2
        refine Ab.SW.le (St.le_slist (h' := [(wb, .svs [TL db, .os rb 0 wl.length 1, I64 zz]), (rb, .svs (wl.map wc)), (ob, .svs [SN])]) (List.Sublist.cons_cons _ (List.Sublist.cons_cons _ (List.sublist_append_right _ _)))) ?_
        cases gg with
        | false =>
          repeat' first | (refine SW.seq_k fun K hK => ?_) | ((first | refine SW.region ?_ | refine SW.cond ?_ | refine SW.exit ?_ | refine SW.ret ?_); try simp only [go_sem, hD, hz4, hz5, true_implies]) | ((first | apply hK | (clear hK K; apply hK) | (clear hK K; clear hK K; apply hK)); clear hK K)
          apply ret_cell (i := 6) (n := 1); exact rfl; (simp only [go_sem, hD]; try rfl); (first | exact Nat.le_refl _ | decide); simp only [resL_tmp, resL_cellE, resC_ok, resL_nil, tupOf, getN, go_sem, hD]
        | true =>
          repeat' first | (refine SW.seq_k fun K hK => ?_) | ((first | refine SW.region ?_ | refine SW.cond ?_ | refine SW.exit ?_ | refine SW.ret ?_); try simp only [go_sem, hD, hz4, hz5, true_implies]) | ((first | apply hK | (clear hK K; apply hK) | (clear hK K; clear hK K; apply hK)); clear hK K)
          apply ret_cell (i := 6) (n := 1); exact rfl; (simp only [go_sem, hD]; try rfl); (first | exact Nat.le_refl _ | decide); simp only [resL_tmp, resL_cellE, resC_ok, resL_nil, tupOf, getN, go_sem, hD]
end Go.Proofs.YtblfodnajpamfaaGreatDoor
namespace Go.Proofs.YtblfodnajpamfaaGreatDoor
open Go Go.Ab Go.Ab.A34 Go.Ab.A15
variable [Gl] [Tabs]
theorem awake_c : PCall Tryz.prog 11 [] (SB true) := by
  have e := ex_c
  have gv := giv_c
  have pr := prove_p exT givD goalD ex_few1 ex_all1 ex_find1
  have rf := refute_no exT givD backD ex_few2 ex_all2 ex_find2
  have ck := check_i exT givD goalD (proofS givD goalD) (by decide) (by decide) (fun d hd => ex_okd d (.inr (.inr hd))) (ex_okd _ (.inl rfl)) ex_all1 ex_okp
  rw [ex_out] at rf
  rw [ex_chk] at ck
  have hl := ex_len
  obtain ⟨w1, w2, w3⟩ := ex_two
  generalize proofS givD goalD = P at *
  generalize refW exT exW = W at *
  unfold goalD backD at *
  refine Call.enter' (N := 69) (rs := [.tmp 0]) Tryz.func11 rfl rfl rfl (by decide) rfl ?_; simp only [argT]; have hD : (0 : Nat) = 0 := rfl
  repeat' first | (refine SW.seq_k fun K hK => ?_) | ((first | refine SW.region ?_ | (refine allF_i fun b hb => ?_; replace hD := And.intro hb hD; clear hb; try simp only [fresh_cons, fresh_nil, and_true, ne_eq, neF] at hD)); try simp only [go_sem, hD]) | ((first | apply hK | (clear hK K; apply hK) | (clear hK K; clear hK K; apply hK)); clear hK K)
  obtain ⟨X2, rfl⟩ : ∃ x, x = b := ⟨_, rfl⟩
  obtain ⟨R2, rfl⟩ : ∃ x, x = b := ⟨_, rfl⟩
  obtain ⟨L2, rfl⟩ : ∃ x, x = b := ⟨_, rfl⟩
  obtain ⟨X1, rfl⟩ : ∃ x, x = b := ⟨_, rfl⟩
  obtain ⟨R1, rfl⟩ : ∃ x, x = b := ⟨_, rfl⟩
  obtain ⟨L1, rfl⟩ : ∃ x, x = b := ⟨_, rfl⟩
  refine Ab.SW.le (S' := ⟨[(0, SB false), (1, .fp [Str ⟨#[114]⟩, IL [1], Str ⟨#[114]⟩, IL [0]]), (2, .fp [Str ⟨#[114]⟩, IL [0], Str ⟨#[114]⟩, IL [1]])], []⟩) ?_ ?_
  · skip
    refine St.le.trans (St.le_freezeC (c := X2) (j := 3) (b := R2) (off := 0) (len := 1) (sz := 1) (by first | (rw [find_cons, if_pos rfl]) | (simp [find_cons, hD]; done) | (simp [find_cons, hD]; rfl)) (by simp [hD]) (by first | decide | simp [Blk.len_svs]) rfl (by first | (rw [find_cons, if_pos rfl]) | (simp [find_cons, hD]; done) | (simp [find_cons, hD]; rfl)) (by first | decide | simp [Blk.len_svs]) (iF [1]) (fun p hp => by
      obtain rfl : p = 0 := by omega
      rfl)) ?_
    simp only [go_sem, hD]
    refine St.le.trans (St.le_freezeC (c := X2) (j := 1) (b := L2) (off := 0) (len := 1) (sz := 1) (by first | (rw [find_cons, if_pos rfl]) | (simp [find_cons, hD]; done) | (simp [find_cons, hD]; rfl)) (by simp [hD]) (by first | decide | simp [Blk.len_svs]) rfl (by first | (rw [find_cons, if_pos rfl]) | (simp [find_cons, hD]; done) | (simp [find_cons, hD]; rfl)) (by first | decide | simp [Blk.len_svs]) (iF [0]) (fun p hp => by
      obtain rfl : p = 0 := by omega
      rfl)) ?_
    simp only [go_sem, hD]
    refine St.le.trans (St.le_freezeC (c := X1) (j := 3) (b := R1) (off := 0) (len := 1) (sz := 1) (by first | (rw [find_cons, if_pos rfl]) | (simp [find_cons, hD]; done) | (simp [find_cons, hD]; rfl)) (by simp [hD]) (by first | decide | simp [Blk.len_svs]) rfl (by first | (rw [find_cons, if_pos rfl]) | (simp [find_cons, hD]; done) | (simp [find_cons, hD]; rfl)) (by first | decide | simp [Blk.len_svs]) (iF [0]) (fun p hp => by
      obtain rfl : p = 0 := by omega
      rfl)) ?_
    simp only [go_sem, hD]
    refine St.le.trans (St.le_freezeC (c := X1) (j := 1) (b := L1) (off := 0) (len := 1) (sz := 1) (by first | (rw [find_cons, if_pos rfl]) | (simp [find_cons, hD]; done) | (simp [find_cons, hD]; rfl)) (by simp [hD]) (by first | decide | simp [Blk.len_svs]) rfl (by first | (rw [find_cons, if_pos rfl]) | (simp [find_cons, hD]; done) | (simp [find_cons, hD]; rfl)) (by first | decide | simp [Blk.len_svs]) (iF [1]) (fun p hp => by
      obtain rfl : p = 0 := by omega
      rfl)) ?_
    simp only [go_sem, hD]
    refine St.le.trans (St.le_freezeP (i := 1) (b := X1) (off := 0) (n := 4) rfl (by first | (rw [find_cons, if_pos rfl]) | (simp [find_cons, hD]; done) | (simp [find_cons, hD]; rfl)) (by first | decide | simp [Blk.len_svs])) ?_
    simp only [getN, Blk.get, go_sem, hD]
    refine St.le.trans (St.le_freezeP (i := 2) (b := X2) (off := 0) (n := 4) rfl (by first | (rw [find_cons, if_pos rfl]) | (simp [find_cons, hD]; done) | (simp [find_cons, hD]; rfl)) (by first | decide | simp [Blk.len_svs])) ?_
    simp only [getN, Blk.get, go_sem, hD]
    exact St.le_sub (by repeat' (first | exact rfl | exact trivial | exact int_eq (by omega) | exact int_eq (by (rw [i64_wrap] <;> omega)) | constructor))
  clear hD
  have hD : (0 : Nat) = 0 := rfl
  have f0 : tF W 0 = tC (W.getD 0 t0) := rfl
  have f1 : tF W 1 = tC (W.getD 1 t0) := rfl
  generalize W.getD 0 t0 = T0 at *
  generalize W.getD 1 t0 = T1 at *
  obtain ⟨n0, a0, r0'⟩ := T0
  obtain ⟨n1, a1, r1'⟩ := T1
  simp only at w2 w3
  have hlI : ((P.length : Nat) : Int) = 2 := by omega
  have w1I : ((W.length : Nat) : Int) = 2 := by omega
  have w2I : ((r0'.length : Nat) : Int) = 2 := by omega
  have w3I : ((r1'.length : Nat) : Int) = 2 := by omega
  repeat' first | (with_reducible refine And.intro (by omega) ?_) | (refine SW.seq_k fun K hK => ?_) | ((first | refine SW.regionZ (id := 3) (Checked.mixed Tryz.checked) ((.one 0 [0, 1, 3, 4, 5, 6, 7, 8] (.one 1 [1, 3, 4, 5, 6, 7, 8] (.one 2 [2, 3, 4, 5, 6, 7, 8] (.one 3 [3, 4, 5, 6, 7, 8] (.one 4 [4, 5, 6, 7, 8] (.one 5 [5, 7, 8] (.one 6 [6, 8] (.one 7 [7, 8] (.one 8 [8] .done))))))))) : OZ) (by kernel_rfl) ?_ | refine SW.regionZ (id := 4) (Checked.mixed Tryz.checked) ((.one 0 [0, 1, 3, 4, 5, 6, 8, 9] (.one 1 [1, 3, 4, 5, 6, 8, 9] (.one 2 [2, 3, 4, 5, 6, 8, 9] (.one 3 [3, 4, 5, 6, 8, 9] (.one 4 [4, 5, 6, 8, 9] (.one 5 [5, 8, 9] (.alt 6 (.alt 7 (.alt 8 (.one 9 [9] .done) .nil) .nil) (.alt 7 (.alt 6 (.alt 8 (.one 9 [9] .done) .nil) (.alt 8 (.one 6 [6, 9] (.one 9 [9] .done)) .nil)) .nil)))))))) : OZ) (by kernel_rfl) ?_ | refine SW.regionZ (id := 5) (Checked.mixed Tryz.checked) ((.one 0 [0, 1, 2, 3, 4, 5, 6, 7, 8, 9, 10, 11, 12, 13, 14, 15, 16, 17, 18, 19, 20, 21, 22, 23, 24, 25, 26, 27, 28, 29, 30, 31, 32, 33, 34, 35, 36, 37, 38, 39, 40, 41, 42] (.one 1 [1, 2, 3, 4, 5, 6, 7, 8, 9, 10, 11, 12, 13, 14, 15, 16, 17, 18, 19, 20, 21, 22, 23, 24, 25, 26, 27, 28, 29, 30, 31, 32, 33, 34, 35, 36, 37, 38, 39, 40, 41, 42] (.one 2 [2, 3, 4, 5, 6, 7, 8, 9, 10, 11, 12, 13, 14, 15, 16, 17, 18, 19, 20, 21, 22, 23, 24, 25, 26, 27, 28, 29, 30, 31, 32, 33, 34, 35, 36, 37, 38, 39, 40, 41, 42] (.one 3 [3, 4, 5, 6, 7, 8, 9, 10, 11, 12, 13, 14, 15, 16, 17, 18, 19, 20, 21, 22, 23, 24, 25, 26, 27, 28, 29, 30, 31, 32, 33, 34, 35, 36, 37, 38, 39, 40, 41, 42] (.one 4 [4, 5, 6, 7, 8, 9, 10, 11, 12, 13, 14, 15, 16, 17, 18, 19, 20, 21, 22, 23, 24, 25, 26, 27, 28, 29, 30, 31, 32, 33, 34, 35, 36, 37, 38, 39, 40, 41, 42] (.one 5 [5, 6, 7, 8, 9, 10, 11, 12, 13, 14, 15, 16, 17, 18, 19, 20, 21, 22, 23, 24, 25, 26, 27, 28, 29, 30, 31, 32, 33, 34, 35, 36, 37, 38, 39, 40, 41, 42] (.one 6 [6, 7, 8, 9, 10, 11, 12, 13, 14, 15, 16, 17, 18, 19, 20, 21, 22, 23, 24, 25, 26, 27, 28, 29, 30, 31, 32, 33, 34, 35, 36, 37, 38, 39, 40, 41, 42] (.one 7 [7, 8, 11, 12, 13, 14, 15, 16, 17, 18, 19, 20, 21, 22, 23, 24, 25, 26, 27, 28, 29, 30, 31, 32, 33, 34, 35, 36, 37, 38, 39, 40, 41, 42] (.one 8 [8, 11, 12, 13, 14, 15, 16, 17, 18, 19, 20, 21, 22, 23, 24, 25, 26, 27, 28, 29, 30, 31, 32, 33, 34, 35, 36, 37, 38, 39, 40, 41, 42] (.one 9 [9, 11, 12, 13, 14, 15, 16, 17, 18, 19, 20, 21, 22, 23, 24, 25, 26, 27, 28, 29, 30, 31, 32, 33, 34, 35, 36, 37, 38, 39, 40, 41, 42] (.one 10 [10, 11, 12, 13, 14, 15, 16, 17, 18, 19, 20, 21, 22, 23, 24, 25, 26, 27, 28, 29, 30, 31, 32, 33, 34, 35, 36, 37, 38, 39, 40, 41, 42] (.one 11 [11, 12, 13, 14, 15, 16, 17, 18, 19, 20, 21, 22, 23, 24, 25, 26, 27, 28, 29, 30, 31, 32, 33, 34, 35, 36, 37, 38, 39, 40, 41, 42] (.one 12 [12, 13, 14, 15, 16, 17, 18, 19, 20, 21, 22, 23, 24, 25, 26, 27, 28, 29, 30, 31, 32, 33, 34, 35, 36, 37, 38, 39, 40, 41, 42] (.one 13 [13, 14, 15, 16, 17, 18, 19, 20, 21, 22, 23, 24, 25, 26, 27, 28, 29, 30, 31, 32, 33, 34, 35, 36, 37, 38, 39, 40, 41, 42] (.one 14 [14, 15, 16, 17, 18, 19, 20, 21, 22, 23, 24, 25, 26, 27, 28, 29, 30, 31, 32, 33, 34, 35, 36, 37, 38, 39, 40, 41, 42] (.one 15 [15, 16, 17, 18, 19, 20, 21, 22, 23, 24, 25, 26, 27, 28, 29, 30, 31, 32, 33, 34, 35, 36, 37, 38, 39, 40, 41, 42] (.one 16 [16, 17, 18, 19, 20, 21, 22, 23, 24, 25, 26, 27, 28, 29, 30, 31, 32, 33, 34, 35, 36, 37, 38, 39, 40, 41, 42] (.one 17 [17, 18, 19, 20, 21, 22, 23, 24, 25, 26, 27, 28, 29, 30, 31, 32, 33, 34, 35, 36, 37, 38, 39, 40, 41, 42] (.one 18 [18, 19, 20, 21, 22, 23, 24, 25, 26, 27, 28, 29, 30, 31, 32, 33, 34, 35, 36, 37, 38, 39, 40, 41, 42] (.one 19 [19, 20, 21, 22, 23, 24, 25, 26, 27, 28, 29, 30, 31, 32, 33, 34, 35, 36, 37, 38, 39, 40, 41, 42] (.one 20 [20, 21, 22, 23, 24, 25, 26, 27, 28, 29, 30, 31, 32, 33, 34, 35, 36, 37, 38, 39, 40, 41, 42] (.one 21 [21, 22, 23, 24, 25, 26, 27, 28, 29, 30, 31, 32, 33, 34, 35, 36, 37, 38, 39, 40, 41, 42] (.one 22 [22, 23, 24, 25, 26, 27, 28, 29, 30, 31, 32, 33, 34, 35, 36, 37, 38, 39, 40, 41, 42] (.one 23 [23, 24, 25, 26, 27, 28, 29, 30, 31, 32, 33, 34, 35, 36, 37, 38, 39, 40, 41, 42] (.one 24 [24, 25, 26, 27, 28, 29, 30, 31, 32, 33, 34, 35, 36, 37, 38, 39, 40, 41, 42] (.one 25 [25, 26, 27, 28, 29, 30, 31, 32, 33, 34, 35, 36, 37, 38, 39, 40, 41, 42] (.one 26 [26, 27, 28, 29, 30, 31, 32, 33, 34, 35, 36, 37, 38, 39, 40, 41, 42] (.one 27 [27, 28, 29, 30, 31, 32, 33, 34, 35, 36, 37, 38, 39, 40, 41, 42] (.one 28 [28, 29, 30, 31, 32, 33, 34, 35, 36, 37, 38, 39, 40, 41, 42] (.one 29 [29, 30, 31, 32, 33, 34, 35, 36, 37, 38, 39, 40, 41, 42] (.one 30 [30, 31, 32, 33, 34, 35, 36, 37, 38, 39, 40, 41, 42] (.one 31 [31, 32, 33, 34, 35, 36, 37, 38, 39, 40, 41, 42] (.one 32 [32, 33, 34, 35, 36, 37, 38, 39, 40, 41, 42] (.one 33 [33, 34, 35, 36, 37, 38, 39, 40, 41, 42] (.one 34 [34, 35, 36, 37, 38, 39, 40, 41, 42] (.one 35 [35, 36, 37, 38, 39, 40, 41, 42] (.one 36 [36, 37, 38, 39, 40, 41, 42] (.one 37 [37, 38, 39, 40, 41, 42] (.one 38 [38, 39, 40, 41, 42] (.one 39 [39, 40, 41, 42] (.one 40 [40, 41, 42] (.one 41 [41, 42] (.one 42 [42] .done))))))))))))))))))))))))))))))))))))))))))) : OZ) (by kernel_rfl) ?_ | refine SW.ret ?_ | refine ⟨_, e, ?_⟩ | refine ⟨_, gv, ?_⟩ | refine ⟨_, pr, ?_⟩ | refine ⟨_, rf, ?_⟩ | refine ⟨_, ck, ?_⟩ | (refine allF_i fun b hb => ?_; replace hD := And.intro hb hD; clear hb; try simp only [fresh_cons, fresh_nil, and_true, ne_eq, neF] at hD)); try simp only [go_sem, hD, hlI, w1I, w2I, w3I, f0, f1, true_implies]) | ((first | apply hK | (clear hK K; apply hK) | (clear hK K; clear hK K; apply hK)); clear hK K) | (refine And.intro ?_ ?_)
  all_goals refine ret_pure ?_; simp only [resL_tmp, resL_nil, tupOf, go_sem, hD]
end Go.Proofs.YtblfodnajpamfaaGreatDoor
namespace Go.Ab.A15
open Go Go.Ab Go.Ab.A34
theorem emp_nil9 : emp (⟨#[]⟩ : ByteArray) = true := barr_eq.2 rfl
theorem code_okV9 (c : Int) : okV (codeV c) = true := by
  have e := emp_nil9
  unfold codeV
  repeat' split
  all_goals (unfold okV vok; simp [e])
  all_goals decide
theorem nm_ok9 : ∀ n, n < 6 → namesB (nm8.take n) = true := by decide +kernel
theorem nmT_ok (i : Nat) : nameB (nmT i).data.toList = true := by
  unfold nmT
  split
  · decide +kernel
  · split <;> decide +kernel
theorem nmT_inj {i j : Nat} (hi : i < 3) (hj : j < 3) (h : nmT i = nmT j) : i = j := by
  have k1 : ¬ (⟨#[114]⟩ : ByteArray) = ⟨#[115]⟩ := by decide
  have k2 : ¬ (⟨#[114]⟩ : ByteArray) = ⟨#[116]⟩ := by decide
  have k3 : ¬ (⟨#[115]⟩ : ByteArray) = ⟨#[116]⟩ := by decide
  have hi3 : i = 0 ∨ i = 1 ∨ i = 2 := by omega
  have hj3 : j = 0 ∨ j = 1 ∨ j = 2 := by omega
  rcases hi3 with rfl | rfl | rfl <;> rcases hj3 with rfl | rfl | rfl <;> first | rfl | (simp only [nmT, if_pos, if_neg, if_true, if_false, reduceCtorEq, Nat.reduceEqDiff, ↓reduceIte] at h; first | exact absurd h k1 | exact absurd h k2 | exact absurd h k3 | exact absurd h.symm k1 | exact absurd h.symm k2 | exact absurd h.symm k3)
theorem tabD_attrs (x : Rc) (i : Nat) : (tabD x i).attrs.length ≤ 3 := by
  show (nm8.take (x.attrs % 4 % 6).toNat).length ≤ 3
  rw [List.length_take]
  have : (x.attrs % 4 % 6).toNat ≤ 3 := by omega
  omega
theorem tabD_rows (x : Rc) (i : Nat) : (tabD x i).rows.length = x.rows.length := by
  show ((List.range x.rows.length).map _).length = _
  simp
theorem tabD_rlen (x : Rc) (i : Nat) : ∀ r ∈ (tabD x i).rows, r.2.length ≤ 6 := fun r hr => by
  obtain ⟨k, _, rfl⟩ := List.mem_map.1 hr
  show (((List.range (x.attrs % 4 % 6).toNat).map _).length) ≤ 6
  rw [List.length_map, List.length_range]
  omega
theorem tabD_valid (x : Rc) (i : Nat) (h : x.rows.length ≤ 1000) : validS (tabD x i) = 0 := by
  obtain ⟨n, hn0⟩ : ∃ n, n = (x.attrs % 4 % 6).toNat := ⟨_, rfl⟩
  have hn : n < 6 := by omega
  have hal : (nm8.take n).length = n := by
    rw [List.length_take]
    have : nm8.length = 8 := rfl
    omega
  obtain ⟨g, hg⟩ : ∃ g, g = 1 + x.gap % 3 := ⟨_, rfl⟩
  have hg1 : 1 ≤ g := by omega
  have hr : ∀ (k j : Nat) (p : Int), p < 1 + (j : Int) * g → rowsV n p ((List.range' j k).map fun i => rowS x.gap n i (x.rows.getD i [])) = 0 := fun k => by
    induction k with
    | zero => intro j p _; rfl
    | succ k ih =>
      intro j p hp
      have e1 : (rowS x.gap n j (x.rows.getD j [])).1 = 1 + (j : Int) * g := by rw [hg]; rfl
      rw [List.range'_succ, List.map_cons, rowsV, e1, if_neg (by omega), if_neg (by simp [rowS]), if_pos (by
        rw [List.all_eq_true]
        intro v hv
        unfold rowS at hv
        obtain ⟨c, _, rfl⟩ := List.mem_map.1 hv
        exact code_okV9 _)]
      refine ih (j + 1) _ ?_
      have : ((j + 1 : Nat) : Int) * g = (j : Int) * g + g := by rw [Int.natCast_add, Int.add_mul]; simp
      rw [this]
      omega
  have hlen := tabD_rows x i
  have hat : (tabD x i).attrs = nm8.take n := by rw [hn0]; rfl
  have hro : (tabD x i).rows = (List.range x.rows.length).map fun i => rowS x.gap n i (x.rows.getD i []) := by rw [hn0]; rfl
  unfold validS
  rw [if_pos (show nameB (tabD x i).name.data.toList = true from nmT_ok i), if_neg (show ¬ (16 < (tabD x i).attrs.length ∨ 1000 < (tabD x i).rows.length) by rw [hlen, hat, hal]; omega), hat, if_pos (nm_ok9 n hn), hro, List.range_eq_range', hal]
  exact hr _ 0 0 (by omega)
theorem chkF_zero {db : List Tb} (hv : ∀ j, j < db.length → validS (db.getD j t0) = 0) (hn : ∀ j, j < db.length → tabI (db.getD j t0).name 0 (db.take j) < 0) : ∀ (g i : Nat), i + g = db.length → chkF db g i = 0
  | 0, i, _ => rfl
  | g + 1, i, h => by
    have h1 := hn i (by omega)
    unfold chkF
    rw [if_neg (fun x => x (hv i (by omega))), if_neg (by omega)]
    exact chkF_zero hv hn g (i + 1) (by omega)
theorem chkS_of {db : List Tb} (h : Vdb db) (hl : db.length ≤ 50) : chkS db = 0 := by
  unfold chkS
  rw [if_neg (by omega)]
  refine chkF_zero (fun j hj => h.v _ (getD_mem' t0 hj)) (fun j hj => ?_) _ 0 (by omega)
  rcases tabI_is (x := (db.getD j t0).name) (l := db.take j) (i := 0) with ⟨h1, _⟩ | ⟨k, _, h2, h3, _⟩
  · omega
  · exfalso
    rw [List.length_take] at h2
    have e : (db.take j).getD k t0 = db.getD k t0 := by simp [List.getD_eq_getElem?_getD, List.getElem?_take, show k < j by omega]
    rw [e] at h3
    have hp := List.pairwise_iff_getElem.1 h.n k j (by unfold nmsOf; rw [List.length_map]; omega) (by unfold nmsOf; rw [List.length_map]; omega) (by omega)
    unfold nmsOf at hp
    rw [List.getElem_map, List.getElem_map] at hp
    refine hp ?_
    rw [show db.getD k t0 = db[k] by simp [List.getD_eq_getElem?_getD, show k < db.length by omega], show db.getD j t0 = db[j] by simp [List.getD_eq_getElem?_getD, hj]] at h3
    exact h3
theorem fitsS_of {db : List Tb} {d : Dp} (h : Fit (nmsOf db) (nsOf db) d) : fitsS db d = 0 := by
  have ef := tabI_idx (i := 0) h.f
  have et := tabI_idx (i := 0) h.t
  have gn : ∀ i, (nsOf db).getD i 0 = (db.getD i t0).attrs.length := fun i => by
    unfold nsOf
    simp only [List.getD_eq_getElem?_getD, List.getElem?_map]
    cases db[i]? <;> rfl
  unfold fitsS
  rw [ef, et]
  simp only [Nat.zero_add, Int.toNat_natCast]
  rw [if_neg (by omega), if_neg, if_pos ⟨h.nl, h.nr⟩]
  rintro (h1 | h1 | h1)
  · exact h1 h.lr
  · have := winB_iff.2 (fun a ha => by have := h.l a ha; rw [gn] at this; exact this : ∀ a ∈ d.l, 0 ≤ a ∧ a < ((db.getD (idxN d.f (nmsOf db)) t0).attrs.length : Int))
    rw [this] at h1
    cases h1
  · have := winB_iff.2 (fun a ha => by have := h.r a ha; rw [gn] at this; exact this : ∀ a ∈ d.r, 0 ≤ a ∧ a < ((db.getD (idxN d.t (nmsOf db)) t0).attrs.length : Int))
    rw [this] at h1
    cases h1
theorem firstE_of {db : List Tb} {g : Dp} (hg : fitsS db g = 0) : ∀ {l : List Dp}, (∀ d ∈ l, fitsS db d = 0) → firstE db g l = 0
  | [], _ => hg
  | d :: l, h => by
    unfold firstE
    rw [if_neg (fun x => x (h d List.mem_cons_self))]
    exact firstE_of hg fun x hx => h x (List.mem_cons_of_mem _ hx)
theorem allS_of {db : List Tb} {l : List Dp} {g : Dp} (h : Vall db l g) (hl : db.length ≤ 50) : allS db l g = 0 := by
  unfold allS
  rw [if_neg (fun x => x (chkS_of h.vd hl))]
  exact firstE_of (fitsS_of h.g) fun d hd => fitsS_of (h.l d hd)
theorem pickF_ok {n : Int} (hn : 0 < n) : ∀ {l pre : List Int}, (pre.Nodup ∧ ∀ x ∈ pre, 0 ≤ x ∧ x < n) → ((pickF n pre l).Nodup ∧ ∀ x ∈ pickF n pre l, 0 ≤ x ∧ x < n)
  | [], pre, h => h
  | x :: l, pre, h => by
    unfold pickF
    split
    · rename_i hx
      have h1 : x % n ∉ pre := atI_none.1 hx
      refine pickF_ok hn ⟨?_, fun y hy => ?_⟩
      · rw [List.nodup_append]
        exact ⟨h.1, by simp, fun a ha b hb e => h1 (by rw [List.mem_singleton] at hb; rw [← hb, ← e]; exact ha)⟩
      · rcases List.mem_append.1 hy with h2 | h2
        · exact h.2 y h2
        · rw [List.mem_singleton] at h2
          rw [h2]
          exact ⟨Int.emod_nonneg _ (by omega), Int.emod_lt_of_pos _ hn⟩
    · exact pickF_ok hn h
theorem pickS_ok (l : List Int) (n : Nat) : (pickS l n).Nodup ∧ ∀ x ∈ pickS l n, 0 ≤ x ∧ x < (n : Int) := by
  unfold pickS
  split
  · exact ⟨List.nodup_nil, fun x hx => by cases hx⟩
  · exact pickF_ok (by omega) ⟨List.nodup_nil, fun x hx => by cases hx⟩
structure Dra (db : List Tb) : Prop where
  vd : Vdb db
  n3 : db.length ≤ 3
  a3 : ∀ t ∈ db, t.attrs.length ≤ 3
  rl : ∀ t ∈ db, ∀ r ∈ t.rows, r.2.length ≤ 6
  r6 : ∀ t ∈ db, t.rows.length ≤ 6
  nm : ∀ j, j < db.length → (db.getD j t0).name = nmT j
theorem ofT_dra {d : List Rc} (h : goodD d) : Dra (ofT d) := by
  have hl : (ofT d).length = min d.length 3 := by simp [ofT]
  have hm : ∀ t ∈ ofT d, ∃ i, i < min d.length 3 ∧ t = tabD (d.getD i rc0) i := fun t ht => by
    obtain ⟨i, hi, rfl⟩ := List.mem_map.1 ht
    exact ⟨i, List.mem_range.1 hi, rfl⟩
  have hg : ∀ j, j < (ofT d).length → ((ofT d).getD j t0).name = nmT j := fun j hj => by
    rw [hl] at hj
    unfold ofT
    rw [getD_range _ _ hj]
    rfl
  refine ⟨⟨fun t ht => ?_, ?_⟩, by omega, fun t ht => ?_, fun t ht => ?_, fun t ht => ?_, hg⟩
  · obtain ⟨i, hi, rfl⟩ := hm t ht
    exact tabD_valid _ _ (by have := h i hi; omega)
  · refine List.pairwise_iff_getElem.2 fun i j hi hj hij e => ?_
    unfold nmsOf at hi hj e
    rw [List.length_map] at hi hj
    rw [List.getElem_map, List.getElem_map] at e
    have g1 := hg i hi
    have g2 := hg j hj
    rw [show (ofT d).getD i t0 = (ofT d)[i] by simp [List.getD_eq_getElem?_getD, hi]] at g1
    rw [show (ofT d).getD j t0 = (ofT d)[j] by simp [List.getD_eq_getElem?_getD, hj]] at g2
    rw [g1, g2] at e
    have := nmT_inj (by omega) (by omega) e
    omega
  · obtain ⟨i, hi, rfl⟩ := hm t ht
    exact tabD_attrs _ _
  · obtain ⟨i, hi, rfl⟩ := hm t ht
    exact tabD_rlen _ _
  · obtain ⟨i, hi, rfl⟩ := hm t ht
    rw [tabD_rows]
    exact h i hi
theorem idx_at {db : List Tb} (h : (nmsOf db).Nodup) {j : Nat} (hj : j < db.length) : (db.getD j t0).name ∈ nmsOf db ∧ idxN (db.getD j t0).name (nmsOf db) = j := by
  have hm : (db.getD j t0).name ∈ nmsOf db := List.mem_map.2 ⟨_, getD_mem' t0 hj, rfl⟩
  refine ⟨hm, ?_⟩
  have h2 := idxN_lt hm
  have h2' : idxN (db.getD j t0).name (nmsOf db) < db.length := by unfold nmsOf at h2; rwa [List.length_map] at h2
  rcases tabI_is (x := (db.getD j t0).name) (l := db) (i := 0) with ⟨_, h3⟩ | ⟨k, e1, h4, h5, _⟩
  · exact absurd rfl (h3 _ (getD_mem' t0 hj))
  · have e2 := tabI_idx (i := 0) hm
    have ek : idxN (db.getD j t0).name (nmsOf db) = k := by omega
    rw [ek]
    refine Classical.byContradiction fun hne => ?_
    have hp := List.pairwise_iff_getElem.1 h
    have g1 : db.getD j t0 = db[j] := by simp [List.getD_eq_getElem?_getD, hj]
    have g2 : db.getD k t0 = db[k] := by simp [List.getD_eq_getElem?_getD, h4]
    rcases Nat.lt_or_gt_of_ne hne with hlt | hgt
    · have := hp k j (by unfold nmsOf; rw [List.length_map]; exact h4) (by unfold nmsOf; rw [List.length_map]; exact hj) hlt
      unfold nmsOf at this
      rw [List.getElem_map, List.getElem_map, ← g1, ← g2] at this
      exact this h5
    · have := hp j k (by unfold nmsOf; rw [List.length_map]; exact hj) (by unfold nmsOf; rw [List.length_map]; exact h4) hgt
      unfold nmsOf at this
      rw [List.getElem_map, List.getElem_map, ← g1, ← g2] at this
      exact this h5.symm
theorem ind_fit {db : List Tb} (h : Dra db) (h0 : 0 < db.length) (x : Lk) : Fit (nmsOf db) (nsOf db) (indS db x) := by
  have p0 : (0 : Int) < (db.length : Int) := by omega
  have f1 := Int.emod_nonneg x.f (show (db.length : Int) ≠ 0 by omega)
  have f2 := Int.emod_lt_of_pos x.f p0
  have t1 := Int.emod_nonneg x.t (show (db.length : Int) ≠ 0 by omega)
  have t2 := Int.emod_lt_of_pos x.t p0
  obtain ⟨mf, ef⟩ := idx_at h.vd.n (j := (x.f % db.length).toNat) (by omega)
  obtain ⟨mt, et⟩ := idx_at h.vd.n (j := (x.t % db.length).toNat) (by omega)
  have gn : ∀ i, (nsOf db).getD i 0 = (db.getD i t0).attrs.length := fun i => by
    unfold nsOf
    simp only [List.getD_eq_getElem?_getD, List.getElem?_map]
    cases db[i]? <;> rfl
  obtain ⟨p1, p2⟩ := pickS_ok x.l (db.getD (x.f % db.length).toNat t0).attrs.length
  obtain ⟨q1, q2⟩ := pickS_ok x.r (db.getD (x.t % db.length).toNat t0).attrs.length
  unfold indS
  refine ⟨mf, mt, ?_, ?_, ?_, ?_, ?_⟩
  · show (List.take _ _).length = (List.take _ _).length
    rw [List.length_take, List.length_take]
    omega
  · intro y hy
    have := p2 y (List.mem_of_mem_take hy)
    show 0 ≤ y ∧ y < (((nsOf db).getD (idxN (db.getD (x.f % db.length).toNat t0).name (nmsOf db)) 0 : Nat) : Int)
    rw [ef, gn]
    exact this
  · intro y hy
    have := q2 y (List.mem_of_mem_take hy)
    show 0 ≤ y ∧ y < (((nsOf db).getD (idxN (db.getD (x.t % db.length).toNat t0).name (nmsOf db)) 0 : Nat) : Int)
    rw [et, gn]
    exact this
  · exact p1.sublist (List.take_sublist _ _)
  · exact q1.sublist (List.take_sublist _ _)
theorem dra_vall {db : List Tb} (h : Dra db) (h0 : 0 < db.length) (l : List Lk) (g : Lk) : Vall db (l.map (indS db)) (indS db g) :=
  ⟨h.vd, fun d hd => by obtain ⟨x, _, rfl⟩ := List.mem_map.1 hd; exact ind_fit h h0 x, ind_fit h h0 g⟩
theorem dra_ns {db : List Tb} (h : Dra db) (i : Nat) : (nsOf db).getD i 0 ≤ 3 := by
  unfold nsOf
  simp only [List.getD_eq_getElem?_getD, List.getElem?_map]
  cases hi : db[i]? with
  | none => exact Nat.zero_le _
  | some t => exact h.a3 t (List.mem_of_getElem? hi)
theorem fit_len3 {db : List Tb} (h : Dra db) {d : Dp} (hf : Fit (nmsOf db) (nsOf db) d) : d.l.length ≤ 3 ∧ d.r.length ≤ 3 := by
  have h1 := few_nums hf.nl hf.l
  have h2 := few_nums hf.nr hf.r
  have h3 := dra_ns h (idxN d.f (nmsOf db))
  have h4 := dra_ns h (idxN d.t (nmsOf db))
  omega
end Go.Ab.A15
namespace Go.Ab.A15
open Go Go.Ab Go.Ab.A34
theorem dra_few {db : List Tb} (h : Dra db) (h0 : 0 < db.length) (l : List Lk) (g : Lk) (hl : l.length ≤ 5) : Few db (l.map (indS db)) (indS db g) where
  d4 := by have := h.n3; omega
  ll := by rw [List.length_map]; omega
  okl := fun d hd => by
    have := (dra_vall h h0 l g).l d hd
    exact this.okD h.vd
  okg := (ind_fit h h0 g).okD h.vd
  g3 := (fit_len3 h (ind_fit h h0 g)).1
  r3 := (fit_len3 h (ind_fit h h0 g)).2
theorem dra_at {db : List Tb} (h : Dra db) : ∀ t ∈ db, t.attrs.length ≤ 1000 := fun t ht => by have := h.a3 t ht; omega
theorem dra_okdb {db : List Tb} (h : Dra db) : OkDb db := fun t ht r hr => by have := h.rl t ht r hr; omega
theorem draft_cases (d : List Rc) (l : List Lk) : (¬ goodD d) ∨ (goodD d ∧ (5 < l.length ∨ ofT d = [])) ∨ (goodD d ∧ l.length ≤ 5 ∧ 0 < (ofT d).length ∧ ¬ d.length ≤ 3) ∨ (goodD d ∧ l.length ≤ 5 ∧ 0 < (ofT d).length ∧ d.length ≤ 3) := by
  by_cases h1 : goodD d
  · by_cases h2 : 5 < l.length ∨ ofT d = []
    · exact .inr (.inl ⟨h1, h2⟩)
    · have h5 : l.length ≤ 5 := Nat.le_of_not_lt fun h => h2 (.inl h)
      have h0 : 0 < (ofT d).length := List.length_pos_iff.2 fun h => h2 (.inr h)
      by_cases h3 : d.length ≤ 3
      · exact .inr (.inr (.inr ⟨h1, h5, h0, h3⟩))
      · exact .inr (.inr (.inl ⟨h1, h5, h0, h3⟩))
  · exact .inl h1
end Go.Ab.A15
namespace Go.Proofs.YtblfodnajpamfaaGreatDoor
open Go Go.Ab Go.Ab.A34 Go.Ab.A15
theorem ofV_bad {d : List Rc} (h : ¬ goodD d) : ofV d = .tup [.agg [SN], SB false] := if_neg h
theorem ofV_good {d : List Rc} (h : goodD d) : ofV d = .tup [DB (ofT d), SB (decide (d.length ≤ 3))] := if_pos h
end Go.Proofs.YtblfodnajpamfaaGreatDoor
namespace Go.Ab.A15
open Go Go.Ab Go.Ab.A34
def hldB (db : List Tb) (d : Dp) : Bool := decide (vE db d = 0) && (violS (rowsAt db d.f) (rowsAt db d.t) d.l d.r).isEmpty
theorem viol_nil {F T : List R3} {a b : List Int} : violS F T a b = [] ↔ ∀ x ∈ F, ∃ y ∈ T, Agr v0 a b x.2 y.2 := by
  unfold violS violP
  rw [List.take_length, List.map_eq_nil_iff, List.filter_eq_nil_iff]
  constructor
  · intro h x hx
    have := h x hx
    simp only [Bool.not_eq_true', Bool.not_eq_false, List.any_eq_true] at this
    obtain ⟨y, hy, e⟩ := this
    exact ⟨y, hy, agB_iff.1 e⟩
  · intro h x hx
    obtain ⟨y, hy, e⟩ := h x hx
    simp only [Bool.not_eq_true', Bool.not_eq_false, List.any_eq_true]
    exact ⟨y, hy, agB_iff.2 e⟩
def valsAt (db : List Tb) (x : ByteArray) : List (List V3) := (rowsAt db x).map (·.2)
theorem hld_iff {db : List Tb} {d : Dp} : hldB db d = true ↔ vE db d = 0 ∧ Hld v0 (valsAt db) d.f d.t d.l d.r := by
  unfold hldB
  rw [Bool.and_eq_true, decide_eq_true_eq, List.isEmpty_iff, viol_nil]
  refine and_congr_right fun _ => ⟨fun h x hx => ?_, fun h x hx => ?_⟩
  · obtain ⟨r, hr, rfl⟩ := List.mem_map.1 hx
    obtain ⟨y, hy, e⟩ := h r hr
    exact ⟨y.2, List.mem_map.2 ⟨y, hy, rfl⟩, e⟩
  · obtain ⟨z, hz, e⟩ := h x.2 (List.mem_map.2 ⟨x, hx, rfl⟩)
    obtain ⟨y, hy, rfl⟩ := List.mem_map.1 hz
    exact ⟨y, hy, e⟩
theorem vE_of {db : List Tb} {d : Dp} (hc : chkS db = 0) (hf : fitsS db d = 0) : vE db d = 0 := by
  unfold vE
  rw [if_neg (fun x => x hc), hf]
theorem hld_proved {db : List Tb} {l : List Dp} {g : Dp} {p : List (Int × List Int)} (hv : vE db g = 0) (hl : ∀ d ∈ l, hldB db d = true) (h : chkP l g.t g.r p g.f g.l = true) : hldB db g = true :=
  hld_iff.2 ⟨hv, chk_holds v0 (valsAt db) (fun d hd => (hld_iff.1 (hl d hd)).2) h⟩
theorem posFd_step {p : Dp → Bool} {l : List Dp} {i : Nat} (h : i < l.length) : posF p i (l.drop i) = if p (l.getD i d0) = true then (i : Int) else posF p (i + 1) (l.drop (i + 1)) := posF_step d0 h
end Go.Ab.A15
namespace Go.Proofs.YtblfodnajpamfaaGreatDoor
open Go Go.Ab Go.Ab.A34 Go.Ab.A15
variable [Gl] [Tabs]
theorem holds_p (db : List Tb) (d : Dp) (hdb : db.length ≤ 9223372036854775807) (hd : OkD d) (hn : OkN db) : PCall Tryz.prog 29 [DB db, DV d] (.tup [SB (hldB db d), I64 (vE db d)]) := by
  by_cases h : vE db d = 0
  · have c := viol_p db d hdb hd hn h
    unfold hldB
    rw [h, decide_eq_true rfl]
    generalize violS (rowsAt db d.f) (rowsAt db d.t) d.l d.r = W at *
    obtain ⟨df, dl, dt, dr⟩ := d
    cases W with
    | nil =>
      refine Call.enter' (N := 22) (rs := [.tmp 4, .tmp 5]) Tryz.func29 rfl rfl rfl (by decide) rfl ?_; simp only [argT]; have hD : (0 : Nat) = 0 := rfl
      repeat' first | (refine SW.seq_k fun K hK => ?_) | ((first | refine SW.region ?_ | refine SW.ret ?_ | refine Call.of_pure (c) ?_ | (refine allF_i fun b hb => ?_; replace hD := And.intro hb hD; clear hb; try simp only [fresh_cons, fresh_nil, and_true, ne_eq, neF] at hD)); try simp only [go_sem, hD, true_implies]) | ((first | apply hK | (clear hK K; apply hK) | (clear hK K; clear hK K; apply hK)); clear hK K)
      refine ret_pure ?_; simp only [resL_tmp, resL_nil, tupOf, go_sem, hD]
      try rfl
    | cons x W =>
      have hw : ¬ (((x :: W).length : Nat) : Int) = 0 := by rw [List.length_cons]; omega
      generalize hXW : x :: W = Y at *
      have hY : Y.isEmpty = false := by rw [← hXW]; rfl
      rw [hY]
      refine Call.enter' (N := 22) (rs := [.tmp 4, .tmp 5]) Tryz.func29 rfl rfl rfl (by decide) rfl ?_; simp only [argT]; have hD : (0 : Nat) = 0 := rfl
      repeat' first | (refine SW.seq_k fun K hK => ?_) | ((first | refine SW.region ?_ | refine SW.ret ?_ | refine Call.of_pure (c) ?_ | (refine allF_i fun b hb => ?_; replace hD := And.intro hb hD; clear hb; try simp only [fresh_cons, fresh_nil, and_true, ne_eq, neF] at hD)); try simp only [go_sem, hD, hw, true_implies]) | ((first | apply hK | (clear hK K; apply hK) | (clear hK K; clear hK K; apply hK)); clear hK K)
      refine ret_pure ?_; simp only [resL_tmp, resL_nil, tupOf, go_sem, hD]
      try rfl
  · have c := viol_bad db d hdb hd h
    unfold hldB
    rw [decide_eq_false h]
    generalize vE db d = v at *
    obtain ⟨df, dl, dt, dr⟩ := d
    refine Call.enter' (N := 22) (rs := [.tmp 4, .tmp 5]) Tryz.func29 rfl rfl rfl (by decide) rfl ?_; simp only [argT]; have hD : (0 : Nat) = 0 := rfl
    repeat' first | (refine SW.seq_k fun K hK => ?_) | ((first | refine SW.region ?_ | refine SW.ret ?_ | refine Call.of_pure (c) ?_ | (refine allF_i fun b hb => ?_; replace hD := And.intro hb hD; clear hb; try simp only [fresh_cons, fresh_nil, and_true, ne_eq, neF] at hD)); try simp only [go_sem, hD, h, true_implies]) | ((first | apply hK | (clear hK K; apply hK) | (clear hK K; clear hK K; apply hK)); clear hK K)
    refine ret_pure ?_; simp only [resL_tmp, resL_nil, tupOf, go_sem, hD]
    try rfl
theorem holds_r (db : List Tb) (d : Dp) (hdb : db.length ≤ 9223372036854775807) (hok : OkDb db) (hd : OkD d) : PCall Tryz.prog 23 [DB db, DV d] (SB (hldB db d)) := by
  by_cases h : vE db d = 0
  · have c := viol_r db d hdb hok hd h
    unfold hldB
    rw [h, decide_eq_true rfl]
    generalize violS (rowsAt db d.f) (rowsAt db d.t) d.l d.r = W at *
    obtain ⟨df, dl, dt, dr⟩ := d
    cases W with
    | nil =>
      refine Call.enter' (N := 20) (rs := [.tmp 4]) Tryz.func23 rfl rfl rfl (by decide) rfl ?_; simp only [argT]; have hD : (0 : Nat) = 0 := rfl
      repeat' first | (refine SW.seq_k fun K hK => ?_) | ((first | refine SW.region ?_ | refine SW.ret ?_ | refine Call.of_pure (c) ?_ | (refine allF_i fun b hb => ?_; replace hD := And.intro hb hD; clear hb; try simp only [fresh_cons, fresh_nil, and_true, ne_eq, neF] at hD)); try simp only [go_sem, hD, true_implies]) | ((first | apply hK | (clear hK K; apply hK) | (clear hK K; clear hK K; apply hK)); clear hK K)
      refine ret_pure ?_; simp only [resL_tmp, resL_nil, tupOf, go_sem, hD]
      try rfl
    | cons x W =>
      have hw : ¬ (((x :: W).length : Nat) : Int) = 0 := by rw [List.length_cons]; omega
      generalize hXW : x :: W = Y at *
      have hY : Y.isEmpty = false := by rw [← hXW]; rfl
      rw [hY]
      refine Call.enter' (N := 20) (rs := [.tmp 4]) Tryz.func23 rfl rfl rfl (by decide) rfl ?_; simp only [argT]; have hD : (0 : Nat) = 0 := rfl
      repeat' first | (refine SW.seq_k fun K hK => ?_) | ((first | refine SW.region ?_ | refine SW.ret ?_ | refine Call.of_pure (c) ?_ | (refine allF_i fun b hb => ?_; replace hD := And.intro hb hD; clear hb; try simp only [fresh_cons, fresh_nil, and_true, ne_eq, neF] at hD)); try simp only [go_sem, hD, hw, true_implies]) | ((first | apply hK | (clear hK K; apply hK) | (clear hK K; clear hK K; apply hK)); clear hK K)
      refine ret_pure ?_; simp only [resL_tmp, resL_nil, tupOf, go_sem, hD]
      try rfl
  · have c := viol_rbad db d hdb hok hd h
    unfold hldB
    rw [decide_eq_false h]
    generalize vE db d = v at *
    obtain ⟨df, dl, dt, dr⟩ := d
    refine Call.enter' (N := 20) (rs := [.tmp 4]) Tryz.func23 rfl rfl rfl (by decide) rfl ?_; simp only [argT]; have hD : (0 : Nat) = 0 := rfl
    repeat' first | (refine SW.seq_k fun K hK => ?_) | ((first | refine SW.region ?_ | refine SW.ret ?_ | refine Call.of_pure (c) ?_ | (refine allF_i fun b hb => ?_; replace hD := And.intro hb hD; clear hb; try simp only [fresh_cons, fresh_nil, and_true, ne_eq, neF] at hD)); try simp only [go_sem, hD, h, true_implies]) | ((first | apply hK | (clear hK K; apply hK) | (clear hK K; clear hK K; apply hK)); clear hK K)
    refine ret_pure ?_; simp only [resL_tmp, resL_nil, tupOf, go_sem, hD]
    try rfl
theorem indexF_d (g : FuncId) (caps : List SV) (p : Dp → Bool) (l : List Dp) (hl : l.length ≤ 1000000) (hg : ∀ d ∈ l, PCall Tryz.prog g (DV d :: caps) (SB (p d))) : PCall Tryz.prog 56 [DpL l, .fn (.func g) [] caps] (I64 (posF p 0 l)) := by
  obtain ⟨R, hR⟩ : ∃ R, R = posF p 0 l := ⟨_, rfl⟩
  rw [← hR]
  refine Call.enter' (N := 19) (rs := [.tmp 4]) Tryz.func56 rfl rfl rfl (by decide) rfl ?_; simp only [argT]; have hD : (0 : Nat) = 0 := rfl
  repeat' first | (refine SW.seq_k fun K hK => ?_) | (refine SW.block ?_) | (refine SW.region ?_; try simp only [go_sem, hD]) | ((first | apply hK | (clear hK K; apply hK) | (clear hK K; clear hK K; apply hK)); clear hK K)
  obtain ⟨I, hI⟩ : ∃ I : Nat → St → Prop, ∀ k S, I k S ↔ (∃ (i : Nat) , k = l.length - i ∧ i ≤ l.length ∧ R = posF p i (l.drop i) ∧ S = ⟨[(0, DpL l), (1, .fn (.func g) [] caps), (7, I64 l.length), (8, I64 i)], []⟩) := ⟨fun k S => _, fun _ _ => Iff.rfl⟩
  refine SW.loop' I (l.length) ((hI _ _).2 ⟨0, rfl, Nat.zero_le _, hR, rfl⟩) (by repeat' (first | exact rfl | exact trivial | exact int_eq (by omega) | exact int_eq (by (rw [i64_wrap] <;> omega)) | constructor)) ?_
  intro k S hIn
  obtain ⟨i, rfl, hi, hC, rfl⟩ := (hI _ _).1 hIn
  clear hIn
  have ie : ((i : Nat) : Int).toNat = i := Int.toNat_natCast _
  have i0 : (0 : Int) ≤ ((i : Nat) : Int) := by omega
  clear hR
  by_cases hlt : i < l.length
  · have hli : ((i : Nat) : Int) < (((l.length) : Nat) : Int) := by omega
    have w1 : IntKind.i64.wrap ((i : Int) + 1) = ((i + 1 : Nat) : Int) := by rw [i64_wrap (by omega) (by omega)]; omega
    rw [posFd_step hlt] at hC
    have fi : dpF l i = dC (l.getD i d0) := rfl
    have c := hg _ (getD_mem' d0 hlt)
    generalize l.getD i d0 = t at *
    obtain ⟨df, dl, dt, dr⟩ := t
    cases he : p ⟨df, dl, dt, dr⟩ with
    | true =>
      rw [he] at c
      rw [he, if_pos rfl] at hC
      subst hC
      repeat' first | (refine SW.seq_k fun K hK => ?_) | (refine SW.block ?_) | ((first | refine SW.region ?_ | refine SW.cond ?_ | refine SW.skip ?_ | refine SW.ret ?_ | refine Call.of_pure (c) ?_); try simp only [go_sem, hD, hli, ie, i0, w1, fi]) | ((first | apply hK | (clear hK K; apply hK) | (clear hK K; clear hK K; apply hK)); clear hK K)
      refine ret_pure ?_; simp only [resL_tmp, resL_nil, tupOf, go_sem, hD]
    | false =>
      rw [he] at c
      rw [he, if_neg (by simp)] at hC
      repeat' first | (refine SW.seq_k fun K hK => ?_) | (refine SW.block ?_) | ((first | refine SW.region ?_ | refine SW.cond ?_ | refine SW.skip ?_ | refine Call.of_pure (c) ?_); try simp only [go_sem, hD, hli, ie, i0, w1, fi]) | ((first | apply hK | (clear hK K; apply hK) | (clear hK K; clear hK K; apply hK)); clear hK K)
      refine Rnd.sub (l.length - (i + 1)) (by omega) ((hI _ _).2 ⟨i + 1, rfl, by omega, hC, rfl⟩) (by repeat' (first | exact rfl | exact trivial | exact int_eq (by omega) | exact int_eq (by (rw [i64_wrap] <;> omega)) | constructor))
  · have hli : ¬ ((i : Nat) : Int) < (((l.length) : Nat) : Int) := by omega
    rw [List.drop_of_length_le (by omega)] at hC
    have hC2 : R = -1 := hC
    subst hC2
    repeat' first | (refine SW.seq_k fun K hK => ?_) | ((first | refine SW.region ?_ | refine SW.cond ?_ | refine SW.exit ?_ | refine SW.ret ?_); try simp only [go_sem, hD, hli]) | ((first | apply hK | (clear hK K; apply hK) | (clear hK K; clear hK K; apply hK)); clear hK K)
    refine ret_pure ?_; simp only [resL_tmp, resL_nil, tupOf, go_sem, hD]
theorem contF_d (g : FuncId) (caps : List SV) (p : Dp → Bool) (l : List Dp) (hl : l.length ≤ 1000000) (hg : ∀ d ∈ l, PCall Tryz.prog g (DV d :: caps) (SB (p d))) : PCall Tryz.prog 21 [DpL l, .fn (.func g) [] caps] (SB (l.any p)) := by
  have ix := indexF_d g caps p l hl hg
  have hm := posF_any p l 0
  generalize posF p 0 l = z at *
  cases ha : l.any p with
  | true =>
    have hz := hm.2 ha
    refine Call.enter' (N := 9) (rs := [.tmp 4]) Tryz.func21 rfl rfl rfl (by decide) rfl ?_; simp only [argT]; have hD : (0 : Nat) = 0 := rfl
    repeat' first | (refine SW.seq_k fun K hK => ?_) | ((first | refine SW.region ?_ | refine SW.ret ?_ | refine Call.of_pure (ix) ?_); try simp only [go_sem, hD, hz, true_implies]) | ((first | apply hK | (clear hK K; apply hK) | (clear hK K; clear hK K; apply hK)); clear hK K)
    refine ret_pure ?_; simp only [resL_tmp, resL_nil, tupOf, go_sem, hD]
  | false =>
    have hz : ¬ 0 ≤ z := fun h => by have := hm.1 h; rw [ha] at this; cases this
    refine Call.enter' (N := 9) (rs := [.tmp 4]) Tryz.func21 rfl rfl rfl (by decide) rfl ?_; simp only [argT]; have hD : (0 : Nat) = 0 := rfl
    repeat' first | (refine SW.seq_k fun K hK => ?_) | ((first | refine SW.region ?_ | refine SW.ret ?_ | refine Call.of_pure (ix) ?_); try simp only [go_sem, hD, hz, true_implies]) | ((first | apply hK | (clear hK K; apply hK) | (clear hK K; clear hK K; apply hK)); clear hK K)
    refine ret_pure ?_; simp only [resL_tmp, resL_nil, tupOf, go_sem, hD]
end Go.Proofs.YtblfodnajpamfaaGreatDoor
namespace Go.Ab.A15
open Go Go.Ab Go.Ab.A34
instance : Inhabited Rc := ⟨rc0⟩
instance : Inhabited Lk := ⟨lk0⟩
end Go.Ab.A15
namespace Go.Proofs.YtblfodnajpamfaaGreatDoor
open Go Go.Ab Go.Ab.A34 Go.Ab.A15 Go.ChangeShapes Go.WideShapes Go.ChangeAt Go.RowKit
theorem own : ownKnob Tryz.prog.godebug = .none := by kernel_rfl
theorem laidOut : laidOutB Tryz.prog = true := by kernel_rfl
@[reducible] def gE : Gl :=
  ⟨fun g => if g = 0 then .fp (Lib.pow10Tab.map fun z => .sc (.int .u64 z)) else .any, fun g => if g = 0 then some 20 else .none⟩
theorem tabsE : @Tabs gE := @Tabs.mk gE rfl rfl
theorem t_tab : (Tryz.prog.globals[0]?).map (·.type) = some 210 := by kernel_rfl
theorem pow_tab {H : Type} : (Rows.laid_internal_strconv_uint64pow10 : DataW H) = Lib.tabData .u64 Lib.pow10Tab := rfl
theorem rep_vals {W : World} {E : Env} {nm : String} {g : Nat} {vals : List Value} (hE : ∀ a v, W.cell? a = some v → a.block = g → E.see a v) (hg : Tryz.prog.globalNamed nm = some g) (h : W.var? Tryz.prog nm = some vals.toArray) :
    Rep E (.pointer (some ⟨g, 0, none⟩)) (.fp (vals.map SV.sc)) ∧ HasSize W g (vals.length, none) := by
  unfold World.var? at h
  rw [hg] at h
  simp only [Option.bind_some] at h
  have hh : ∃ e fr, W.heap[g]? = some (.cells vals.toArray e fr) := by
    split at h
    · rename_i cs e fr hc
      rw [hc]
      cases h
      exact ⟨e, fr, rfl⟩
    · cases h
  obtain ⟨e, fr, hh⟩ := hh
  refine ⟨.fp g 0 _ (fun j => vals.getD j undef) (fun j hj => hE _ _ ?_ rfl) (fun j hj => ?_), ⟨_, e, fr, hh, by simp, .inl rfl⟩⟩
  · rw [List.length_map] at hj
    simp [World.cell?, hh, hj]
  · rw [List.length_map] at hj
    simp only [List.getD_eq_getElem?_getD, List.getElem?_map, List.getElem?_eq_getElem hj, Option.map_some, Option.getD_some]
    exact .sc _
theorem gl_of_laid {W : World} (h : laidMetH Tryz.prog Rows.inclusionProveRow.laid W) : ∃ u : Unit, @GlOk gE (envOf (fun _ => False) W) := by
  rw [MakeChecks.laidMetH_plain _ _ _ (by kernel_rfl)] at h
  obtain ⟨ps, ⟨g0, t0, cs0, f0, p0, q0, hg0, ht0, hv0, hd0, ⟨g1, t1, cs1, f1, p1, q1, hg1, ht1, hv1, hd1, ⟨g2, t2, cs2, f2, p2, q2, hg2, ht2, hv2, hd2, _, _⟩, _⟩, _⟩, _, _⟩ := h
  obtain rfl := Option.some.inj (g_tab.symm.trans hg2)
  obtain rfl := Option.some.inj (t_tab.symm.trans ht2)
  rw [pow_tab] at hd2
  have hc2 := Lib.cells_of_tab (k := .u64) Tryz.underlying210 Tryz.underlying185 (by kernel_rfl) (by kernel_rfl) hd2
  refine ⟨(), ?_⟩
  obtain ⟨r1, r2⟩ := rep_vals (E := envOf (fun _ => False) W) (fun a v ha _ => ⟨id, ha⟩) g_tab (vals := Lib.pow10Tab.map fun z => Value.int .u64 z) (by rw [hv2, ← hc2])
  rw [List.map_map] at r1
  rw [List.length_map, Lib.pow10Tab_length] at r2
  intro g
  by_cases h1 : g = 0
  · subst h1
    exact ⟨r1, fun m hm => by cases hm; exact r2⟩
  · refine ⟨?_, fun m hm => ?_⟩
    · show Rep _ _ (if g = 0 then _ else SV.any)
      rw [if_neg h1]
      exact .any _
    · exfalso
      have hm' : (if g = 0 then some 20 else Option.none) = some m := hm
      rw [if_neg h1] at hm'
      cases hm'
theorem fits8 {n : Int} (h : fits .u8 n) : 0 ≤ n ∧ n < 256 := by
  unfold fits Lit.wf at h
  simp only [Bool.and_eq_true, decide_eq_true_eq] at h
  have h1 : (0 : Int) ≤ n := h.1
  have h2 : n ≤ 255 := h.2
  exact ⟨h1, by omega⟩
@[reducible] def gN : Gl := ⟨fun _ => .any, fun _ => .none⟩
theorem rd_rec [Gl] : Rd Tryz.prog 80 RCC okRc :=
  Rd.map (Rd.struct Tryz.underlying80 (by kernel_rfl) (RdF.cons rfl 1 (by kernel_rfl) (Rd.int Tryz.underlying5) (RdF.cons rfl 1 (by kernel_rfl) (Rd.int Tryz.underlying5) (RdF.cons rfl 1 (by kernel_rfl) (Rd.slice Tryz.underlying78 1 (by kernel_rfl) (by decide) (Rd.slice Tryz.underlying25 1 (by kernel_rfl) (by decide) (Rd.int Tryz.underlying5))) (RdF.nil _)))))
    (fun x => ⟨x.1, x.2.1, x.2.2.1⟩) (fun _ _ => rfl) (fun x h => ⟨fits8 h.1, fits8 h.2.1, fun r hr c hc => fits8 ((h.2.2.1.2 r hr).2 c hc)⟩)
theorem rd_draft [Gl] : Rd Tryz.prog 23 (fun l : List Rc => [RcL l]) (fun l => l.length ≤ 9223372036854775807 ∧ OkRcs l) :=
  Rd.map (Rd.slice Tryz.underlying23 3 (by kernel_rfl) (by decide) rd_rec) (fun l => l) (fun _ _ => rfl) (fun l h => ⟨h.1, h.2⟩)
theorem rd_link [Gl] : Rd Tryz.prog 27 LkC OkK :=
  Rd.map (Rd.struct Tryz.underlying27 (by kernel_rfl) (RdF.cons rfl 1 (by kernel_rfl) (Rd.int Tryz.underlying5) (RdF.cons rfl 1 (by kernel_rfl) (Rd.int Tryz.underlying5) (RdF.cons rfl 1 (by kernel_rfl) (Rd.slice Tryz.underlying25 1 (by kernel_rfl) (by decide) (Rd.int Tryz.underlying5)) (RdF.cons rfl 1 (by kernel_rfl) (Rd.slice Tryz.underlying25 1 (by kernel_rfl) (by decide) (Rd.int Tryz.underlying5)) (RdF.nil _))))))
    (fun x => ⟨x.1, x.2.1, x.2.2.1, x.2.2.2.1⟩) (fun _ _ => rfl) (fun x h => ⟨fits8 h.1, fits8 h.2.1, fun c hc => fits8 (h.2.2.1.2 c hc), fun c hc => fits8 (h.2.2.2.1.2 c hc), h.2.2.1.1, h.2.2.2.1.1⟩)
theorem rd_links [Gl] : Rd Tryz.prog 24 (fun l : List Lk => [LkL l]) OkKs :=
  Rd.map (Rd.slice Tryz.underlying24 4 (by kernel_rfl) (by decide) rd_link) (fun l => l) (fun _ _ => rfl) (fun l h => h.2)
end Go.Proofs.YtblfodnajpamfaaGreatDoor
