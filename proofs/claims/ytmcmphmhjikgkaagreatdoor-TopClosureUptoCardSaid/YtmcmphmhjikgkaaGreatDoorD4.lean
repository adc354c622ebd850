/- The tableau of a decomposition. -/
import Derived.Test.YtmcmphmhjikgkaaGreatDoorD3
set_option linter.unusedSimpArgs false
set_option linter.unusedVariables false
set_option linter.unusedSectionVars false
namespace Go.Ab.A20
open Go Go.Ab
def rowI (n : Nat) (F : Nat → Int) : List Int := (List.range n).map F
theorem rowI_len (n : Nat) (F : Nat → Int) : (rowI n F).length = n := by unfold rowI; simp
theorem rowI_get {n j : Nat} {F : Nat → Int} (h : j < (rowI n F).length) : (rowI n F)[j] = F j := by simp [rowI]
theorem rowI_set {n k : Nat} {F : Nat → Int} (v : Int) : (rowI n F).set k v = rowI n (fun j => if j = k then v else F j) := by
  refine List.ext_getElem (by rw [List.length_set, rowI_len, rowI_len]) fun j h1 h2 => ?_
  rw [List.getElem_set, rowI_get]
  by_cases h : k = j
  · subst h
    rw [if_pos rfl, rowI_get, if_pos rfl]
  · rw [if_neg h, rowI_get, if_neg (Ne.symm h)]
theorem rowI_congr {n : Nat} {F G : Nat → Int} (h : ∀ j, j < n → F j = G j) : rowI n F = rowI n G := by
  unfold rowI
  exact List.map_congr_left fun j hj => h j (List.mem_range.1 hj)
theorem rowI_zero (n : Nat) (F : Nat → Int) (h : ∀ j, j < n → F j = 0) : List.replicate n (0 : Int) = rowI n F := by
  refine List.ext_getElem (by rw [List.length_replicate, rowI_len]) fun j h1 h2 => ?_
  rw [rowI_get, List.getElem_replicate, h j (by rw [rowI_len] at h2; exact h2)]
theorem rowI_cells (n s : Nat) : (Blk.ints .i64 (rowI n fun j => ((gR n s j : Nat) : Int))).cells = rowL n s := by
  show (rowI n _).map (fun x => SV.sc (.int .i64 x)) = rowL n s
  unfold rowI rowL
  rw [List.map_map]
  rfl
end Go.Ab.A20
namespace Go.Proofs.YtmcmphmhjikgkaaGreatDoor
open Go Go.Ab Go.Ab.A20
variable [Gl] [Bru]

set_option maxHeartbeats 2000000 in
set_option maxRecDepth 20000 in
theorem start_p (n z : Nat) (hn : n ≤ 6) (hz : z < 2 ^ n) : PCall Tryz.prog 11 [I64 n, SS [2 ^ n - 1, z]] (.tup [TB n (tabL n z), I64 0]) := by
  have h6 := pow6 hn
  have hp := Nat.two_pow_pos n
  have hst := fun g => sorted_t n z g hn hz
  have fa : ∀ j, j < n → gR n (2 ^ n - 1) j = j := fun j h => full_at h
  have fb : ∀ j, j < n → (2 ^ n - 1).testBit j = true := fun j h => by rw [Nat.testBit_two_pow_sub_one, decide_eq_true h]
  obtain ⟨T, hT⟩ : ∃ T, T = 2 ^ n - 1 := ⟨_, rfl⟩
  rw [← hT] at hst fa fb ⊢
  have n0 : ¬ ((n : Nat) : Int) < 0 := by omega
  have n16 : ¬ (16 : Int) < ((n : Nat) : Int) := by omega
  have nn0 : (0 : Int) ≤ ((n : Nat) : Int) := by omega
  have nne : ((n : Nat) : Int).toNat = n := Int.toNat_natCast _
  have nm : min n 32 = n := by omega
  refine Call.enter' (N := 73) (rs := [.cell 4 40, .tmp 5]) Tryz.func11 rfl rfl rfl (by decide) rfl ?_; simp only [argT]; have hD : (0 : Nat) = 0 := rfl
  repeat' first | (with_reducible refine And.intro (by omega) ?_) | (refine SW.seq_k fun K hK => ?_) | (refine SW.block ?_) | ((first | refine SW.region ?_ | refine SW.regionD (Checked.mixed Tryz.checked) (by kernel_rfl) ?_ | refine SW.cond ?_ | refine SW.skip ?_ | refine SW.exit ?_ | refine SW.ret ?_ | (refine allF_i fun b hb => ?_; replace hD := And.intro hb hD; clear hb; try simp only [fresh_cons, fresh_nil, and_true, ne_eq, neF] at hD) | simp only [appK, appOsK]); try simp only [go_sem, hD, n0, n16]) | (refine And.intro (by omega) ?_) | (refine ifI (fun hc => ?_) (fun hc => ?_) <;> first | (exfalso; omega) | skip) | ((first | apply hK | ((iterate 1 (clear hK K)); apply hK) | ((iterate 2 (clear hK K)); apply hK) | ((iterate 3 (clear hK K)); apply hK) | ((iterate 4 (clear hK K)); apply hK) | ((iterate 5 (clear hK K)); apply hK)); clear hK K)
  rename_i rb
  obtain ⟨sb, rfl⟩ : ∃ x, x = b := ⟨_, rfl⟩
  refine Ab.SW.le (St.le_pick [(sb, .svs [I64 n, .sc (.slice none 0 0)]), (rb, .svs [I64 0, .sc (.slice none 0 0)])] ?_ ?_) ?_
  · repeat' (first | exact (fun x hx => (List.not_mem_nil hx).elim) | refine List.forall_mem_cons.2 ⟨?_, ?_⟩ | exact List.mem_cons_self | apply List.mem_cons_of_mem)
  · simp [fresh_cons, fresh_nil, hD]
  obtain ⟨I, hI⟩ : ∃ I : Nat → St → Prop, ∀ k S, I k S ↔ (∃ (i : Nat) (x : SV) (h : Heap), k = 2 - i ∧ i ≤ 2 ∧ Acc 1 x h [(sb, .svs [I64 n, x]), (rb, .svs [I64 0, .sc (.slice none 0 0)])] i (fC (rC n) ([T, z].take i)) ∧ S = ⟨[(0, I64 n), (4, .op rb 0), (6, .op sb 0), (26, SS [T, z]), (27, I64 2), (28, I64 i)], h⟩) := ⟨fun k S => _, fun _ _ => Iff.rfl⟩
  refine SW.loop' I (2) ((hI _ _).2 ⟨0, _, _, rfl, Nat.zero_le _, .nil _ _, rfl⟩) (by repeat' (first | exact rfl | exact trivial | exact int_eq (by omega) | exact int_eq (by (rw [i64_wrap] <;> omega)) | constructor)) ?_
  intro k S hIn
  obtain ⟨i, x, h, rfl, hi, hB, rfl⟩ := (hI _ _).1 hIn
  clear hIn
  have ie : ((i : Nat) : Int).toNat = i := Int.toNat_natCast _
  have i0 : (0 : Int) ≤ ((i : Nat) : Int) := by omega
  by_cases hlt : i < 2
  · have hli : ((i : Nat) : Int) < (((2) : Nat) : Int) := by omega
    have w1 : IntKind.i64.wrap ((i : Int) + 1) = ((i + 1 : Nat) : Int) := by rw [i64_wrap (by omega) (by omega)]; omega
    obtain ⟨p, hpd⟩ : ∃ p, p = [T, z].getD i 0 := ⟨_, rfl⟩
    have hpi : p < 2 ^ n := by
      have : i = 0 ∨ i = 1 := by omega
      rcases this with rfl | rfl
      · rw [hpd]; show T < _; omega
      · rw [hpd]; exact hz
    have tf : sF [T, z] i = [U32 p] := by rw [hpd]; rfl
    have hst1 : [T, z].take (i + 1) = [T, z].take i ++ [p] := by rw [hpd]; exact take_snoc 0 hlt
    have hval : ∀ j, j < n → (if p.testBit j = true then j else n + i * n + j) = gR n p j := fun j hj => by
      have : i = 0 ∨ i = 1 := by omega
      unfold gR
      rcases this with rfl | rfl
      · have : p.testBit j = true := by rw [hpd]; exact fb j hj
        rw [if_pos this, if_pos this]
      · split
        · rfl
        · omega
    have sh := shr32 p n
    rw [show ((p / 2 ^ n : Nat) : Int) = 0 by rw [Nat.div_eq_of_lt hpi]; rfl] at sh
    rcases hB.casesH with ⟨e0, e1, rfl, rfl⟩ | ⟨ag, hgf, e0, rfl, hle⟩
    · have e2 : [T, z].take i = [] := by rw [e0]; rfl
      repeat' first | (with_reducible refine And.intro (by omega) ?_) | (refine SW.seq_k fun K hK => ?_) | (refine SW.block ?_) | ((first | refine SW.region ?_ | refine SW.regionD (Checked.mixed Tryz.checked) (by kernel_rfl) ?_ | refine SW.cond ?_ | refine SW.skip ?_ | refine SW.exit ?_ | refine SW.ret ?_ | (refine allF_i fun b hb => ?_; replace hD := And.intro hb hD; clear hb; try simp only [fresh_cons, fresh_nil, and_true, ne_eq, neF] at hD) | simp only [appK, appOsK]); try simp only [go_sem, hD, hli, ie, i0, tf, sh, nn0, nne, nm]) | (refine And.intro (by omega) ?_) | (refine ifI (fun hc => ?_) (fun hc => ?_) <;> first | (exfalso; omega) | skip) | ((first | apply hK | ((iterate 1 (clear hK K)); apply hK) | ((iterate 2 (clear hK K)); apply hK) | ((iterate 3 (clear hK K)); apply hK) | ((iterate 4 (clear hK K)); apply hK) | ((iterate 5 (clear hK K)); apply hK)); clear hK K)
      obtain ⟨g, rfl⟩ : ∃ x, x = b := ⟨_, rfl⟩
      have hIO := hI
      have ow1 := w1
      clear hI
      obtain ⟨I, hI⟩ : ∃ I : Nat → St → Prop, ∀ k S, I k S ↔ (∃ (j : Nat) (C : List Int), k = n - j ∧ j ≤ n ∧ C = rowI n (fun a => if a < j then ((gR n p a : Nat) : Int) else 0) ∧ S = ⟨[(0, I64 n), (4, .op rb 0), (6, .op sb 0), (26, SS [T, z]), (27, I64 2), (28, I64 i), (7, I64 i), (8, U32 p), (9, .os g 0 n 1), (40, I64 n), (41, I64 j)], [(g, .ints .i64 C), (sb, .svs [I64 n, .sc (.slice none 0 0)]), (rb, .svs [I64 0, .sc (.slice none 0 0)])]⟩) := ⟨fun k S => _, fun _ _ => Iff.rfl⟩
      refine SW.loop' I (n) ((hI _ _).2 ⟨0, _, rfl, Nat.zero_le _, rowI_zero n _ (fun a ha => by rw [if_neg (Nat.not_lt_zero a)]), rfl⟩) (by repeat' (first | exact rfl | exact trivial | exact int_eq (by omega) | exact int_eq (by (rw [i64_wrap] <;> omega)) | constructor)) ?_
      intro k S hIn
      obtain ⟨j, C, rfl, hi, hC, rfl⟩ := (hI _ _).1 hIn
      clear hIn
      have ie : ((j : Nat) : Int).toNat = j := Int.toNat_natCast _
      have i0 : (0 : Int) ≤ ((j : Nat) : Int) := by omega
      by_cases hlt : j < n
      · have hli : ((j : Nat) : Int) < (((n) : Nat) : Int) := by omega
        have w1 : IntKind.i64.wrap ((j : Int) + 1) = ((j + 1 : Nat) : Int) := by rw [i64_wrap (by omega) (by omega)]; omega
        have jl : ((j : Nat) : Int) < ((n : Nat) : Int) := by omega
        have z1 : 0 + j * 1 = j := by omega
        have l0 : j < C.length := by rw [hC, rowI_len]; exact hlt
        have hin : i * n ≤ 6 := by
          rw [e0]
          omega
        have wm : IntKind.i64.wrap (((i : Nat) : Int) * ((n : Nat) : Int)) = ((i * n : Nat) : Int) := by rw [← Int.natCast_mul]; exact i64_wrap (by omega) (by omega)
        have wa : IntKind.i64.wrap (((n : Nat) : Int) + ((i * n : Nat) : Int)) = ((n + i * n : Nat) : Int) := by rw [i64_wrap (by omega) (by omega)]; omega
        have wb : IntKind.i64.wrap (((n + i * n : Nat) : Int) + ((j : Nat) : Int)) = ((n + i * n + j : Nat) : Int) := by rw [i64_wrap (by omega) (by omega)]; omega
        have shj := shr32 p j
        have nmj : min j 32 = j := by omega
        have bt := bit_32 (s := p) (i := j) (by omega) (by omega)
        have hvj := hval j hlt
        have hC2 : C.set j ((gR n p j : Nat) : Int) = rowI n (fun a => if a < j + 1 then ((gR n p a : Nat) : Int) else 0) := by
          rw [hC, rowI_set]
          refine rowI_congr fun a ha => ?_
          by_cases h1 : a = j
          · subst h1
            rw [if_pos rfl, if_pos (by omega)]
          · by_cases h2 : a < j
            · rw [if_neg h1, if_pos h2, if_pos (by omega)]
            · rw [if_neg h1, if_neg h2, if_neg (by omega)]
        cases hb : p.testBit j with
        | true =>
          rw [hb, if_pos rfl] at bt hvj
          rw [← hvj] at hC2
          have hss : (C.set j ((n + i * n + j : Nat) : Int)).set j ((j : Nat) : Int) = C.set j ((j : Nat) : Int) := List.set_set ..
          repeat' first | (with_reducible refine And.intro (by omega) ?_) | (refine SW.seq_k fun K hK => ?_) | (refine SW.block ?_) | ((first | refine SW.region ?_ | refine SW.regionD (Checked.mixed Tryz.checked) (by kernel_rfl) ?_ | refine SW.cond ?_ | refine SW.skip ?_ | refine SW.exit ?_ | refine SW.ret ?_ | (refine allF_i fun b hb => ?_; replace hD := And.intro hb hD; clear hb; try simp only [fresh_cons, fresh_nil, and_true, ne_eq, neF] at hD) | simp only [appK, appOsK]); try simp only [go_sem, hD, hli, ie, i0, w1, jl, z1, l0, wm, wa, wb, shj, nmj, bt, hss]) | (refine And.intro (by omega) ?_) | (refine ifI (fun hc => ?_) (fun hc => ?_) <;> first | (exfalso; omega) | skip) | ((first | apply hK | ((iterate 1 (clear hK K)); apply hK) | ((iterate 2 (clear hK K)); apply hK) | ((iterate 3 (clear hK K)); apply hK) | ((iterate 4 (clear hK K)); apply hK) | ((iterate 5 (clear hK K)); apply hK)); clear hK K)
          refine Rnd.sub (n - (j + 1)) (by omega) ((hI _ _).2 ⟨j + 1, _, rfl, by omega, hC2, rfl⟩) (by repeat' (first | exact rfl | exact trivial | exact int_eq (by omega) | exact int_eq (by (rw [i64_wrap] <;> omega)) | constructor))
        | false =>
          rw [hb, if_neg (by simp)] at bt hvj
          rw [← hvj] at hC2
          repeat' first | (with_reducible refine And.intro (by omega) ?_) | (refine SW.seq_k fun K hK => ?_) | (refine SW.block ?_) | ((first | refine SW.region ?_ | refine SW.regionD (Checked.mixed Tryz.checked) (by kernel_rfl) ?_ | refine SW.cond ?_ | refine SW.skip ?_ | refine SW.exit ?_ | refine SW.ret ?_ | (refine allF_i fun b hb => ?_; replace hD := And.intro hb hD; clear hb; try simp only [fresh_cons, fresh_nil, and_true, ne_eq, neF] at hD) | simp only [appK, appOsK]); try simp only [go_sem, hD, hli, ie, i0, w1, jl, z1, l0, wm, wa, wb, shj, nmj, bt]) | (refine And.intro (by omega) ?_) | (refine ifI (fun hc => ?_) (fun hc => ?_) <;> first | (exfalso; omega) | skip) | ((first | apply hK | ((iterate 1 (clear hK K)); apply hK) | ((iterate 2 (clear hK K)); apply hK) | ((iterate 3 (clear hK K)); apply hK) | ((iterate 4 (clear hK K)); apply hK) | ((iterate 5 (clear hK K)); apply hK)); clear hK K)
          refine Rnd.sub (n - (j + 1)) (by omega) ((hI _ _).2 ⟨j + 1, _, rfl, by omega, hC2, rfl⟩) (by repeat' (first | exact rfl | exact trivial | exact int_eq (by omega) | exact int_eq (by (rw [i64_wrap] <;> omega)) | constructor))
      · have hli : ¬ ((j : Nat) : Int) < (((n) : Nat) : Int) := by omega
        have hC3 : C = rowI n (fun a => ((gR n p a : Nat) : Int)) := by
          rw [hC]
          exact rowI_congr fun a ha => by rw [if_pos (by omega)]
        refine Ab.SW.le (St.le_freeze (i := 9) (b := g) (off := 0) (len := n) (sz := 1) (k := .ints .i64 C) rfl (by rw [find_cons, if_pos rfl]) (by rw [← Blk.length_cells, hC3, rowI_cells, rowL_len]; omega) (gF n p) (fun a ha => by
          rw [getN_take _ _ _ (by rw [← Blk.length_cells, hC3, rowI_cells, rowL_len]; omega), Nat.zero_add, Nat.mul_one, hC3, rowI_cells]
          exact rowL_get ha)) ?_
        rw [del_head]
        have ba : (0 + 1) * 24 ≤ 140737488355328 := by omega
        repeat' first | (with_reducible refine And.intro (by omega) ?_) | (refine SW.seq_k fun K hK => ?_) | (refine SW.block ?_) | ((first | refine SW.region ?_ | refine SW.regionD (Checked.mixed Tryz.checked) (by kernel_rfl) ?_ | refine SW.cond ?_ | refine SW.skip ?_ | refine SW.exit ?_ | refine SW.ret ?_ | (refine allF_i fun b hb => ?_; replace hD := And.intro hb hD; clear hb; try simp only [fresh_cons, fresh_nil, and_true, ne_eq, neF] at hD) | simp only [appK, appOsK]); try simp only [go_sem, hD, hli, ow1, ba, true_implies]) | (refine And.intro (by omega) ?_) | (refine ifI (fun hc => ?_) (fun hc => ?_) <;> first | (exfalso; omega) | skip) | ((first | apply hK | ((iterate 1 (clear hK K)); apply hK) | ((iterate 2 (clear hK K)); apply hK) | ((iterate 3 (clear hK K)); apply hK) | ((iterate 4 (clear hK K)); apply hK) | ((iterate 5 (clear hK K)); apply hK)); clear hK K)
        subst e0
        refine Rnd.le (St.le_pick [(b, .svs [NR n p]), (sb, .svs [I64 n, .os b 0 (0 + 1) 1]), (rb, .svs [I64 0, .sc (.slice none 0 0)])] ?_ ?_) (Rnd.sub (2 - (0 + 1)) (by omega) ((hIO _ _).2 ⟨0 + 1, _, _, rfl, by omega, (by rw [hst1, e2]; exact Acc.osH (cs := [NR n p]) (by simp [fresh_cons, fresh_nil, hD]) rfl), rfl⟩) (by repeat' (first | exact rfl | exact trivial | exact int_eq (by omega) | exact int_eq (by (rw [i64_wrap] <;> omega)) | constructor)))
        · repeat' (first | exact (fun x hx => (List.not_mem_nil hx).elim) | refine List.forall_mem_cons.2 ⟨?_, ?_⟩ | exact List.mem_cons_self | apply List.mem_cons_of_mem)
        · simp [fresh_cons, fresh_nil, hD]
    · refine Ab.SW.le (hle _) ?_
      have k1 : ¬ ag = sb := fun e => by simp [e, fresh_cons] at hgf
      have k2 : ¬ ag = rb := fun e => by simp [e, fresh_cons] at hgf
      have k3 : ¬ sb = ag := fun e => k1 e.symm
      have k4 : ¬ rb = ag := fun e => k2 e.symm
      repeat' first | (with_reducible refine And.intro (by omega) ?_) | (refine SW.seq_k fun K hK => ?_) | (refine SW.block ?_) | ((first | refine SW.region ?_ | refine SW.regionD (Checked.mixed Tryz.checked) (by kernel_rfl) ?_ | refine SW.cond ?_ | refine SW.skip ?_ | refine SW.exit ?_ | refine SW.ret ?_ | (refine allF_i fun b hb => ?_; replace hD := And.intro hb hD; clear hb; try simp only [fresh_cons, fresh_nil, and_true, ne_eq, neF] at hD) | simp only [appK, appOsK]); try simp only [go_sem, hD, hli, ie, i0, tf, sh, nn0, nne, nm, k1, k2, k3, k4]) | (refine And.intro (by omega) ?_) | (refine ifI (fun hc => ?_) (fun hc => ?_) <;> first | (exfalso; omega) | skip) | ((first | apply hK | ((iterate 1 (clear hK K)); apply hK) | ((iterate 2 (clear hK K)); apply hK) | ((iterate 3 (clear hK K)); apply hK) | ((iterate 4 (clear hK K)); apply hK) | ((iterate 5 (clear hK K)); apply hK)); clear hK K)
      obtain ⟨g, rfl⟩ : ∃ x, x = b := ⟨_, rfl⟩
      have hIO := hI
      have ow1 := w1
      clear hI
      obtain ⟨I, hI⟩ : ∃ I : Nat → St → Prop, ∀ k S, I k S ↔ (∃ (j : Nat) (C : List Int), k = n - j ∧ j ≤ n ∧ C = rowI n (fun a => if a < j then ((gR n p a : Nat) : Int) else 0) ∧ S = ⟨[(0, I64 n), (4, .op rb 0), (6, .op sb 0), (26, SS [T, z]), (27, I64 2), (28, I64 i), (7, I64 i), (8, U32 p), (9, .os g 0 n 1), (40, I64 n), (41, I64 j)], [(g, .ints .i64 C), (ag, .svs (fC (rC n) ([T, z].take i))), (sb, .svs [I64 n, .os ag 0 i 1]), (rb, .svs [I64 0, .sc (.slice none 0 0)])]⟩) := ⟨fun k S => _, fun _ _ => Iff.rfl⟩
      refine SW.loop' I (n) ((hI _ _).2 ⟨0, _, rfl, Nat.zero_le _, rowI_zero n _ (fun a ha => by rw [if_neg (Nat.not_lt_zero a)]), rfl⟩) (by repeat' (first | exact rfl | exact trivial | exact int_eq (by omega) | exact int_eq (by (rw [i64_wrap] <;> omega)) | constructor)) ?_
      intro k S hIn
      obtain ⟨j, C, rfl, hi, hC, rfl⟩ := (hI _ _).1 hIn
      clear hIn
      have ie : ((j : Nat) : Int).toNat = j := Int.toNat_natCast _
      have i0 : (0 : Int) ≤ ((j : Nat) : Int) := by omega
      by_cases hlt : j < n
      · have hli : ((j : Nat) : Int) < (((n) : Nat) : Int) := by omega
        have w1 : IntKind.i64.wrap ((j : Int) + 1) = ((j + 1 : Nat) : Int) := by rw [i64_wrap (by omega) (by omega)]; omega
        have jl : ((j : Nat) : Int) < ((n : Nat) : Int) := by omega
        have z1 : 0 + j * 1 = j := by omega
        have l0 : j < C.length := by rw [hC, rowI_len]; exact hlt
        have hin : i * n ≤ 6 := by
          have : i = 0 ∨ i = 1 := by omega
          rcases this with rfl | rfl <;> omega
        have wm : IntKind.i64.wrap (((i : Nat) : Int) * ((n : Nat) : Int)) = ((i * n : Nat) : Int) := by rw [← Int.natCast_mul]; exact i64_wrap (by omega) (by omega)
        have wa : IntKind.i64.wrap (((n : Nat) : Int) + ((i * n : Nat) : Int)) = ((n + i * n : Nat) : Int) := by rw [i64_wrap (by omega) (by omega)]; omega
        have wb : IntKind.i64.wrap (((n + i * n : Nat) : Int) + ((j : Nat) : Int)) = ((n + i * n + j : Nat) : Int) := by rw [i64_wrap (by omega) (by omega)]; omega
        have shj := shr32 p j
        have nmj : min j 32 = j := by omega
        have bt := bit_32 (s := p) (i := j) (by omega) (by omega)
        have hvj := hval j hlt
        have hC2 : C.set j ((gR n p j : Nat) : Int) = rowI n (fun a => if a < j + 1 then ((gR n p a : Nat) : Int) else 0) := by
          rw [hC, rowI_set]
          refine rowI_congr fun a ha => ?_
          by_cases h1 : a = j
          · subst h1
            rw [if_pos rfl, if_pos (by omega)]
          · by_cases h2 : a < j
            · rw [if_neg h1, if_pos h2, if_pos (by omega)]
            · rw [if_neg h1, if_neg h2, if_neg (by omega)]
        cases hb : p.testBit j with
        | true =>
          rw [hb, if_pos rfl] at bt hvj
          rw [← hvj] at hC2
          have hss : (C.set j ((n + i * n + j : Nat) : Int)).set j ((j : Nat) : Int) = C.set j ((j : Nat) : Int) := List.set_set ..
          repeat' first | (with_reducible refine And.intro (by omega) ?_) | (refine SW.seq_k fun K hK => ?_) | (refine SW.block ?_) | ((first | refine SW.region ?_ | refine SW.regionD (Checked.mixed Tryz.checked) (by kernel_rfl) ?_ | refine SW.cond ?_ | refine SW.skip ?_ | refine SW.exit ?_ | refine SW.ret ?_ | (refine allF_i fun b hb => ?_; replace hD := And.intro hb hD; clear hb; try simp only [fresh_cons, fresh_nil, and_true, ne_eq, neF] at hD) | simp only [appK, appOsK]); try simp only [go_sem, hD, hli, ie, i0, w1, jl, z1, l0, wm, wa, wb, shj, nmj, bt, hss]) | (refine And.intro (by omega) ?_) | (refine ifI (fun hc => ?_) (fun hc => ?_) <;> first | (exfalso; omega) | skip) | ((first | apply hK | ((iterate 1 (clear hK K)); apply hK) | ((iterate 2 (clear hK K)); apply hK) | ((iterate 3 (clear hK K)); apply hK) | ((iterate 4 (clear hK K)); apply hK) | ((iterate 5 (clear hK K)); apply hK)); clear hK K)
          refine Rnd.sub (n - (j + 1)) (by omega) ((hI _ _).2 ⟨j + 1, _, rfl, by omega, hC2, rfl⟩) (by repeat' (first | exact rfl | exact trivial | exact int_eq (by omega) | exact int_eq (by (rw [i64_wrap] <;> omega)) | constructor))
        | false =>
          rw [hb, if_neg (by simp)] at bt hvj
          rw [← hvj] at hC2
          repeat' first | (with_reducible refine And.intro (by omega) ?_) | (refine SW.seq_k fun K hK => ?_) | (refine SW.block ?_) | ((first | refine SW.region ?_ | refine SW.regionD (Checked.mixed Tryz.checked) (by kernel_rfl) ?_ | refine SW.cond ?_ | refine SW.skip ?_ | refine SW.exit ?_ | refine SW.ret ?_ | (refine allF_i fun b hb => ?_; replace hD := And.intro hb hD; clear hb; try simp only [fresh_cons, fresh_nil, and_true, ne_eq, neF] at hD) | simp only [appK, appOsK]); try simp only [go_sem, hD, hli, ie, i0, w1, jl, z1, l0, wm, wa, wb, shj, nmj, bt]) | (refine And.intro (by omega) ?_) | (refine ifI (fun hc => ?_) (fun hc => ?_) <;> first | (exfalso; omega) | skip) | ((first | apply hK | ((iterate 1 (clear hK K)); apply hK) | ((iterate 2 (clear hK K)); apply hK) | ((iterate 3 (clear hK K)); apply hK) | ((iterate 4 (clear hK K)); apply hK) | ((iterate 5 (clear hK K)); apply hK)); clear hK K)
          refine Rnd.sub (n - (j + 1)) (by omega) ((hI _ _).2 ⟨j + 1, _, rfl, by omega, hC2, rfl⟩) (by repeat' (first | exact rfl | exact trivial | exact int_eq (by omega) | exact int_eq (by (rw [i64_wrap] <;> omega)) | constructor))
      · have hli : ¬ ((j : Nat) : Int) < (((n) : Nat) : Int) := by omega
        have hC3 : C = rowI n (fun a => ((gR n p a : Nat) : Int)) := by
          rw [hC]
          exact rowI_congr fun a ha => by rw [if_pos (by omega)]
        refine Ab.SW.le (St.le_freeze (i := 9) (b := g) (off := 0) (len := n) (sz := 1) (k := .ints .i64 C) rfl (by rw [find_cons, if_pos rfl]) (by rw [← Blk.length_cells, hC3, rowI_cells, rowL_len]; omega) (gF n p) (fun a ha => by
          rw [getN_take _ _ _ (by rw [← Blk.length_cells, hC3, rowI_cells, rowL_len]; omega), Nat.zero_add, Nat.mul_one, hC3, rowI_cells]
          exact rowL_get ha)) ?_
        rw [del_head]
        have ba : (i + 1) * 24 ≤ 140737488355328 := by omega
        repeat' first | (with_reducible refine And.intro (by omega) ?_) | (refine SW.seq_k fun K hK => ?_) | (refine SW.block ?_) | ((first | refine SW.region ?_ | refine SW.regionD (Checked.mixed Tryz.checked) (by kernel_rfl) ?_ | refine SW.cond ?_ | refine SW.skip ?_ | refine SW.exit ?_ | refine SW.ret ?_ | (refine allF_i fun b hb => ?_; replace hD := And.intro hb hD; clear hb; try simp only [fresh_cons, fresh_nil, and_true, ne_eq, neF] at hD) | simp only [appK, appOsK]); try simp only [go_sem, hD, hli, ow1, ba, true_implies, e0, k1, k2, k3, k4]) | (refine And.intro (by omega) ?_) | (refine ifI (fun hc => ?_) (fun hc => ?_) <;> first | (exfalso; omega) | skip) | ((first | apply hK | ((iterate 1 (clear hK K)); apply hK) | ((iterate 2 (clear hK K)); apply hK) | ((iterate 3 (clear hK K)); apply hK) | ((iterate 4 (clear hK K)); apply hK) | ((iterate 5 (clear hK K)); apply hK)); clear hK K)
        refine Rnd.le (St.le_pick [(b, .svs (fC (rC n) ([T, z].take i) ++ [NR n p])), (sb, .svs [I64 n, .os b 0 (i + 1) 1]), (rb, .svs [I64 0, .sc (.slice none 0 0)])] ?_ ?_) (Rnd.sub (2 - (i + 1)) (by omega) ((hIO _ _).2 ⟨i + 1, _, _, rfl, by omega, (by rw [hst1, ← fC_snoc]; exact Acc.osH (by simp [fresh_cons, fresh_nil, hD]) (by rw [List.length_append, ← e0, Nat.add_mul, Nat.one_mul]; rfl)), rfl⟩) (by repeat' (first | exact rfl | exact trivial | exact int_eq (by omega) | exact int_eq (by (rw [i64_wrap] <;> omega)) | constructor)))
        · repeat' (first | exact (fun x hx => (List.not_mem_nil hx).elim) | refine List.forall_mem_cons.2 ⟨?_, ?_⟩ | exact List.mem_cons_self | apply List.mem_cons_of_mem)
        · simp [fresh_cons, fresh_nil, hD]
  · have hli : ¬ ((i : Nat) : Int) < (((2) : Nat) : Int) := by omega
    obtain rfl : i = 2 := by omega
    rw [show [T, z].take 2 = [T, z] from rfl] at hB
    rcases hB.casesH with ⟨e0, _⟩ | ⟨ag, hgf, e0, rfl, hle⟩
    · cases e0
    · refine Ab.SW.le (hle _) ?_
      have k1 : ¬ ag = sb := fun e => by simp [e, fresh_cons] at hgf
      have k2 : ¬ ag = rb := fun e => by simp [e, fresh_cons] at hgf
      have k3 : ¬ sb = ag := fun e => k1 e.symm
      have k4 : ¬ rb = ag := fun e => k2 e.symm
      have st := Call.frameN (h2 := [(sb, Blk.svs [I64 n, .os ag 0 2 1]), (rb, Blk.svs [I64 0, .sc (.slice none 0 0)])]) (hst ag)
      have hfc : fC (rC n) [T, z] = [NR n T, NR n z] := rfl
      rw [hfc]
      repeat' first | (with_reducible refine And.intro (by omega) ?_) | (refine SW.seq_k fun K hK => ?_) | (refine SW.block ?_) | ((first | refine SW.region ?_ | refine SW.regionD (Checked.mixed Tryz.checked) (by kernel_rfl) ?_ | refine SW.cond ?_ | refine SW.skip ?_ | refine SW.exit ?_ | refine SW.ret ?_ | (refine allF_i fun b hb => ?_; replace hD := And.intro hb hD; clear hb; try simp only [fresh_cons, fresh_nil, and_true, ne_eq, neF] at hD) | simp only [appK, appOsK]); try simp only [go_sem, hD, hli, k1, k2, k3, k4]) | (refine And.intro (by omega) ?_) | (refine ifI (fun hc => ?_) (fun hc => ?_) <;> first | (exfalso; omega) | skip) | ((first | apply hK | ((iterate 1 (clear hK K)); apply hK) | ((iterate 2 (clear hK K)); apply hK) | ((iterate 3 (clear hK K)); apply hK) | ((iterate 4 (clear hK K)); apply hK) | ((iterate 5 (clear hK K)); apply hK)); clear hK K)
      refine Call.mono st ?_
      intro r h' hx
      obtain ⟨h1', rfl, ⟨rfl, rfl⟩, hnd⟩ := hx
      simp only [List.cons_append, List.nil_append, go_sem, hD]
      (first | apply hK | ((iterate 1 (clear hK K)); apply hK) | ((iterate 2 (clear hK K)); apply hK) | ((iterate 3 (clear hK K)); apply hK) | ((iterate 4 (clear hK K)); apply hK) | ((iterate 5 (clear hK K)); apply hK)); clear hK K
      repeat' first | (with_reducible refine And.intro (by omega) ?_) | (refine SW.seq_k fun K hK => ?_) | (refine SW.block ?_) | ((first | refine SW.region ?_ | refine SW.regionD (Checked.mixed Tryz.checked) (by kernel_rfl) ?_ | refine SW.cond ?_ | refine SW.skip ?_ | refine SW.exit ?_ | refine SW.ret ?_ | (refine allF_i fun b hb => ?_; replace hD := And.intro hb hD; clear hb; try simp only [fresh_cons, fresh_nil, and_true, ne_eq, neF] at hD) | simp only [appK, appOsK]); try simp only [go_sem, hD]) | (refine And.intro (by omega) ?_) | (refine ifI (fun hc => ?_) (fun hc => ?_) <;> first | (exfalso; omega) | skip) | ((first | apply hK | ((iterate 1 (clear hK K)); apply hK) | ((iterate 2 (clear hK K)); apply hK) | ((iterate 3 (clear hK K)); apply hK) | ((iterate 4 (clear hK K)); apply hK) | ((iterate 5 (clear hK K)); apply hK)); clear hK K)
      apply ret_cell (i := 4) (n := 2); exact rfl; (simp only [go_sem, hD]; try rfl); (first | exact Nat.le_refl _ | decide); simp only [resL_tmp, resL_cellE, resC_ok, resL_nil, tupOf, getN, go_sem, hD]
end Go.Proofs.YtmcmphmhjikgkaaGreatDoor
