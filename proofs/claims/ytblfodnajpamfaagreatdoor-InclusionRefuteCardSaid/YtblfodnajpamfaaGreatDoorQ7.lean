/- Several texts in one: RC, RD, RE, RF, RG, RJ. -/
import Derived.Test.YtblfodnajpamfaaGreatDoorQ6
import Derived.Test.YtblfodnajpamfaaGreatDoorQ5
set_option linter.unusedSimpArgs false
set_option linter.unusedVariables false
set_option linter.unusedSectionVars false
set_option maxHeartbeats 4000000
set_option maxRecDepth 20000
namespace Go.Ab.A15
open Go Go.Ab Go.Ab.A34
def zR (x : List Int) : R3 := (0, x.map nvW)
def zC (L : List (List Int)) : List SV := fC rC (L.map zR)
theorem rC_set : ∀ (L : List R3) (j : Nat) (v : R3), j < L.length → ((fC rC L).set (j * 2) (I64 v.1)).set (j * 2 + 1) (VL v.2) = fC rC (L.set j v)
  | [], j, v, h => absurd h (Nat.not_lt_zero _)
  | x :: L, 0, v, h => rfl
  | x :: L, j + 1, v, h => by
    have := rC_set L j v (by simpa using h)
    unfold fC at *
    rw [List.set_cons_succ, List.flatMap_cons, List.flatMap_cons, ← this]
    show ((I64 x.1 :: VL x.2 :: List.flatMap rC L).set ((j + 1) * 2) _).set ((j + 1) * 2 + 1) _ = I64 x.1 :: VL x.2 :: _
    rw [show (j + 1) * 2 = j * 2 + 1 + 1 by omega, List.set_cons_succ, List.set_cons_succ, List.set_cons_succ, List.set_cons_succ]
    rfl
theorem zC_len (L : List (List Int)) : (zC L).length = L.length * 2 := by
  unfold zC
  rw [← fC_len (enc := rC) (k := 2) (fun _ => rfl), List.length_map]
theorem zC_get {L : List (List Int)} {j : Nat} (h : j < L.length) : (zC L).getD (j * 2) .any = I64 0 ∧ (zC L).getD (j * 2 + 1) .any = VL ((L.getD j []).map nvW) := by
  have hj : j < (L.map zR).length := by rw [List.length_map]; exact h
  have e : (L.map zR).getD j r0 = zR (L.getD j []) := by simp [List.getD_eq_getElem?_getD, h]
  have h1 := fC_get (enc := rC) (k := 2) (fun _ => rfl) r0 hj (show 0 < 2 by omega)
  have h2 := fC_get (enc := rC) (k := 2) (fun _ => rfl) r0 hj (show 1 < 2 by omega)
  rw [e] at h1 h2
  exact ⟨h1, h2⟩
theorem zC_set {L : List (List Int)} {j : Nat} {x : List Int} (h : j < L.length) : ((zC L).set (j * 2) (I64 0)).set (j * 2 + 1) (VL (x.map nvW)) = zC (L.set j x) := by
  have := rC_set (L.map zR) j (zR x) (by rw [List.length_map]; exact h)
  unfold zC
  rw [List.map_set]
  exact this
theorem zC_snoc (L : List (List Int)) (x : List Int) : zC L ++ [I64 0, VL (x.map nvW)] = zC (L ++ [x]) := by
  unfold zC
  rw [List.map_append]
  exact fC_snoc (enc := rC) (L.map zR) (zR x)
def putL (L : List (List Int)) (x : List Int) (k : Nat) : List (List Int) := L.take k ++ x :: L.drop k
theorem putL_len {L : List (List Int)} {x : List Int} {k : Nat} (h : k ≤ L.length) : (putL L x k).length = L.length + 1 := by
  unfold putL
  rw [List.length_append, List.length_take, List.length_cons, List.length_drop]
  omega
theorem putL_end (L : List (List Int)) (x : List Int) : putL L x L.length = L ++ [x] := by
  unfold putL
  rw [List.take_length, List.drop_length]
theorem putL_at {L : List (List Int)} {x : List Int} {k : Nat} (h : k ≤ L.length) : (putL L x k).getD k [] = x := by
  unfold putL
  rw [List.getD_eq_getElem?_getD, List.getElem?_append_right (by rw [List.length_take]; omega), List.length_take, show k - min k L.length = 0 by omega]
  rfl
theorem putL_bef {L : List (List Int)} {x : List Int} {k : Nat} (h : k < L.length) : (putL L x (k + 1)).getD k [] = L.getD k [] := by
  unfold putL
  rw [List.getD_eq_getElem?_getD, List.getElem?_append_left (by rw [List.length_take]; omega), List.getElem?_take]
  rw [if_pos (by omega), ← List.getD_eq_getElem?_getD]
theorem putL_app0 (A B : List (List Int)) (x y : List Int) : putL (A ++ y :: B) x A.length = A ++ x :: y :: B := by simp [putL]
theorem putL_app1 (A B : List (List Int)) (x y : List Int) : putL (A ++ y :: B) x (A.length + 1) = A ++ y :: x :: B := by
  unfold putL
  rw [List.take_append, List.drop_append, List.take_of_length_le (show A.length ≤ A.length + 1 by omega), List.drop_of_length_le (show A.length ≤ A.length + 1 by omega)]
  simp
theorem putL_swap {L : List (List Int)} {x : List Int} {k : Nat} (h : k < L.length) : ((putL L x (k + 1)).set (k + 1) (L.getD k [])).set k x = putL L x k := by
  obtain ⟨A, y, B, rfl, rfl⟩ : ∃ A y B, L = A ++ y :: B ∧ A.length = k := ⟨L.take k, L[k], L.drop (k + 1), by rw [← List.drop_eq_getElem_cons h, List.take_append_drop], by rw [List.length_take]; omega⟩
  have g : (A ++ y :: B).getD A.length [] = y := by simp [List.getD_eq_getElem?_getD]
  rw [putL_app0, putL_app1, g, List.set_append, if_neg (by omega), show A.length + 1 - A.length = 1 by omega, List.set_append, if_neg (by omega), Nat.sub_self]
  rfl
def Ins (L M : List (List Int)) (x : List Int) : Prop := M.Pairwise (fun a b => lexI a b < 0) ∧ M.Perm (x :: L)
theorem ins_put {L : List (List Int)} {x : List Int} {k : Nat} (h : k ≤ L.length) (hL : L.Pairwise fun a b => lexI a b < 0) (h1 : ∀ j, k ≤ j → j < L.length → lexI x (L.getD j []) < 0) (h2 : ∀ j, j < k → lexI (L.getD j []) x < 0) : Ins L (putL L x k) x := by
  constructor
  · unfold putL
    rw [List.pairwise_append, List.pairwise_cons]
    have hp := List.take_append_drop k L ▸ hL
    refine ⟨hL.sublist (List.take_sublist _ _), ⟨fun y hy => ?_, hL.sublist (List.drop_sublist _ _)⟩, fun a ha b hb => ?_⟩
    · obtain ⟨j, hj, rfl⟩ := List.getElem_of_mem hy
      rw [List.length_drop] at hj
      rw [List.getElem_drop]
      have := h1 (k + j) (by omega) (by omega)
      rwa [show L.getD (k + j) [] = L[k + j] by simp [List.getD_eq_getElem?_getD, show k + j < L.length by omega]] at this
    · obtain ⟨i, hi, rfl⟩ := List.getElem_of_mem ha
      rw [List.length_take] at hi
      rw [List.getElem_take]
      rcases List.mem_cons.1 hb with rfl | hb
      · have := h2 i (by omega)
        rwa [show L.getD i [] = L[i] by simp [List.getD_eq_getElem?_getD, show i < L.length by omega]] at this
      · obtain ⟨j, hj, rfl⟩ := List.getElem_of_mem hb
        rw [List.length_drop] at hj
        rw [List.getElem_drop]
        exact List.pairwise_iff_getElem.1 hL i (k + j) (by omega) (by omega) (by omega)
  · unfold putL
    refine List.perm_middle.trans ?_
    rw [List.take_append_drop]
def xC (b : Nat) (L : List (List Int)) : SV := if L = [] then SN else .os b 0 L.length 2
def xH (b : Nat) (L : List (List Int)) : Heap := if L = [] then [] else [(b, .svs (zC L))]
end Go.Ab.A15
def Go.Ab.zRC_1 : Go.Ab.OZ := (.one 0 [0, 1, 2, 3, 4, 5, 6, 7, 8, 9, 10, 11, 12, 13, 14, 15, 16, 17, 18] (.one 1 [1, 2, 3, 4, 5, 6, 7, 8, 9, 10, 11, 12, 13, 14, 15, 16, 17, 18] (.one 2 [2, 3, 4, 5, 6, 7, 8, 9, 10, 11, 12, 13, 14, 15, 16, 17, 18] (.one 3 [3, 4, 6, 7, 8, 16, 17, 18] (.one 4 [4, 6, 7, 8, 16, 17, 18] (.one 5 [5, 6, 7, 8, 16, 17, 18] (.one 6 [6, 7, 8, 16, 17, 18] (.one 7 [7, 8, 16, 17, 18] (.one 8 [8, 16, 17, 18] (.one 9 [9, 10, 13, 14, 15, 16, 17, 18] (.one 10 [10, 13, 14, 15, 16, 17, 18] (.one 11 [11, 12, 13, 14, 15, 16, 17, 18] (.one 12 [12, 13, 14, 15, 16, 17, 18] (.one 13 [13, 14, 15, 16, 17, 18] (.one 14 [14, 15, 16, 17, 18] (.one 15 [15, 16, 17, 18] (.one 16 [16, 17, 18] (.one 17 [17, 18] (.one 18 [18] .done)))))))))))))))))))
namespace Go.Proofs.YtblfodnajpamfaaGreatDoor
open Go Go.Ab Go.Ab.A34 Go.Ab.A15
variable [Gl] [Tabs]
theorem szv_nv {x : List Int} (h : x.length ≤ 1000) : SzV (x.map nvW) := ⟨by rw [List.length_map]; exact h, fun v hv => by
  obtain ⟨n, _, rfl⟩ := List.mem_map.1 hv
  exact Nat.zero_le _⟩
theorem add_nilr (tn : ByteArray) (ta : List ByteArray) (n : Nat) (x : List Int) (hx : x.length ≤ 1000) :
    Ab.Call Tryz.prog 53 [.agg [Str tn, SL ta, SN], VL (x.map nvW)] [] (fun r h' => ∃ b, r = .tup [.agg [Str tn, SL ta, .os b 0 1 2], SB true] ∧ h' = [(b, .svs (zC [x]))]) := by
  have c : PCall Tryz.prog 80 [SN, VL (x.map nvW)] (SB false) := by
    refine Call.enter' (N := 19) (rs := [.tmp 4]) Tryz.func80 rfl rfl rfl (by decide) rfl ?_; simp only [argT]; have hD : (0 : Nat) = 0 := rfl
    repeat' first | (refine SW.seq_k fun K hK => ?_) | (refine SW.block ?_) | (refine SW.region ?_; try simp only [go_sem, hD]) | (apply hK; clear hK K)
    obtain ⟨J, hJ⟩ : ∃ J : Nat → St → Prop, ∀ m S, J m S ↔ S = ⟨[(0, SN), (1, VL (x.map nvW)), (4, SB false), (5, I64 0)], []⟩ := ⟨fun m S => _, fun _ _ => Iff.rfl⟩
    refine SW.loop' J 0 ((hJ _ _).2 rfl) (by repeat' (first | exact rfl | exact trivial | constructor)) ?_
    intro m S hIn
    obtain rfl := (hJ _ _).1 hIn
    clear hIn
    repeat' first | (refine SW.seq_k fun K hK => ?_) | ((first | refine SW.region ?_ | refine SW.cond ?_ | refine SW.exit ?_ | refine SW.ret ?_); try simp only [go_sem, hD]) | (apply hK; clear hK K) | (clear hK K; apply hK; clear hK K)
    refine ret_pure ?_; simp only [resL_tmp, resL_nil, tupOf, go_sem, hD]
  generalize hv : x.map nvW = V at *
  have hz1 : zC [x] = [I64 0, VL V] := by rw [← hv]; rfl
  rw [hz1]
  have w0 : IntKind.i64.wrap (((1 : Nat) : Int) - 1) = 0 := by decide
  refine Call.enter' (N := 65) (rs := [.cell 4 75, .tmp 5]) Tryz.func53 rfl rfl rfl (by decide) rfl ?_; simp only [argT]; have hD : (0 : Nat) = 0 := rfl
  repeat' first | (with_reducible refine And.intro (by omega) ?_) | (refine SW.seq_k fun K hK => ?_) | (refine SW.block ?_) | ((first | refine SW.region ?_ | refine SW.cond ?_ | refine SW.skip ?_ | refine Call.of_pure (c) ?_ | (refine allF_i fun b hb => ?_; replace hD := And.intro hb hD; clear hb; try simp only [fresh_cons, fresh_nil, and_true, ne_eq, neF] at hD) | simp only [appK, appOsK]); try simp only [go_sem, hD, true_implies, w0]) | (refine And.intro (by omega) ?_) | (apply hK; clear hK K)
  obtain ⟨rb, rfl⟩ : ∃ x, x = b := ⟨_, rfl⟩
  obtain ⟨b1, rfl⟩ : ∃ x, x = b := ⟨_, rfl⟩
  obtain ⟨b4, rfl⟩ : ∃ x, x = b := ⟨_, rfl⟩
  obtain ⟨b2, rfl⟩ : ∃ x, x = b := ⟨_, rfl⟩
  refine Ab.SW.le (St.le_pick [(rb, .svs [I64 0, VL V]), (b4, .svs [Str ⟨#[]⟩, SN, SN]), (b2, .svs [Str tn, SL ta, .os rb 0 1 2])] ?_ ?_) ?_
  · repeat' (first | exact (fun x hx => (List.not_mem_nil hx).elim) | refine List.forall_mem_cons.2 ⟨?_, ?_⟩ | exact List.mem_cons_self | apply List.mem_cons_of_mem)
  · simp [fresh_cons, fresh_nil, hD]
  obtain ⟨J, hJ⟩ : ∃ J : Nat → St → Prop, ∀ m S, J m S ↔ S = ⟨[(2, .op b2 0), (4, .op b4 0), (6, I64 0)], [(rb, .svs [I64 0, VL V]), (b4, .svs [Str ⟨#[]⟩, SN, SN]), (b2, .svs [Str tn, SL ta, .os rb 0 1 2])]⟩ := ⟨fun m S => _, fun _ _ => Iff.rfl⟩
  refine SW.loop' J 0 ((hJ _ _).2 rfl) (by repeat' (first | exact rfl | exact trivial | constructor)) ?_
  intro m S hIn
  obtain rfl := (hJ _ _).1 hIn
  clear hIn
  repeat' first | (refine SW.seq_k fun K hK => ?_) | ((first | refine SW.region ?_ | refine SW.regionZ (id := 5) (Checked.mixed Tryz.checked) Go.Ab.zRC_1 (by kernel_rfl) ?_ | refine SW.cond ?_ | refine SW.exit ?_ | refine SW.ret ?_); try simp only [Go.Ab.zRC_1, go_sem, hD, true_implies]) | (refine ifI (fun hc => ?_) (fun hc => ?_) <;> first | (exfalso; omega) | skip) | (apply hK; clear hK K) | (clear hK K; apply hK; clear hK K)
  all_goals
    refine retQ_le (S' := ⟨[(4, .fp [Str tn, SL ta, .os rb 0 1 2]), (5, SB true)], [(rb, .svs [I64 0, VL V])]⟩) ?_ ?_
    · refine St.le.trans (St.le_freezeP (i := 4) (b := b4) (off := 0) (n := 3) (k := .svs [Str tn, SL ta, .os rb 0 1 2]) rfl (by simp [find_cons, hD]) (by exact Nat.le_refl 3)) ?_
      simp only [getN, Blk.get, go_sem, hD]
      exact St.le.trans (St.le_slist (h' := [(rb, .svs [I64 0, VL V])]) (List.Sublist.cons_cons _ (List.nil_sublist _))) (St.le_sub (by repeat' (first | exact rfl | exact trivial | constructor)))
    · simp only [resL_tmp, resL_cellE, resC_ok, resL_nil, tupOf, getN, go_sem, hD]
      try exact ⟨_, rfl, rfl⟩
theorem nv_map_inj : ∀ {a b : List Int}, a.map nvW = b.map nvW → a = b
  | [], [], _ => rfl
  | [], _ :: _, h => by simp at h
  | _ :: _, [], h => by simp at h
  | x :: a, y :: b, h => by
    rw [List.map_cons, List.map_cons, List.cons.injEq] at h
    rw [nv_inj h.1, nv_map_inj h.2]
theorem zany (L : List (List Int)) (x : List Int) : ((L.map zR).any fun r => decide (r.2 = x.map nvW)) = decide (x ∈ L) := by
  rw [Bool.eq_iff_iff, List.any_eq_true, decide_eq_true_eq]
  constructor
  · rintro ⟨r, hr, e⟩
    obtain ⟨y, hy, rfl⟩ := List.mem_map.1 hr
    have e2 : y.map nvW = x.map nvW := of_decide_eq_true e
    rwa [← nv_map_inj e2]
  · intro h
    exact ⟨zR x, List.mem_map.2 ⟨x, h, rfl⟩, by simp [zR]⟩
theorem listed_o (rb : Nat) (H : Heap) (L : List (List Int)) (x : List Int) (hs : ∀ y ∈ L, y.length ≤ 1000) (hx : x.length ≤ 1000) (hl : L.length ≤ 100000) (hH : H.find rb = some (.svs (zC L))) : Ab.Call Tryz.prog 80 [.os rb 0 L.length 2, VL (x.map nvW)] H (fun r h' => r = SB (decide (x ∈ L)) ∧ h' = H) := by
  have c := listed_r (L.map zR) (x.map nvW) (fun r hr => by
    obtain ⟨y, hy, rfl⟩ := List.mem_map.1 hr
    exact szv_nv (hs y hy)) (szv_nv hx) (by rw [List.length_map]; omega)
  rw [zany] at c
  have hl2 : (L.map zR).length = L.length := List.length_map _
  refine Call.lend (args := [.os rb 0 L.length 2, VL (x.map nvW)]) (k := .svs (zC L)) (off := 0) (sz := 2) 0 (rF (L.map zR)) (by simp) rfl hH (by rw [Blk.len_svs, zC_len]; omega) (fun j hj => ?_) ?_
  · rw [getN_take _ _ _ (by rw [Blk.len_svs, zC_len]; omega), Nat.zero_add]
    exact fC_at (enc := rC) (k := 2) (fun _ => rfl) r0 (L.map zR) j (by omega)
  · unfold RL at c
    rw [hl2] at c
    exact c
theorem add_ownr (tn : ByteArray) (ta : List ByteArray) (rb : Nat) (L : List (List Int)) (x : List Int) (hx : x.length ≤ 1000) (hln : L.length ≤ 1000) (heq : ∀ y ∈ L, y.length = x.length) (hL : L.Pairwise fun a b => lexI a b < 0) :
    Ab.Call Tryz.prog 53 [.agg [Str tn, SL ta, .os rb 0 L.length 2], VL (x.map nvW)] [(rb, .svs (zC L))] (fun r h' => (x ∈ L ∧ r = .tup [.agg [Str tn, SL ta, .os rb 0 L.length 2], SB false] ∧ h' = [(rb, .svs (zC L))]) ∨ (x ∉ L ∧ ∃ b M, Ins L M x ∧ r = .tup [.agg [Str tn, SL ta, .os b 0 (L.length + 1) 2], SB true] ∧ h' = [(b, .svs (zC M))])) := by
  have cl := fun H => listed_o rb H L x (fun y hy => by rw [heq y hy]; exact hx) hx (by omega)
  by_cases hm : x ∈ L
  · simp only [decide_eq_true hm] at cl
    generalize hv : x.map nvW = V at *
    refine Call.enter' (N := 65) (rs := [.cell 4 75, .tmp 5]) Tryz.func53 rfl rfl rfl (by decide) rfl ?_; simp only [argT]; have hD : (0 : Nat) = 0 := rfl
    repeat' first | ((refine Call.mono (cl _ (by simp [find_cons, hD])) ?_); (intro r h' hx); (obtain ⟨rfl, rfl⟩ := hx); (try simp only [go_sem, hD])) | (refine SW.seq_k fun K hK => ?_) | ((first | refine SW.region ?_ | refine SW.cond ?_ | refine SW.ret ?_ | (refine allF_i fun b hb => ?_; replace hD := And.intro hb hD; clear hb; try simp only [fresh_cons, fresh_nil, and_true, ne_eq, neF] at hD)); try simp only [go_sem, hD, true_implies]) | (apply hK; clear hK K)
    obtain ⟨b4, rfl⟩ : ∃ x, x = b := ⟨_, rfl⟩
    obtain ⟨b2, rfl⟩ : ∃ x, x = b := ⟨_, rfl⟩
    refine retQ_le (S' := ⟨[(4, .fp [Str tn, SL ta, .os rb 0 L.length 2]), (5, SB false)], [(rb, .svs (zC L))]⟩) ?_ ?_
    · refine St.le.trans (St.le_freezeP (i := 4) (b := b4) (off := 0) (n := 3) (k := .svs [Str tn, SL ta, .os rb 0 L.length 2]) rfl (by simp [find_cons, hD]) (by exact Nat.le_refl 3)) ?_
      simp only [getN, Blk.get, go_sem, hD]
      exact St.le.trans (St.le_slist (h' := [(rb, .svs (zC L))]) (List.Sublist.cons _ (List.Sublist.refl _))) (St.le_sub (by repeat' (first | exact rfl | exact trivial | constructor)))
    · simp only [resL_tmp, resL_cellE, resC_ok, resL_nil, tupOf, getN, go_sem, hD]
      first | exact .inl ⟨hm, rfl, rfl⟩ | exact .inl hm
  · simp only [decide_eq_false hm] at cl
    have hzs := zC_snoc L x
    have hzl := zC_len L
    have ba : (L.length + 1) * 32 ≤ 140737488355328 := by omega
    have w0 : IntKind.i64.wrap (((L.length + 1 : Nat) : Int) - 1) = ((L.length : Nat) : Int) := by rw [i64_wrap (by omega) (by omega)]; omega
    generalize hv : x.map nvW = V at *
    refine Call.enter' (N := 65) (rs := [.cell 4 75, .tmp 5]) Tryz.func53 rfl rfl rfl (by decide) rfl ?_; simp only [argT]; have hD : (0 : Nat) = 0 := rfl
    repeat' first | ((refine Call.mono (cl _ (by simp [find_cons, hD])) ?_); (intro r h' hx); (obtain ⟨rfl, rfl⟩ := hx); (try simp only [go_sem, hD])) | (with_reducible refine And.intro (by omega) ?_) | (refine SW.seq_k fun K hK => ?_) | (refine SW.block ?_) | ((first | refine SW.region ?_ | refine SW.cond ?_ | refine SW.skip ?_ | (refine allF_i fun b hb => ?_; replace hD := And.intro hb hD; clear hb; try simp only [fresh_cons, fresh_nil, and_true, ne_eq, neF] at hD) | simp only [appK, appOsK]); try simp only [go_sem, hD, true_implies, ba, hzl, w0]) | (apply hK; clear hK K)
    obtain ⟨rn, rfl⟩ : ∃ x, x = b := ⟨_, rfl⟩
    obtain ⟨a1, rfl⟩ : ∃ x, x = b := ⟨_, rfl⟩
    obtain ⟨b4, rfl⟩ : ∃ x, x = b := ⟨_, rfl⟩
    obtain ⟨b2, rfl⟩ : ∃ x, x = b := ⟨_, rfl⟩
    have hz2 : zC L ++ [I64 0, VL V] = zC (putL L x L.length) := by rw [hzs, putL_end]
    refine Ab.SW.le (St.le_slist (h' := [(b4, .svs [Str ⟨#[]⟩, SN, SN]), (b2, .svs [Str tn, SL ta, .os rn 0 (L.length + 1) 2]), (rn, .svs (zC L ++ [I64 0, VL V]))]) (List.Sublist.cons _ (List.Sublist.refl _))) ?_
    rw [hz2]
    clear hz2 hzs hzl ba cl
    have e1 : ¬ b4 = b2 := by simp [hD]
    have e2 : ¬ b4 = rn := by simp [hD]
    have e3 : ¬ b2 = rn := by simp [hD]
    clear hD
    have hD := And.intro (And.intro (eq_false e1) (eq_false (Ne.symm e1))) (And.intro (And.intro (eq_false e2) (eq_false (Ne.symm e2))) (And.intro (eq_false e3) (eq_false (Ne.symm e3))))
    obtain ⟨J, hJ⟩ : ∃ J : Nat → St → Prop, ∀ m S, J m S ↔ (∃ k : Nat, m = k ∧ k ≤ L.length ∧ (∀ j, k ≤ j → j < L.length → lexI x (L.getD j []) < 0) ∧ S = ⟨[(2, .op b2 0), (4, .op b4 0), (6, I64 k)], [(b4, .svs [Str ⟨#[]⟩, SN, SN]), (b2, .svs [Str tn, SL ta, .os rn 0 (L.length + 1) 2]), (rn, .svs (zC (putL L x k)))]⟩) := ⟨fun m S => _, fun _ _ => Iff.rfl⟩
    refine SW.loop' J L.length ((hJ _ _).2 ⟨L.length, rfl, Nat.le_refl _, fun j h1 h2 => absurd h2 (by omega), rfl⟩) (by repeat' (first | exact rfl | exact trivial | constructor)) ?_
    intro m S hIn
    obtain ⟨k, rfl, hk, hgt, rfl⟩ := (hJ _ _).1 hIn
    clear hIn
    cases m with
    | zero =>
      have hin := ins_put (k := 0) hk hL hgt (fun j hj => absurd hj (Nat.not_lt_zero _))
      have k0 : ¬ (0 : Int) < ((0 : Nat) : Int) := by omega
      repeat' first | (refine SW.seq_k fun K hK => ?_) | ((first | refine SW.region ?_ | refine SW.regionZ (id := 5) (Checked.mixed Tryz.checked) Go.Ab.zRC_1 (by kernel_rfl) ?_ | refine SW.cond ?_ | refine SW.exit ?_ | refine SW.ret ?_); try simp only [Go.Ab.zRC_1, go_sem, hD, k0, true_implies]) | (refine ifI (fun hc => ?_) (fun hc => ?_) <;> first | (exfalso; omega) | skip) | (apply hK; clear hK K) | (clear hK K; apply hK; clear hK K)
      all_goals
        refine retQ_le (S' := ⟨[(4, .fp [Str tn, SL ta, .os rn 0 (L.length + 1) 2]), (5, SB true)], [(rn, .svs (zC (putL L x 0)))]⟩) ?_ ?_
        · refine St.le.trans (St.le_freezeP (i := 4) (b := b4) (off := 0) (n := 3) (k := .svs [Str tn, SL ta, .os rn 0 (L.length + 1) 2]) rfl (by simp [find_cons, hD]) (by exact Nat.le_refl 3)) ?_
          simp only [getN, Blk.get, go_sem, hD]
          exact St.le.trans (St.le_slist (h' := [(rn, .svs (zC (putL L x 0)))]) (List.Sublist.cons _ (List.Sublist.refl _))) (St.le_sub (by repeat' (first | exact rfl | exact trivial | constructor)))
        · simp only [resL_tmp, resL_cellE, resC_ok, resL_nil, tupOf, getN, go_sem, hD]
          first | exact .inr ⟨hm, rn, _, hin, rfl, rfl⟩ | exact ⟨hm, rn, _, hin, rfl, rfl⟩ | exact ⟨hm, _, hin, rfl⟩ | exact .inr ⟨hm, _, hin, rfl⟩
    | succ k =>
      have hpl := putL_len (L := L) (x := x) (k := k + 1) hk
      have g1 := zC_get (L := putL L x (k + 1)) (j := k + 1) (by omega)
      have g2 := zC_get (L := putL L x (k + 1)) (j := k) (by omega)
      rw [putL_at hk, hv] at g1
      rw [putL_bef hk] at g2
      have hyl := heq _ (getD_mem' [] (show k < L.length by omega))
      have ls := lists_r (x.map nvW) ((L.getD k []).map nvW) (szv_nv hx) (szv_nv (by omega))
      rw [lexV_nv hyl.symm, hv] at ls
      have hzn := zC_len (putL L x (k + 1))
      rw [hpl] at hzn
      obtain ⟨g1a, g1b⟩ := g1
      obtain ⟨g2a, g2b⟩ := g2
      have kp : (0 : Int) < ((k + 1 : Nat) : Int) := by omega
      have k00 : (0 : Int) ≤ ((k : Nat) : Int) := by omega
      have k01 : (0 : Int) ≤ ((k + 1 : Nat) : Int) := by omega
      have kl : ((k + 1 : Nat) : Int) < ((L.length + 1 : Nat) : Int) := by omega
      have kl2 : ((k : Nat) : Int) < ((L.length + 1 : Nat) : Int) := by omega
      have w1 : IntKind.i64.wrap (((k + 1 : Nat) : Int) - 1) = ((k : Nat) : Int) := by rw [i64_wrap (by omega) (by omega)]; omega
      have te1 : ((k + 1 : Nat) : Int).toNat = k + 1 := Int.toNat_natCast _
      have te2 : ((k : Nat) : Int).toNat = k := Int.toNat_natCast _
      have z1 : 0 + (k + 1) * 2 = (k + 1) * 2 := Nat.zero_add _
      have z2 : 0 + k * 2 = k * 2 := Nat.zero_add _
      have m1 : (k + 1) * 2 + 1 < (zC (putL L x (k + 1))).length := by omega
      have m2 : k * 2 + 1 < (zC (putL L x (k + 1))).length := by omega
      have s1 := zC_set (L := putL L x (k + 1)) (j := k + 1) (x := L.getD k []) (by omega)
      have s2 := zC_set (L := (putL L x (k + 1)).set (k + 1) (L.getD k [])) (j := k) (x := x) (by rw [List.length_set]; omega)
      rw [putL_swap (by omega), hv] at s2
      generalize hy : L.getD k [] = y at *
      by_cases hc : lexI x y < 0
      · have hgt' : ∀ j, k ≤ j → j < L.length → lexI x (L.getD j []) < 0 := fun j h1 h2 => by
          by_cases e : j = k
          · rw [e, hy]
            exact hc
          · exact hgt j (by omega) h2
        generalize lexI x y = c at ls hc
        generalize y.map nvW = Y at *
        repeat' first | (with_reducible refine And.intro (by omega) ?_) | (refine SW.seq_k fun K hK => ?_) | (refine SW.block ?_) | ((first | refine SW.region ?_ | refine SW.regionZ (id := 5) (Checked.mixed Tryz.checked) Go.Ab.zRC_1 (by kernel_rfl) ?_ | refine SW.regionZ (id := 7) (Checked.mixed Tryz.checked) ((.one 0 [0, 1, 18, 19, 20, 21] (.one 1 [1, 18, 19, 20, 21] (.one 2 [2, 18, 19, 20, 21] (.one 7 [7, 8, 11, 12, 18, 19, 20, 21] (.one 8 [8, 11, 12, 18, 19, 20, 21] (.one 9 [9, 10, 11, 12, 18, 19, 20, 21] (.one 10 [10, 11, 12, 18, 19, 20, 21] (.one 11 [11, 12, 18, 19, 20, 21] (.one 12 [12, 18, 19, 20, 21] (.one 13 [13, 14, 16, 17, 18, 19, 20, 21] (.one 14 [14, 16, 17, 18, 19, 20, 21] (.one 15 [15, 16, 17, 18, 19, 20, 21] (.one 16 [16, 17, 18, 19, 20, 21] (.one 17 [17, 18, 19, 20, 21] (.one 18 [18, 19, 20, 21] (.alt 3 (.alt 4 (.alt 5 (.alt 6 (.alt 19 (.one 20 [20, 21] (.alt 21 .done .nil)) .nil) (.alt 19 (.one 6 [6, 20, 21] (.one 20 [20, 21] (.alt 21 .done .nil))) .nil)) (.alt 19 (.one 5 [5, 6, 20, 21] (.one 6 [6, 20, 21] (.one 20 [20, 21] (.alt 21 .done .nil)))) .nil)) (.alt 5 (.alt 4 (.alt 6 (.alt 19 (.one 20 [20, 21] (.alt 21 .done .nil)) .nil) (.alt 19 (.one 6 [6, 20, 21] (.one 20 [20, 21] (.alt 21 .done .nil))) .nil)) (.alt 6 (.alt 4 (.alt 19 (.one 20 [20, 21] (.alt 21 .done .nil)) .nil) (.alt 19 (.one 4 [4, 20, 21] (.one 20 [20, 21] (.alt 21 .done .nil))) .nil)) (.alt 19 (.one 4 [4, 20, 21] (.one 6 [6, 20, 21] (.one 20 [20, 21] (.alt 21 .done .nil)))) .nil))) (.alt 19 (.one 4 [4, 20, 21] (.one 5 [5, 6, 20, 21] (.one 6 [6, 20, 21] (.one 20 [20, 21] (.alt 21 .done .nil))))) .nil))) (.alt 5 (.alt 3 (.alt 4 (.alt 6 (.alt 19 (.one 20 [20, 21] (.alt 21 .done .nil)) .nil) (.alt 19 (.one 6 [6, 20, 21] (.one 20 [20, 21] (.alt 21 .done .nil))) .nil)) (.alt 6 (.alt 4 (.alt 19 (.one 20 [20, 21] (.alt 21 .done .nil)) .nil) (.alt 19 (.one 4 [4, 20, 21] (.one 20 [20, 21] (.alt 21 .done .nil))) .nil)) (.alt 19 (.one 4 [4, 20, 21] (.one 6 [6, 20, 21] (.one 20 [20, 21] (.alt 21 .done .nil)))) .nil))) (.alt 6 (.alt 3 (.alt 4 (.alt 19 (.one 20 [20, 21] (.alt 21 .done .nil)) .nil) (.alt 19 (.one 4 [4, 20, 21] (.one 20 [20, 21] (.alt 21 .done .nil))) .nil)) (.alt 19 (.one 3 [3, 4, 20, 21] (.one 4 [4, 20, 21] (.one 20 [20, 21] (.alt 21 .done .nil)))) .nil)) (.alt 19 (.one 3 [3, 4, 20, 21] (.one 4 [4, 20, 21] (.one 6 [6, 20, 21] (.one 20 [20, 21] (.alt 21 .done .nil))))) .nil))) (.alt 19 (.one 3 [3, 4, 20, 21] (.one 4 [4, 20, 21] (.one 5 [5, 6, 20, 21] (.one 6 [6, 20, 21] (.one 20 [20, 21] (.alt 21 .done .nil)))))) .nil)))))))))))))))))) : OZ) (by kernel_rfl) ?_ | refine SW.cond ?_ | refine SW.skip ?_ | refine ⟨_, ls, ?_⟩); try simp only [Go.Ab.zRC_1, go_sem, hD, kp, k00, k01, kl, kl2, w1, te1, te2, z1, z2, m1, m2, g1a, g1b, g2a, g2b, hzn, hc, getN, true_implies]) | (apply hK; clear hK K) | (refine And.intro ?_ ?_)
        all_goals
          rw [s1, s2]
          exact Rnd.sub k (by omega) ((hJ _ _).2 ⟨k, rfl, by omega, hgt', rfl⟩) (by repeat' (first | exact rfl | exact trivial | constructor))
      · have hne : ¬ x = y := fun e => hm (by rw [e, ← hy]; exact getD_mem' [] (by omega))
        have hyx : lexI y x < 0 := by
          have a := lexI_neg x y
          have b : lexI x y ≠ 0 := fun e => hne (lexI_zero e)
          omega
        have hin := ins_put (k := k + 1) hk hL hgt (fun j hj => by
          by_cases e : j = k
          · rw [e, hy]
            exact hyx
          · have p := List.pairwise_iff_getElem.1 hL j k (by omega) (by omega) (by omega)
            rw [show L[j] = L.getD j [] by simp [List.getD_eq_getElem?_getD, show j < L.length by omega], show L[k] = L.getD k [] by simp [List.getD_eq_getElem?_getD, show k < L.length by omega], hy] at p
            exact lexI_trans p hyx)
        generalize y.map nvW = Y at *
        generalize lexI x y = c at ls hc
        repeat' first | (with_reducible refine And.intro (by omega) ?_) | (refine SW.seq_k fun K hK => ?_) | ((first | refine SW.region ?_ | refine SW.regionZ (id := 5) (Checked.mixed Tryz.checked) Go.Ab.zRC_1 (by kernel_rfl) ?_ | refine SW.cond ?_ | refine SW.exit ?_ | refine SW.ret ?_ | refine ⟨_, ls, ?_⟩); try simp only [Go.Ab.zRC_1, go_sem, hD, kp, k00, k01, kl, kl2, w1, te1, te2, z1, z2, m1, m2, g1a, g1b, g2a, g2b, hzn, hc, getN, true_implies]) | (apply hK; clear hK K) | (clear hK K; apply hK; clear hK K)
        all_goals
          refine retQ_le (S' := ⟨[(4, .fp [Str tn, SL ta, .os rn 0 (L.length + 1) 2]), (5, SB true)], [(rn, .svs (zC (putL L x (k + 1))))]⟩) ?_ ?_
          · refine St.le.trans (St.le_freezeP (i := 4) (b := b4) (off := 0) (n := 3) (k := .svs [Str tn, SL ta, .os rn 0 (L.length + 1) 2]) rfl (by simp [find_cons, hD]) (by exact Nat.le_refl 3)) ?_
            simp only [getN, Blk.get, go_sem, hD]
            exact St.le.trans (St.le_slist (h' := [(rn, .svs (zC (putL L x (k + 1))))]) (List.Sublist.cons _ (List.Sublist.refl _))) (St.le_sub (by repeat' (first | exact rfl | exact trivial | constructor)))
          · simp only [resL_tmp, resL_cellE, resC_ok, resL_nil, tupOf, getN, go_sem, hD]
            first | exact .inr ⟨hm, rn, _, hin, rfl, rfl⟩ | exact ⟨hm, rn, _, hin, rfl, rfl⟩ | exact ⟨hm, _, hin, rfl⟩ | exact .inr ⟨hm, _, hin, rfl⟩
end Go.Proofs.YtblfodnajpamfaaGreatDoor
namespace Go.Ab
open Go.RowKit
section
variable {P : Program} {M : Nat → Prop} {h : Heap} {w : World}
theorem Call.lendW [Gl] {f : FuncId} {args : List SV} {v : Value} (i : Nat) {b off len sz : Nat} {k : Blk} (g : Nat → List SV) (hi : i < args.length) (ha : args.getD i .any = .os b off len sz) (hk : h.find b = some k) (hle : off + len * sz ≤ k.len)
    (hg : ∀ j, j < len → (g j).length = sz ∧ ∀ q, q < sz → ∀ E u, Rep E u ((getN k (off + j * sz) sz).getD q .any) → Rep E u ((g j).getD q .any)) (hc : PCall P f (args.set i (.fl len sz g)) (.sc v)) : Call P f args h (fun r h' => r = .sc v ∧ h' = h) := by
  refine Call.lend i (fun j => getN k (off + j * sz) sz) hi ha hk hle (fun j hj => rfl) ⟨fun M w vs own hr => hc.out M w vs own ⟨by simpa using hr.1, fun j hj => ?_⟩⟩
  have h0 := hr.2 j (by simpa using hj)
  rw [getD_set hi] at h0 ⊢
  by_cases hij : i = j
  · rw [if_pos hij] at h0 ⊢
    generalize vs.getD j undef = u at h0 ⊢
    cases h0 with
    | fl0 a cap => exact .fl0 a cap sz g
    | fl b off _ cap _ _ val hc hsz hcell hrp =>
      exact .fl b off len cap sz g val hc (fun p hp => (hg p hp).1) hcell (fun p hp q hq => (hg p hp).2 q hq _ _ (hrp p hp q hq))
  · rw [if_neg hij] at h0 ⊢
    exact h0
end
end Go.Ab
namespace Go.Ab.A15
open Go Go.Ab Go.Ab.A34
abbrev Ft := Tb × Wt
def f0 : Ft := (t0, w0)
def eC (e : Ft) : List SV := [Str e.1.name, SL e.1.attrs, xC e.2.1 e.2.2]
def eH (zs : List Ft) : Heap := zs.flatMap fun e => xH e.2.1 e.2.2
def RH (tb : Nat) (zs : List Ft) : Heap := (tb, .svs (fC eC zs)) :: eH zs
theorem eC_len (x : Ft) : (eC x).length = 3 := rfl
theorem eC_set : ∀ (L : List Ft) (j : Nat) (v : Ft), j < L.length → (((fC eC L).set (j * 3) (Str v.1.name)).set (j * 3 + 1) (SL v.1.attrs)).set (j * 3 + 2) (xC v.2.1 v.2.2) = fC eC (L.set j v)
  | [], j, v, h => absurd h (Nat.not_lt_zero _)
  | x :: L, 0, v, h => rfl
  | x :: L, j + 1, v, h => by
    have := eC_set L j v (by simpa using h)
    unfold fC at *
    rw [List.set_cons_succ, List.flatMap_cons, List.flatMap_cons, ← this]
    show (((Str x.1.name :: SL x.1.attrs :: xC x.2.1 x.2.2 :: List.flatMap eC L).set ((j + 1) * 3) _).set ((j + 1) * 3 + 1) _).set ((j + 1) * 3 + 2) _ = Str x.1.name :: SL x.1.attrs :: xC x.2.1 x.2.2 :: _
    rw [show (j + 1) * 3 = j * 3 + 1 + 1 + 1 by omega]
    simp only [List.set_cons_succ]
    rfl
theorem eC_get {L : List Ft} {j : Nat} (h : j < L.length) : (fC eC L).getD (j * 3) .any = Str (L.getD j f0).1.name ∧ (fC eC L).getD (j * 3 + 1) .any = SL (L.getD j f0).1.attrs ∧ (fC eC L).getD (j * 3 + 2) .any = xC (L.getD j f0).2.1 (L.getD j f0).2.2 :=
  ⟨fC_get (enc := eC) (k := 3) eC_len f0 h (show 0 < 3 by omega), fC_get (enc := eC) (k := 3) eC_len f0 h (show 1 < 3 by omega), fC_get (enc := eC) (k := 3) eC_len f0 h (show 2 < 3 by omega)⟩
theorem eH_mid (A C : List Ft) (e : Ft) : eH (A ++ e :: C) = eH A ++ (xH e.2.1 e.2.2 ++ eH C) := by unfold eH; rw [List.flatMap_append, List.flatMap_cons]
structure RI (C : Nat → List Int → Prop) (ts : List Tb) (zs : List Ft) : Prop where
  e : zs.map (·.1) = ts
  s : ∀ s, s < zs.length → ((zs.getD s f0).2.2).Pairwise fun a b => lexI a b < 0
  c : ∀ s, s < zs.length → ∀ r ∈ (zs.getD s f0).2.2, C s r
def Sub (zs zs' : List Ft) : Prop := ∀ s, ∀ r ∈ (zs.getD s f0).2.2, r ∈ (zs'.getD s f0).2.2
theorem Sub.refl (zs : List Ft) : Sub zs zs := fun s r h => h
theorem Sub.trans {a b c : List Ft} (h : Sub a b) (h' : Sub b c) : Sub a c := fun s r x => h' s r (h s r x)
def totR (zs : List Ft) : Nat := (zs.map fun e => e.2.2.length).sum
theorem totR_mid (A C : List Ft) (e : Ft) : totR (A ++ e :: C) = totR A + (e.2.2.length + totR C) := by simp [totR]
theorem midR_get (A C : List Ft) (e e' : Ft) (s : Nat) : (A ++ e' :: C).getD s f0 = if s = A.length then e' else (A ++ e :: C).getD s f0 := by
  by_cases h : s = A.length
  · subst h
    simp [List.getD_eq_getElem?_getD]
  · rw [if_neg h]
    rcases Nat.lt_or_ge s A.length with h1 | h1
    · simp [List.getD_eq_getElem?_getD, List.getElem?_append_left h1]
    · obtain ⟨j, rfl⟩ : ∃ j, s = A.length + (j + 1) := ⟨s - A.length - 1, by omega⟩
      simp [List.getD_eq_getElem?_getD, List.getElem?_append_right]
theorem splitR_at {zs : List Ft} {t : Nat} (h : t < zs.length) : ∃ A e D, zs = A ++ e :: D ∧ A.length = t :=
  ⟨zs.take t, zs[t], zs.drop (t + 1), by rw [← List.drop_eq_getElem_cons h, List.take_append_drop], by rw [List.length_take]; omega⟩
theorem RI.add {C : Nat → List Int → Prop} {ts : List Tb} {A D : List Ft} {e : Ft} (h : RI C ts (A ++ e :: D)) {b : Nat} {M : List (List Int)} {x : List Int} (hi : Ins e.2.2 M x) (hc : C A.length x) :
    RI C ts (A ++ (e.1, b, M) :: D) ∧ Sub (A ++ e :: D) (A ++ (e.1, b, M) :: D) ∧ totR (A ++ (e.1, b, M) :: D) = totR (A ++ e :: D) + 1 ∧ (A ++ (e.1, b, M) :: D).length = (A ++ e :: D).length ∧ x ∈ ((A ++ (e.1, b, M) :: D).getD A.length f0).2.2 := by
  have hm : ∀ r, r ∈ M ↔ r = x ∨ r ∈ e.2.2 := fun r => by rw [hi.2.mem_iff, List.mem_cons]
  refine ⟨⟨?_, fun s hs => ?_, fun s hs => ?_⟩, fun s r hr => ?_, ?_, by simp, ?_⟩
  · rw [← h.e]; simp
  · rw [midR_get A D e]
    by_cases hsA : s = A.length
    · rw [if_pos hsA]; exact hi.1
    · rw [if_neg hsA]; exact h.s s (by simpa using hs)
  · rw [midR_get A D e]
    have hg := h.c s (by simpa using hs)
    by_cases hsA : s = A.length
    · rw [if_pos hsA]
      rw [midR_get A D e e, if_pos hsA] at hg
      subst hsA
      intro r hr
      rcases (hm r).1 hr with rfl | h2
      · exact hc
      · exact hg r h2
    · rw [if_neg hsA]; exact hg
  · rw [midR_get A D e]
    by_cases hsA : s = A.length
    · rw [if_pos hsA]
      rw [midR_get A D e e, if_pos hsA] at hr
      exact (hm r).2 (.inr hr)
    · rw [if_neg hsA]; exact hr
  · rw [totR_mid, totR_mid]
    have := hi.2.length_eq
    show totR A + (M.length + totR D) = _
    rw [this, List.length_cons]
    omega
  · rw [midR_get A D e, if_pos rfl]
    exact (hm x).2 (.inl rfl)
end Go.Ab.A15
namespace Go.Proofs.YtblfodnajpamfaaGreatDoor
open Go Go.Ab Go.Ab.A34 Go.Ab.A15
variable [Gl] [Tabs]
theorem table_a (x : ByteArray) (l : List Tb) (n : Nat) (hl : n ≤ 9223372036854775807) (hn : l.length = n) (f : Nat → List SV) (hf : ∀ i, i < n → f i = [Str (l.getD i t0).name, .any, .any]) : PCall Tryz.prog 52 [.fl n 3 f, Str x] (I64 (tabI x 0 l)) := by
  subst hn
  obtain ⟨R, hR⟩ : ∃ R, R = tabI x 0 l := ⟨_, rfl⟩
  rw [← hR]
  refine Call.enter' (N := 20) (rs := [.tmp 4]) Tryz.func52 rfl rfl rfl (by decide) rfl ?_; simp only [argT]; have hD : (0 : Nat) = 0 := rfl
  repeat' first | (refine SW.seq_k fun K hK => ?_) | (refine SW.block ?_) | (refine SW.region ?_; try simp only [go_sem, hD]) | (apply hK; clear hK K)
  obtain ⟨I, hI⟩ : ∃ I : Nat → St → Prop, ∀ k S, I k S ↔ (∃ (i : Nat) , k = l.length - i ∧ i ≤ l.length ∧ R = tabI x i (l.drop i) ∧ S = ⟨[(0, .fl l.length 3 f), (1, Str x), (5, I64 i)], []⟩) := ⟨fun k S => _, fun _ _ => Iff.rfl⟩
  refine SW.loop' I (l.length) ((hI _ _).2 ⟨0, rfl, Nat.zero_le _, by rw [List.drop_zero]; exact hR, rfl⟩) (by repeat' (first | exact rfl | exact trivial | constructor)) ?_
  intro k S hIn
  obtain ⟨i, rfl, hi, hC, rfl⟩ := (hI _ _).1 hIn
  clear hIn
  have ie : ((i : Nat) : Int).toNat = i := Int.toNat_natCast _
  have i0 : (0 : Int) ≤ ((i : Nat) : Int) := by omega
  clear hR
  by_cases hlt : i < l.length
  · have hli : ((i : Nat) : Int) < (((l.length) : Nat) : Int) := by omega
    have w1 : IntKind.i64.wrap ((i : Int) + 1) = ((i + 1 : Nat) : Int) := by rw [i64_wrap (by omega) (by omega)]; omega
    rw [tabI_step hlt] at hC
    have fi := hf i hlt
    generalize l.getD i t0 = t at *
    obtain ⟨a, b, c⟩ := t
    simp only at hC fi
    by_cases he : a = x
    · rw [if_pos he] at hC
      have ee : (a.toList == x.toList) = true := barr_eq.2 he
      subst hC
      repeat' first | (refine SW.seq_k fun K hK => ?_) | (refine SW.block ?_) | ((first | refine SW.region ?_ | refine SW.cond ?_ | refine SW.skip ?_ | refine SW.ret ?_); try simp only [go_sem, hD, hli, ie, i0, w1, fi, ee]) | (apply hK; clear hK K)
      refine ret_pure ?_; simp only [resL_tmp, resL_nil, tupOf, go_sem, hD]
    · rw [if_neg he] at hC
      have ee : (a.toList == x.toList) = false := by rw [Bool.eq_false_iff]; exact fun h => he (barr_eq.1 h)
      repeat' first | (refine SW.seq_k fun K hK => ?_) | (refine SW.block ?_) | ((first | refine SW.region ?_ | refine SW.cond ?_ | refine SW.skip ?_); try simp only [go_sem, hD, hli, ie, i0, w1, fi, ee]) | (apply hK; clear hK K)
      refine Rnd.sub (l.length - (i + 1)) (by omega) ((hI _ _).2 ⟨i + 1, rfl, by omega, hC, rfl⟩) (by repeat' (first | exact rfl | exact trivial | constructor))
  · have hli : ¬ ((i : Nat) : Int) < (((l.length) : Nat) : Int) := by omega
    rw [List.drop_of_length_le (by omega)] at hC
    have hC2 : R = -1 := hC
    subst hC2
    repeat' first | (refine SW.seq_k fun K hK => ?_) | ((first | refine SW.region ?_ | refine SW.cond ?_ | refine SW.exit ?_ | refine SW.ret ?_); try simp only [go_sem, hD, hli]) | (apply hK; clear hK K) | (clear hK K; apply hK; clear hK K)
    refine ret_pure ?_; simp only [resL_tmp, resL_nil, tupOf, go_sem, hD]
theorem table_o (x : ByteArray) (tb : Nat) (H : Heap) (ts : List Tb) (zs : List Ft) (he : zs.map (·.1) = ts) (hl : zs.length ≤ 1000) (hH : H.find tb = some (.svs (fC eC zs))) : Ab.Call Tryz.prog 52 [.os tb 0 zs.length 3, Str x] H (fun r h' => r = I64 (tabI x 0 ts) ∧ h' = H) := by
  have hlt : ts.length = zs.length := by rw [← he, List.length_map]
  have c := table_a x ts zs.length (by omega) hlt (fun i => [Str (ts.getD i t0).name, .any, .any]) (fun i hi => rfl)
  refine Call.lendW (args := [.os tb 0 zs.length 3, Str x]) (k := .svs (fC eC zs)) (off := 0) (sz := 3) 0 (fun i => [Str (ts.getD i t0).name, .any, .any]) (by simp) rfl hH (by rw [Blk.len_svs, ← fC_len (enc := eC) (k := 3) eC_len]; omega) (fun j hj => ⟨rfl, fun q hq E u hu => ?_⟩) c
  have h1 : (fC eC zs).length = zs.length * 3 := (fC_len (enc := eC) (k := 3) eC_len zs).symm
  rw [getN_take _ _ _ (by rw [Blk.len_svs]; omega), Nat.zero_add, Blk.cells, ← fC_at (enc := eC) (k := 3) eC_len f0 zs j hj] at hu
  have hj2 : (zs.getD j f0).1 = ts.getD j t0 := by rw [← he]; simp [List.getD_eq_getElem?_getD, hj]
  match q, hq, hu with
  | 0, _, hu => rw [← hj2]; exact hu
  | 1, _, hu => exact .any _
  | 2, _, hu => exact .any _
theorem add_any (tn : ByteArray) (ta : List ByteArray) (rb : Nat) (L : List (List Int)) (x : List Int) (hx : x.length ≤ 1000) (hln : L.length ≤ 1000) (heq : ∀ y ∈ L, y.length = x.length) (hL : L.Pairwise fun a b => lexI a b < 0) :
    Ab.Call Tryz.prog 53 [.agg [Str tn, SL ta, xC rb L], VL (x.map nvW)] (xH rb L) (fun r h' => ∃ b M g, r = .tup [.agg [Str tn, SL ta, xC b M], SB g] ∧ h' = xH b M ∧ ((g = false ∧ x ∈ L ∧ b = rb ∧ M = L) ∨ (g = true ∧ x ∉ L ∧ Ins L M x))) := by
  by_cases h : L = []
  · subst h
    refine Call.mono (add_nilr tn ta 0 x hx) fun r h' ⟨b, h1, h2⟩ => ⟨b, [x], true, h1, h2, .inr ⟨rfl, by simp, by constructor <;> simp⟩⟩
  · have e1 : ∀ b, xC b L = .os b 0 L.length 2 := fun b => if_neg h
    have e2 : ∀ b, xH b L = [(b, .svs (zC L))] := fun b => if_neg h
    rw [e1, e2]
    refine Call.mono (add_ownr tn ta rb L x hx hln heq hL) fun r h' hq => ?_
    rcases hq with ⟨hm, h1, h2⟩ | ⟨hm, b, M, hi, h1, h2⟩
    · exact ⟨rb, L, false, by rw [e1]; exact h1, by rw [e2]; exact h2, .inl ⟨rfl, hm, rfl, rfl⟩⟩
    · have hM : M.length = L.length + 1 := hi.2.length_eq
      have hn : ¬ M = [] := fun e => by rw [e] at hM; simp at hM
      exact ⟨b, M, true, by rw [show xC b M = .os b 0 M.length 2 from if_neg hn, hM]; exact h1, by rw [show xH b M = [(b, .svs (zC M))] from if_neg hn]; exact h2, .inr ⟨rfl, hm, hi⟩⟩
end Go.Proofs.YtblfodnajpamfaaGreatDoor
namespace Go.Ab
open Go.RowKit
section
variable {P : Program} {h : Heap}
theorem Call.permO [Gl] {f : FuncId} {args : List SV} {Q Q' : SV → Heap → Prop} (hc : Call P f args h Q) (hq : ∀ r h', Q r h' → ∃ h2, h2.Perm h' ∧ ((h2.map (·.1)).Nodup → Q' r h2)) : Call P f args h Q' :=
  ⟨fun M w vs own hr => (hc.out M w vs own hr).mono fun _ w' ⟨v, r, h', h1, h2, h3, o1, frm, hh⟩ => by
    obtain ⟨h4, hp, hq'⟩ := hq _ _ h2
    have hhas : h4.has = h'.has := by funext b; unfold Heap.has; exact propext ⟨fun ⟨k, hk⟩ => ⟨k, hp.mem_iff.1 hk⟩, fun ⟨k, hk⟩ => ⟨k, hp.mem_iff.2 hk⟩⟩
    have hhid : hid M h4 = hid M h' := by funext b; simp only [hid, hhas]
    have hn := (hp.map (·.1)).nodup_iff.2 o1.nodup
    exact ⟨v, r, h4, h1, hq' hn, by rw [hhid]; exact h3, ⟨hn, fun b hb => o1.notM b (hhas ▸ hb), o1.lt, fun b k hk hM => by rw [hhid]; exact o1.ok b k (hp.mem_iff.1 hk) hM, fun b l hk => o1.mp b l (hp.mem_iff.1 hk), by rw [hhid]; exact o1.gl⟩, frm, fun b hb => hh b (hhas ▸ hb)⟩⟩
theorem SW.mid [Gl] {N : Nat} {Q : Exit → St → Prop} {y : Code} {K : St → Prop} {G : Prop} (hK : ∀ S, SW P N y Q S → K S) (mid : St) (h1 : (∀ S, S.le mid → K S) → G) (h2 : SW P N y Q mid) : G := h1 fun S hS => hK S (SW.le hS h2)
theorem SW.midf [Gl] {N : Nat} {Q : Exit → St → Prop} {y : Code} {K : St → Prop} {G : Prop} (hK : ∀ S, SW P N y Q S → K S) (R : St → Prop) (h1 : (∀ S, R S → K S) → G) (h2 : ∀ S, R S → SW P N y Q S) : G := h1 fun S hS => hK S (h2 S hS)
end
end Go.Ab
namespace Go.Ab.A15
open Go Go.Ab Go.Ab.A34
theorem find_eH {zs : List Ft} {s : Nat} (hn : ((eH zs).map (·.1)).Nodup) (hs : s < zs.length) (h0 : ¬ (zs.getD s f0).2.2 = []) : (eH zs).find (zs.getD s f0).2.1 = some (.svs (zC (zs.getD s f0).2.2)) := by
  have g : zs.getD s f0 = zs[s] := by simp [List.getD_eq_getElem?_getD, hs]
  rw [g] at h0 ⊢
  refine find_of_mem hn ?_
  unfold eH
  rw [List.mem_flatMap]
  exact ⟨zs[s], List.getElem_mem hs, by unfold xH; rw [if_neg h0]; exact List.mem_singleton.2 rfl⟩
theorem zC_all (L : List (List Int)) : (zC L).all single = true := by
  rw [List.all_eq_true]
  intro x hx
  unfold zC fC at hx
  rw [List.mem_flatMap] at hx
  obtain ⟨r, _, hr⟩ := hx
  rcases List.mem_cons.1 hr with rfl | hr
  · rfl
  · rcases List.mem_cons.1 hr with rfl | hr
    · rfl
    · cases hr
theorem perm4 {α : Type} (E : List α) (p A D : List α) : (E ++ (p ++ (A ++ D))).Perm (p ++ (A ++ (E ++ D))) := by
  rw [← List.append_assoc, ← List.append_assoc p A (E ++ D)]
  refine (List.perm_append_comm.append_right _).trans ?_
  rw [List.append_assoc, List.append_assoc]
  refine List.Perm.append_left p ?_
  rw [← List.append_assoc, ← List.append_assoc]
  exact List.perm_append_comm.append_right D
end Go.Ab.A15
def Go.Ab.zRE_1 : Go.Ab.OZ := (.one 0 [0, 14, 15] (.one 1 [1, 3, 4, 5, 11, 12, 13, 14, 15] (.one 2 [2, 3, 4, 5, 11, 12, 13, 14, 15] (.one 3 [3, 4, 5, 11, 12, 13, 14, 15] (.one 4 [4, 5, 11, 12, 13, 14, 15] (.one 5 [5, 11, 12, 13, 14, 15] (.one 6 [6, 7, 9, 10, 11, 12, 13, 14, 15] (.one 7 [7, 9, 10, 11, 12, 13, 14, 15] (.one 8 [8, 9, 10, 11, 12, 13, 14, 15] (.one 9 [9, 10, 11, 12, 13, 14, 15] (.one 10 [10, 11, 12, 13, 14, 15] (.one 11 [11, 12, 13, 14, 15] (.one 12 [12, 13, 14, 15] (.alt 13 (.alt 14 (.one 15 [15] .done) .nil) .nil))))))))))))))
namespace Go.Proofs.YtblfodnajpamfaaGreatDoor
open Go Go.Ab Go.Ab.A34 Go.Ab.A15
variable [Gl] [Tabs]
theorem add_e (p : Heap) (A D : List Ft) (e : Ft) (x : List Int) (hx : x.length ≤ 1000) (hln : e.2.2.length ≤ 1000) (heq : ∀ y ∈ e.2.2, y.length = x.length) (hL : e.2.2.Pairwise fun a b => lexI a b < 0) :
    Ab.Call Tryz.prog 53 [.agg [Str e.1.name, SL e.1.attrs, xC e.2.1 e.2.2], VL (x.map nvW)] (p ++ eH (A ++ e :: D)) (fun r h' => ∃ b M g, r = .tup [.agg [Str e.1.name, SL e.1.attrs, xC b M], SB g] ∧ h' = p ++ eH (A ++ (e.1, b, M) :: D) ∧ (h'.map (·.1)).Nodup ∧ ((g = false ∧ x ∈ e.2.2 ∧ b = e.2.1 ∧ M = e.2.2) ∨ (g = true ∧ x ∉ e.2.2 ∧ Ins e.2.2 M x))) := by
  have hp := fun (e' : Ft) => perm4 (xH e'.2.1 e'.2.2) p (eH A) (eH D)
  rw [eH_mid]
  refine Call.permN ?_ (hp e)
  refine Call.permO (Call.frameN (h2 := p ++ (eH A ++ eH D)) (add_any e.1.name e.1.attrs e.2.1 e.2.2 x hx hln heq hL)) fun r h' ⟨h1, he, ⟨b, M, g, h3, h4, h5⟩, hnd⟩ => ?_
  subst h4 he
  refine ⟨p ++ eH (A ++ (e.1, b, M) :: D), ?_, fun hn => ⟨b, M, g, h3, rfl, hn, h5⟩⟩
  rw [eH_mid]
  exact (hp (e.1, b, M)).symm
theorem eH_nodup {x y : Nat × Blk} {zs : List Ft} (h : ((x :: y :: eH zs).map (·.1)).Nodup) : ((eH zs).map (·.1)).Nodup := by
  simp only [List.map_cons, List.nodup_cons] at h
  exact h.2.2
theorem step_r (tb : Nat) (ts : List Tb) (zs : List Ft) (d : Dp) (f t : Nat) (C : Nat → List Int → Prop)
    (hI0 : RI C ts zs) (hNN : zs.length ≤ 1000) (hf : f < zs.length) (ht : t < zs.length) (ef : tabI d.f 0 ts = f) (et : tabI d.t 0 ts = t)
    (hlr : d.l.length = d.r.length) (hrl : d.r.length ≤ 1000) (hnt : (ts.getD t t0).attrs.length ≤ 1000) (hra : ∀ a ∈ d.r, 0 ≤ a ∧ a < (ts.getD t t0).attrs.length)
    (hCl : ∀ r, C f r → ∀ a ∈ d.l, 0 ≤ a ∧ a < r.length) (hCn : ∀ r, C t r → r.length = (ts.getD t t0).attrs.length) (hCb : ∀ s (L : List (List Int)), (L.Pairwise fun a b => lexI a b < 0) → (∀ r ∈ L, C s r) → L.length ≤ 64) (hcl : ∀ r, C f r → C t (imgR (ts.getD t t0).attrs.length d r)) :
    Ab.Call Tryz.prog 55 [.agg [.os tb 0 zs.length 3], DV d] (RH tb zs) (fun r h' => ∃ zs' g, r = SB g ∧ h'.Perm (RH tb zs') ∧ RI C ts zs' ∧ zs'.length = zs.length ∧ Sub zs zs' ∧
      (g = false → zs' = zs ∧ (∀ r ∈ (zs.getD f f0).2.2, imgR (ts.getD t t0).attrs.length d r ∈ (zs.getD t f0).2.2)) ∧ (g = true → totR zs < totR zs')) := by
  have cf := fun H hH => table_o d.f tb H ts zs hI0.e hNN hH
  have ct := fun H hH => table_o d.t tb H ts zs hI0.e hNN hH
  rw [ef] at cf
  rw [et] at ct
  have te : ((t : Nat) : Int).toNat = t := Int.toNat_natCast _
  have fe : ((f : Nat) : Int).toNat = f := Int.toNat_natCast _
  have t0q : (0 : Int) ≤ ((t : Nat) : Int) := by omega
  have f0q : (0 : Int) ≤ ((f : Nat) : Int) := by omega
  have fl1 : ((f : Nat) : Int) < ((zs.length : Nat) : Int) := by omega
  have tl1 : ((t : Nat) : Int) < ((zs.length : Nat) : Int) := by omega
  have hcf := eC_get hf
  have hzl : (fC eC zs).length = zs.length * 3 := (fC_len (enc := eC) (k := 3) eC_len zs).symm
  have hLs := hI0.s f hf
  have hLc := hI0.c f hf
  have hLb := hCb f _ hLs hLc
  obtain ⟨F, hF⟩ : ∃ F, F = imgR (ts.getD t t0).attrs.length d := ⟨_, rfl⟩
  have hpad := fun r => pad_img (n := (ts.getD t t0).attrs.length) (d := d) (r := r) hlr
  rw [← hF] at hcl hpad ⊢
  have hcp := fun v (hv : d.r.length ≤ v.length) => padded_r (ts.getD t t0).attrs.length d.r v hnt hrl hv
  obtain ⟨df, dl, dt, dr⟩ := d
  simp only at cf ct hlr hrl hra hCl hcl hpad hcp ⊢
  clear hF
  obtain ⟨g1, g2, g3⟩ := hcf
  have z0 : 0 + f * 3 = f * 3 := Nat.zero_add _
  have mf : f * 3 + 2 < (fC eC zs).length := by omega
  refine Call.nd fun hnd => ?_
  have hfH := fun h => find_eH (s := f) (eH_nodup (x := (0, .svs [])) (y := (0, .svs [])) (zs := zs) h) hf
  have htb : fresh (eH zs) tb := fresh_of_nodup hnd
  have hnE : ((eH zs).map (·.1)).Nodup := by
    unfold RH at hnd
    rw [List.map_cons, List.nodup_cons] at hnd
    exact hnd.2
  have hfE := find_eH (s := f) hnE hf
  clear hfH hnd
  generalize zs.getD f f0 = e at *
  obtain ⟨⟨en, ea, er⟩, rb, L⟩ := e
  simp only at g1 g2 g3 hLs hLc hLb hfE ⊢
  unfold RH
  refine Call.enter' (N := 90) (rs := [.tmp 4]) Tryz.func55 rfl rfl rfl (by decide) rfl ?_; simp only [argT]; have hD : (0 : Nat) = 0 := rfl
  repeat' first | (refine SW.seq_k fun K hK => ?_) | ((first | refine SW.region ?_ | (refine allF_i fun b hb => ?_; replace hD := And.intro hb hD; clear hb; try simp only [fresh_cons, fresh_nil, and_true, ne_eq, neF] at hD)); try simp only [go_sem, hD, true_implies]) | (apply hK; clear hK K)
  obtain ⟨b3, rfl⟩ : ∃ x, x = b := ⟨_, rfl⟩
  obtain ⟨b2, rfl⟩ : ∃ x, x = b := ⟨_, rfl⟩
  refine Ab.SW.le (St.le_freezeP (i := 3) (n := 4) rfl (by rw [find_cons, if_pos rfl]) (by exact Nat.le_refl 4)) ?_
  rw [del_head]
  simp only [getN, Blk.get]
  refine SW.mid hK ⟨[(2, .op b2 0), (3, .fp [Str df, IL dl, Str dt, IL dr]), (4, SB false), (5, I64 f), (6, I64 t)], (b2, .svs [.os tb 0 zs.length 3]) :: (tb, .svs (fC eC zs)) :: eH zs⟩ (fun hK1 => ?_) ?_
  · clear hK
    have hK := hK1
    clear hK1
    repeat' first | ((refine Call.mono (cf _ (by simp [find_cons, hD])) ?_); (intro r h' hx); (obtain ⟨rfl, rfl⟩ := hx); (try simp only [go_sem, hD])) | ((refine Call.mono (ct _ (by simp [find_cons, hD])) ?_); (intro r h' hx); (obtain ⟨rfl, rfl⟩ := hx); (try simp only [go_sem, hD])) | (refine SW.regionY [4, 9] (id := 1) (Checked.mixed Tryz.checked) ((.one 0 [0, 1, 4, 9, 10, 11] (.one 1 [1, 4, 9, 10, 11] (.one 2 [2, 3, 4, 9, 10, 11] (.one 3 [3, 4, 9, 10, 11] (.alt 4 true (.one 5 [5, 6, 9, 10, 11] (.one 6 [6, 9, 10, 11] (.one 7 [7, 8, 9, 10, 11] (.one 8 [8, 9, 10, 11] (.alt 9 true (.one 10 [10, 11] (.one 11 [11] .done)) .nil))))) (.alt 5 false (.alt 4 true (.one 6 [6, 9, 10, 11] (.one 7 [7, 8, 9, 10, 11] (.one 8 [8, 9, 10, 11] (.alt 9 true (.one 10 [10, 11] (.one 11 [11] .done)) .nil)))) (.alt 6 false (.alt 4 true (.one 7 [7, 8, 9, 10, 11] (.one 8 [8, 9, 10, 11] (.alt 9 true (.one 10 [10, 11] (.one 11 [11] .done)) .nil))) (.alt 7 false (.alt 4 true (.one 8 [8, 9, 10, 11] (.alt 9 true (.one 10 [10, 11] (.one 11 [11] .done)) .nil)) (.alt 8 false (.alt 4 true (.alt 9 true (.one 10 [10, 11] (.one 11 [11] .done)) .nil) .nil) .nil)) .nil)) (.alt 7 false (.alt 4 true (.one 6 [6, 9, 10, 11] (.one 8 [8, 9, 10, 11] (.alt 9 true (.one 10 [10, 11] (.one 11 [11] .done)) .nil))) (.alt 6 false (.alt 4 true (.one 8 [8, 9, 10, 11] (.alt 9 true (.one 10 [10, 11] (.one 11 [11] .done)) .nil)) (.alt 8 false (.alt 4 true (.alt 9 true (.one 10 [10, 11] (.one 11 [11] .done)) .nil) .nil) .nil)) (.alt 8 false (.alt 4 true (.one 6 [6, 9, 10, 11] (.alt 9 true (.one 10 [10, 11] (.one 11 [11] .done)) .nil)) (.alt 6 false (.alt 4 true (.alt 9 true (.one 10 [10, 11] (.one 11 [11] .done)) .nil) .nil) .nil)) .nil))) .nil))) (.alt 7 false (.alt 4 true (.one 5 [5, 6, 9, 10, 11] (.one 6 [6, 9, 10, 11] (.one 8 [8, 9, 10, 11] (.alt 9 true (.one 10 [10, 11] (.one 11 [11] .done)) .nil)))) (.alt 5 false (.alt 4 true (.one 6 [6, 9, 10, 11] (.one 8 [8, 9, 10, 11] (.alt 9 true (.one 10 [10, 11] (.one 11 [11] .done)) .nil))) (.alt 6 false (.alt 4 true (.one 8 [8, 9, 10, 11] (.alt 9 true (.one 10 [10, 11] (.one 11 [11] .done)) .nil)) (.alt 8 false (.alt 4 true (.alt 9 true (.one 10 [10, 11] (.one 11 [11] .done)) .nil) .nil) .nil)) (.alt 8 false (.alt 4 true (.one 6 [6, 9, 10, 11] (.alt 9 true (.one 10 [10, 11] (.one 11 [11] .done)) .nil)) (.alt 6 false (.alt 4 true (.alt 9 true (.one 10 [10, 11] (.one 11 [11] .done)) .nil) .nil) .nil)) .nil))) (.alt 8 false (.alt 4 true (.one 5 [5, 6, 9, 10, 11] (.one 6 [6, 9, 10, 11] (.alt 9 true (.one 10 [10, 11] (.one 11 [11] .done)) .nil))) (.alt 5 false (.alt 4 true (.one 6 [6, 9, 10, 11] (.alt 9 true (.one 10 [10, 11] (.one 11 [11] .done)) .nil)) (.alt 6 false (.alt 4 true (.alt 9 true (.one 10 [10, 11] (.one 11 [11] .done)) .nil) .nil) .nil)) .nil)) .nil))) .nil))))))) : OY) (by kernel_rfl) ?_; try simp only [go_sem, hD, true_implies]) | (apply hK; clear hK K) | (refine And.intro ?_ ?_)
    all_goals
      exact St.le_sub (by repeat' (first | exact rfl | exact trivial | constructor))
  clear hK K
  refine SW.seq_k fun K hK => ?_
  refine SW.midf hK (fun S => ∃ cb, ¬ cb = b2 ∧ ¬ cb = tb ∧ S.le ⟨[(2, .op b2 0), (3, .fp [Str df, IL dl, Str dt, IL dr]), (4, SB false), (5, I64 f), (6, I64 t), (7, .os cb 0 L.length 2)], (cb, .svs (zC L)) :: (b2, .svs [.os tb 0 zs.length 3]) :: (tb, .svs (fC eC zs)) :: eH zs⟩) (fun hK1 => ?_) ?_
  · clear hK
    have hK := hK1
    clear hK1
    by_cases h0 : L = []
    · have hx : xC rb L = SN := if_pos h0
      have hz : zC L = [] := by rw [h0]; rfl
      rw [hx] at g3
      subst h0
      repeat' first | (with_reducible refine And.intro (by omega) ?_) | ((first | refine SW.region ?_ | (refine allF_i fun b hb => ?_; replace hD := And.intro hb hD; clear hb; try simp only [fresh_cons, fresh_nil, and_true, ne_eq, neF] at hD) | simp only [appK, appOsK]); try simp only [go_sem, hD, true_implies, te, fe, t0q, f0q, fl1, tl1, z0, mf, hzl, g3, hf, ht]) | (apply hK; clear hK K)
      all_goals
        exact ⟨_, by simp [hD], by simp [hD], St.le_sub (by repeat' (first | exact rfl | exact trivial | constructor))⟩
    · have hx : xC rb L = .os rb 0 L.length 2 := if_neg h0
      have hfE := hfE h0
      have hfr : ∀ b, fresh (eH zs) b → (b = rb) = False := fun b hb => eq_false (fresh_ne_find hb hfE)
      rw [hx] at g3
      have ht2 := hfr tb htb
      have hzl2 := zC_len L
      have bb : L.length * 32 ≤ 140737488355328 := by omega
      have hgn : getN (.svs (zC L)) 0 (L.length * 2) = zC L := by rw [getN_take _ _ _ (by rw [Blk.len_svs]; omega), List.drop_zero, Blk.cells, List.take_of_length_le (by omega)]
      have hza : (zC L).all single = true := zC_all L
      repeat' first | (with_reducible refine And.intro (by omega) ?_) | ((first | refine SW.region ?_ | (refine allF_i fun b hb => ?_; replace hD := And.intro hb hD; clear hb; try simp only [fresh_cons, fresh_nil, and_true, ne_eq, neF] at hD) | simp only [appK, appOsK]); try simp only [go_sem, hD, true_implies, te, fe, t0q, f0q, fl1, tl1, z0, mf, hzl, g3, hf, ht, hfr, ht2, hfE, hzl2, bb, hgn, hza]) | (apply hK; clear hK K)
      all_goals
        exact ⟨_, by simp [hD], by simp [hD], St.le_sub (by repeat' (first | exact rfl | exact trivial | constructor))⟩
  clear hK K
  rintro S ⟨cb, c1, c2, hS⟩
  refine Ab.SW.le hS ?_
  clear hS S
  have c3 : ¬ b2 = tb := by simp [hD]
  clear hD
  have hD := And.intro (And.intro (eq_false c1) (eq_false (Ne.symm c1))) (And.intro (And.intro (eq_false c2) (eq_false (Ne.symm c2))) (And.intro (eq_false c3) (eq_false (Ne.symm c3))))
  repeat' first | (refine SW.seq_k fun K hK => ?_) | (refine SW.block ?_) | (refine SW.region ?_; try simp only [go_sem, hD, true_implies]) | (apply hK; clear hK K)
  obtain ⟨I, hI⟩ : ∃ I : Nat → St → Prop, ∀ k S, I k S ↔ (∃ (i : Nat) (wl : List Ft) (g : Bool), k = L.length - i ∧ i ≤ L.length ∧ RI C ts wl ∧ wl.length = zs.length ∧ Go.Ab.A15.Sub zs wl ∧ (∀ j, j < i → F (L.getD j []) ∈ (wl.getD t f0).2.2) ∧ (g = false → wl = zs) ∧ (g = true → totR zs < totR wl) ∧ S = ⟨[(2, .op b2 0), (3, .fp [Str df, IL dl, Str dt, IL dr]), (4, SB false), (5, I64 f), (6, I64 t), (7, .os cb 0 L.length 2), (8, SB g), (9, I64 i)], (cb, .svs (zC L)) :: (b2, .svs [.os tb 0 zs.length 3]) :: (tb, .svs (fC eC wl)) :: eH wl⟩) := ⟨fun k S => _, fun _ _ => Iff.rfl⟩
  refine SW.loop' I (L.length) ((hI _ _).2 ⟨0, zs, false, rfl, Nat.zero_le _, hI0, rfl, Go.Ab.A15.Sub.refl _, (fun j hj => absurd hj (Nat.not_lt_zero _)), (fun _ => rfl), (fun h => by cases h), rfl⟩) (by repeat' (first | exact rfl | exact trivial | constructor)) ?_
  intro k S hIn
  obtain ⟨i, wl, g, rfl, hi, hRI, hL, hSb, him, hg0, hg1, rfl⟩ := (hI _ _).1 hIn
  clear hIn
  have ie : ((i : Nat) : Int).toNat = i := Int.toNat_natCast _
  have i0 : (0 : Int) ≤ ((i : Nat) : Int) := by omega
  by_cases hlt : i < L.length
  · have hli : ((i : Nat) : Int) < ((L.length : Nat) : Int) := by omega
    have w1 : IntKind.i64.wrap ((i : Int) + 1) = ((i + 1 : Nat) : Int) := by rw [i64_wrap (by omega) (by omega)]; omega
    have gz := zC_get hlt
    have hzl2 := zC_len L
    have hri : L.getD i [] ∈ L := getD_mem' [] hlt
    have hrl2 := hCl _ (hLc _ hri)
    have hFr := hcl _ (hLc _ hri)
    have hpr := hpad (L.getD i [])
    obtain ⟨r, hr⟩ : ∃ r, r = L.getD i [] := ⟨_, rfl⟩
    rw [← hr] at gz hrl2 hFr hpr
    obtain ⟨V, hV⟩ : ∃ V : List V3, V = dl.map fun a => nvW (r.getD a.toNat 0) := ⟨_, rfl⟩
    rw [← hV] at hpr
    have hVl : V.length = dl.length := by rw [hV, List.length_map]
    have hVg : ∀ k, k < dl.length → V.getD k v0 = nvW (r.getD (dl.getD k 0).toNat 0) := fun k hk => by rw [hV]; simp [List.getD_eq_getElem?_getD, hk]
    have c54 := hcp V (by omega)
    rw [hpr] at c54
    clear hpr hV
    have hrml : (r.map nvW).length = r.length := List.length_map _
    have hrg : ∀ k, k < r.length → (r.map nvW).getD k v0 = nvW (r.getD k 0) := fun k hk => by simp [List.getD_eq_getElem?_getD, hk]
    obtain ⟨gz1, gz2⟩ := gz
    have zi : 0 + i * 2 = i * 2 := Nat.zero_add _
    have mi : i * 2 + 1 < (zC L).length := by omega
    repeat' first | (refine SW.seq_k fun K hK => ?_) | (refine SW.block ?_) | ((first | refine SW.region ?_ | refine SW.cond ?_ | refine SW.skip ?_); try simp only [go_sem, hD, hli, true_implies]) | (apply hK; clear hK K)
    have hIO := hI
    have ow1 := w1
    have oi0 := i0
    have oie := ie
    have oli := hli
    have ohD := hD
    clear hI
    obtain ⟨I, hI⟩ : ∃ I : Nat → St → Prop, ∀ k S, I k S ↔ (∃ (m : Nat) (x : SV) (h : Heap), k = dl.length - m ∧ m ≤ dl.length ∧ ((m = 0 ∧ x = SN ∧ h = (cb, .svs (zC L)) :: (b2, .svs [.os tb 0 zs.length 3]) :: (tb, .svs (fC eC wl)) :: eH wl) ∨ (0 < m ∧ ∃ g1, fresh [(cb, .svs []), (b2, .svs []), (tb, .svs [])] g1 ∧ x = .os g1 0 m 3 ∧ h = (g1, .svs (vCs (V.take m))) :: (cb, .svs (zC L)) :: (b2, .svs [.os tb 0 zs.length 3]) :: (tb, .svs (fC eC wl)) :: eH wl)) ∧ S = ⟨[(2, .op b2 0), (3, .fp [Str df, IL dl, Str dt, IL dr]), (4, SB false), (5, I64 f), (6, I64 t), (7, .os cb 0 L.length 2), (8, SB g), (9, I64 i), (10, x), (11, I64 m)], h⟩) := ⟨fun k S => _, fun _ _ => Iff.rfl⟩
    refine SW.loop' I (dl.length) ((hI _ _).2 ⟨0, SN, _, rfl, Nat.zero_le _, .inl ⟨rfl, rfl, rfl⟩, rfl⟩) (by repeat' (first | exact rfl | exact trivial | constructor)) ?_
    intro k S hIn
    obtain ⟨m, x, h, rfl, hi, hB, rfl⟩ := (hI _ _).1 hIn
    clear hIn
    have ie : ((m : Nat) : Int).toNat = m := Int.toNat_natCast _
    have i0 : (0 : Int) ≤ ((m : Nat) : Int) := by omega
    by_cases hlm : m < dl.length
    · have hli : ((m : Nat) : Int) < (((dl.length) : Nat) : Int) := by omega
      have w1 : IntKind.i64.wrap ((m : Int) + 1) = ((m + 1 : Nat) : Int) := by rw [i64_wrap (by omega) (by omega)]; omega
      have fm : iF dl m = [I64 (dl.getD m 0)] := rfl
      have hx := hrl2 _ (getD_mem' 0 hlm)
      have hvm := hVg m hlm
      have htm : V.take (m + 1) = V.take m ++ [V.getD m v0] := by
        rw [List.take_add_one, List.getD_eq_getElem?_getD, List.getElem?_eq_getElem (by omega)]
        rfl
      rw [hvm] at htm
      generalize dl.getD m 0 = a at *
      obtain ⟨a0, a1⟩ := hx
      have ar : a < (((r.map nvW).length : Nat) : Int) := by omega
      have fv : vF (r.map nvW) a.toNat = [I64 1, I64 (r.getD a.toNat 0), Str ⟨#[]⟩] := by
        unfold vF
        rw [hrg _ (by omega)]
        rfl
      have hsn : vCs (V.take (m + 1)) = vCs (V.take m) ++ [I64 1, I64 (r.getD a.toNat 0), Str ⟨#[]⟩] := by rw [htm, ← vCs_snoc]; rfl
      have htl : (vCs (V.take m)).length = m * 3 := by rw [← vCs_len, List.length_take]; omega
      have ba : (m + 1) * 32 ≤ 140737488355328 := by omega
      rcases hB with ⟨rfl, rfl, rfl⟩ | ⟨hm0, g1, u1, rfl, rfl⟩
      · rw [List.take_zero] at hsn
        have hs3 : vCs (V.take (0 + 1)) = [I64 1, I64 (r.getD a.toNat 0), Str ⟨#[]⟩] := hsn
        repeat' first | (with_reducible refine And.intro (by omega) ?_) | (refine SW.seq_k fun K hK => ?_) | (refine SW.block ?_) | ((first | refine SW.region ?_ | refine SW.regionZ (id := 11) (Checked.mixed Tryz.checked) Go.Ab.zRE_1 (by kernel_rfl) ?_ | refine SW.cond ?_ | refine SW.skip ?_ | (refine allF_i fun b hb => ?_; replace hD := And.intro hb hD; clear hb; try simp only [fresh_cons, fresh_nil, and_true, ne_eq, neF] at hD) | simp only [appK, appOsK]); try simp only [Go.Ab.zRE_1, go_sem, hD, hli, ie, i0, w1, oli, oi0, oie, fm, a0, ar, fv, gz1, gz2, zi, mi, ba, true_implies]) | (refine And.intro (by omega) ?_) | (refine ifI (fun hc => ?_) (fun hc => ?_) <;> first | (exfalso; omega) | skip) | (apply hK; clear hK K)
        all_goals
          refine Rnd.le (St.le_slist (List.Sublist.cons_cons _ (List.Sublist.cons _ (List.Sublist.refl _)))) ?_
          refine Rnd.sub (dl.length - (0 + 1)) (by omega) ((hI _ _).2 ⟨0 + 1, _, _, rfl, by omega, .inr ⟨by omega, b, by simp [fresh_cons, fresh_nil, hD], rfl, by rw [hs3]⟩, rfl⟩) (by repeat' (first | exact rfl | exact trivial | constructor))
      · simp only [fresh_cons, fresh_nil, and_true, ne_eq, neF] at u1
        have hD := And.intro u1 ohD
        repeat' first | (with_reducible refine And.intro (by omega) ?_) | (refine SW.seq_k fun K hK => ?_) | (refine SW.block ?_) | ((first | refine SW.region ?_ | refine SW.regionZ (id := 11) (Checked.mixed Tryz.checked) Go.Ab.zRE_1 (by kernel_rfl) ?_ | refine SW.cond ?_ | refine SW.skip ?_ | (refine allF_i fun b hb => ?_; replace hD := And.intro hb hD; clear hb; try simp only [fresh_cons, fresh_nil, and_true, ne_eq, neF] at hD) | simp only [appK, appOsK]); try simp only [Go.Ab.zRE_1, go_sem, hD, hli, ie, i0, w1, oli, oi0, oie, fm, a0, ar, fv, gz1, gz2, zi, mi, ba, htl, true_implies]) | (apply hK; clear hK K)
        all_goals
          refine Rnd.le (St.le_slist (List.Sublist.cons _ (List.Sublist.refl _))) ?_
          refine Rnd.sub (dl.length - (m + 1)) (by omega) ((hI _ _).2 ⟨m + 1, _, _, rfl, by omega, .inr ⟨by omega, b, by simp [fresh_cons, fresh_nil, hD], rfl, by rw [hsn]⟩, rfl⟩) (by repeat' (first | exact rfl | exact trivial | constructor))
    · have hli : ¬ ((m : Nat) : Int) < (((dl.length) : Nat) : Int) := by omega
      obtain rfl : m = dl.length := by omega
      have hVt : V.take dl.length = V := List.take_of_length_le (by omega)
      rw [hVt] at hB
      refine Ab.SW.le (S' := ⟨[(2, .op b2 0), (3, .fp [Str df, IL dl, Str dt, IL dr]), (4, SB false), (5, I64 f), (6, I64 t), (7, .os cb 0 L.length 2), (8, SB g), (9, I64 i), (10, VL V), (11, I64 dl.length)], (cb, .svs (zC L)) :: (b2, .svs [.os tb 0 zs.length 3]) :: (tb, .svs (fC eC wl)) :: eH wl⟩) ?_ ?_
      · rcases hB with ⟨m0, rfl, rfl⟩ | ⟨hm0, g1, u1, rfl, rfl⟩
        · obtain rfl : V = [] := List.eq_nil_of_length_eq_zero (by omega)
          refine St.le.trans (St.le_say (i := 10) (v := VL []) (fun E u hr => Rep.fl_nil hr)) ?_
          exact St.le_sub (by repeat' (first | exact rfl | exact trivial | constructor))
        · refine St.le.trans (St.le_freeze (i := 10) (b := g1) (off := 0) (len := dl.length) (sz := 3) (k := .svs (vCs V)) rfl (by rw [find_cons, if_pos rfl]) (by show 0 + dl.length * 3 ≤ (vCs V).length; rw [← vCs_len]; omega) (vF V) (fun j hj => by
            rw [getN_take _ _ _ (by show 0 + j * 3 + 3 ≤ (vCs V).length; rw [← vCs_len]; omega), Nat.zero_add]
            exact vCs_at V j (by omega))) ?_
          rw [del_head, ← hVl]
          exact St.le_sub (by repeat' (first | exact rfl | exact trivial | constructor))
      clear hB hI hVg hrg hVt
      obtain ⟨A, e2, D, hwl, hA⟩ := splitR_at (zs := wl) (t := t) (by omega)
      have hge : wl.getD t f0 = e2 := by rw [hwl, ← hA, midR_get A D e2 e2, if_pos rfl]
      have hte : e2.1 = ts.getD t t0 := by
        rw [← hge, ← hRI.e]
        simp [List.getD_eq_getElem?_getD, show t < wl.length by omega]
      have hs2 := hRI.s t (by omega)
      have hc2 := hRI.c t (by omega)
      rw [hge] at hs2 hc2
      have hb2 := hCb t _ hs2 hc2
      have hq2 : ∀ y ∈ e2.2.2, y.length = (F r).length := fun y hy => by rw [hCn _ (hc2 y hy), hCn _ hFr]
      have hx2 : (F r).length ≤ 1000 := by rw [hCn _ hFr]; exact hnt
      have cw := eC_get (L := wl) (j := t) (by omega)
      rw [hge] at cw
      have hwc : (fC eC wl).length = zs.length * 3 := by rw [← fC_len (enc := eC) (k := 3) eC_len]; omega
      obtain ⟨h1, h2, h3⟩ := cw
      have ca := fun p => add_e p A D e2 (F r) hx2 (by omega) hq2 hs2
      have ca3 := fun x1 x2 x3 => ca [x1, x2, x3]
      have ca4 := fun x1 x2 x3 x4 => ca [x1, x2, x3, x4]
      simp only [List.cons_append, List.nil_append] at ca3 ca4
      rw [← hwl] at ca3 ca4
      have hes := fun v => eC_set wl t v (by omega)
      have hset : ∀ v, wl.set t v = A ++ v :: D := fun v => by rw [hwl, ← hA]; simp
      simp only [hset] at hes
      rw [hte] at ca3 ca4 h1 h2
      clear ca
      have zt : 0 + t * 3 = t * 3 := Nat.zero_add _
      have mt : t * 3 + 2 < (fC eC wl).length := by omega
      generalize ts.getD t t0 = T at *
      obtain ⟨tn, ta, tr⟩ := T
      simp only at ca3 ca4 h1 h2 c54 hes
      generalize (F r).map nvW = FV at *
      have sxc : ∀ b M, single (xC b M) = true := fun b M => by
        unfold xC
        by_cases h : M = []
        · rw [if_pos h]; rfl
        · rw [if_neg h]; rfl
      repeat' first | (refine SW.seq_k fun K hK => ?_) | ((first | refine SW.region ?_ | refine SW.cond ?_ | refine SW.exit ?_); try simp only [go_sem, hD, true_implies, hli]) | (apply hK; clear hK K) | (clear hK K; apply hK; clear hK K)
      refine SW.midf hK (fun S => ∃ nb M g2, ((g2 = false ∧ F r ∈ e2.2.2 ∧ nb = e2.2.1 ∧ M = e2.2.2) ∨ (g2 = true ∧ F r ∉ e2.2.2 ∧ Ins e2.2.2 M (F r))) ∧ S.le ⟨[(2, .op b2 0), (3, .fp [Str df, IL dl, Str dt, IL dr]), (4, SB false), (5, I64 f), (6, I64 t), (7, .os cb 0 L.length 2), (8, SB g), (9, I64 i), (12, .fp [Str tn, SL ta, xC nb M]), (13, SB g2)], (cb, .svs (zC L)) :: (b2, .svs [.os tb 0 zs.length 3]) :: (tb, .svs (fC eC wl)) :: eH (A ++ (⟨tn, ta, tr⟩, nb, M) :: D)⟩) (fun hK1 => ?_) ?_
      · clear hK
        have hK := hK1
        clear hK1
        repeat' first | ((with_reducible refine Call.mono (ca3 _ _ _) ?_); (intro rr hh hx); (obtain ⟨nb, M, g2, rfl, rfl, hnd2, hcase⟩ := hx); (simp only [go_sem, hD, sxc])) | ((with_reducible refine Call.mono (ca4 _ _ _ _) ?_); (intro rr hh hx); (obtain ⟨nb, M, g2, rfl, rfl, hnd2, hcase⟩ := hx); (simp only [go_sem, hD, sxc])) | (with_reducible refine And.intro (by omega) ?_) | ((first | refine SW.regionY [16] (id := 12) (Checked.mixed Tryz.checked) ((.one 0 [0, 1, 3, 4, 16, 17, 18, 19, 21, 22] (.one 1 [1, 3, 4, 16, 17, 18, 19, 21, 22] (.one 2 [2, 3, 4, 16, 17, 18, 19, 21, 22] (.one 3 [3, 4, 16, 17, 18, 19, 21, 22] (.one 4 [4, 16, 17, 18, 19, 21, 22] (.one 5 [5, 6, 8, 9, 10, 11, 15, 16, 17, 18, 19, 21, 22] (.one 6 [6, 8, 9, 10, 11, 15, 16, 17, 18, 19, 21, 22] (.one 7 [7, 8, 9, 10, 11, 15, 16, 17, 18, 19, 21, 22] (.one 8 [8, 9, 10, 11, 15, 16, 17, 18, 19, 21, 22] (.one 9 [9, 10, 11, 15, 16, 17, 18, 19, 21, 22] (.one 10 [10, 11, 15, 16, 17, 18, 19, 21, 22] (.one 11 [11, 15, 16, 17, 18, 19, 21, 22] (.one 12 [12, 13, 15, 16, 17, 18, 19, 21, 22] (.one 13 [13, 15, 16, 17, 18, 19, 21, 22] (.one 14 [14, 15, 16, 17, 18, 19, 21, 22] (.one 15 [15, 16, 17, 18, 19, 21, 22] (.alt 16 true (.one 17 [17, 18, 19, 21, 22] (.one 18 [18, 21, 22] (.alt 19 false (.alt 20 false (.alt 21 false (.one 22 [22] .done) .nil) .nil) (.alt 20 false (.alt 19 false (.alt 21 false (.one 22 [22] .done) .nil) (.alt 21 false (.one 19 [19, 22] (.one 22 [22] .done)) .nil)) .nil)))) (.alt 20 false (.alt 16 true (.one 17 [17, 18, 19, 21, 22] (.one 18 [18, 21, 22] (.alt 19 false (.alt 21 false (.one 22 [22] .done) .nil) (.alt 21 false (.one 19 [19, 22] (.one 22 [22] .done)) .nil)))) .nil) .nil)))))))))))))))))) : OY) (by kernel_rfl) ?_ | refine ⟨_, c54, ?_⟩ | (refine allF_i fun b hb => ?_; replace hD := And.intro hb hD; clear hb; try simp only [fresh_cons, fresh_nil, and_true, ne_eq, neF] at hD)); try simp only [go_sem, hD, true_implies, te, t0q, tl1, zt, mt, hwc, h1, h2, h3, sxc]) | (apply hK; clear hK K) | (refine And.intro ?_ ?_)
        all_goals
          refine ⟨nb, M, g2, hcase, ?_⟩
          refine St.le.trans (St.le_freezeP (i := 12) (b := b) (off := 0) (n := 3) (k := .svs [Str tn, SL ta, xC nb M]) rfl (by simp [find_cons, hD]) (by exact Nat.le_refl 3)) ?_
          simp only [getN, Blk.get, go_sem, hD]
          exact St.le_sub (by repeat' (first | exact rfl | exact trivial | constructor))
      clear hK K
      rintro S ⟨nb, M, g2, hcase, hS⟩
      refine Ab.SW.le hS ?_
      clear hS S c54 ca3 ca4
      have hst : (((fC eC wl).set (t * 3) (Str tn)).set (t * 3 + 1) (SL ta)).set (t * 3 + 2) (xC nb M) = fC eC (A ++ (⟨tn, ta, tr⟩, nb, M) :: D) := hes (⟨tn, ta, tr⟩, nb, M)
      have hst2 : (((fC eC wl).set (t * 3) (Str tn)).set (t * 3 + 1) (SL ta)).set (t * 3 + 1 + 1) (xC nb M) = fC eC (A ++ (⟨tn, ta, tr⟩, nb, M) :: D) := hst
      have him2 : ∀ wl2 : List Ft, Go.Ab.A15.Sub wl wl2 → F r ∈ (wl2.getD t f0).2.2 → ∀ j, j < i + 1 → F (L.getD j []) ∈ (wl2.getD t f0).2.2 := fun wl2 hs hm j hj => by
        by_cases e : j = i
        · rw [e, ← hr]; exact hm
        · exact hs t _ (him j (by omega))
      have hii : i + 1 ≤ L.length := hlt
      rcases hcase with ⟨rfl, hm, rfl, rfl⟩ | ⟨rfl, hm, hins⟩
      · have hE : ((⟨tn, ta, tr⟩ : Tb), e2.2.1, e2.2.2) = e2 := by rw [← hte]
        rw [hE, ← hwl] at hst hst2 ⊢
        have hi2 := him2 wl (Go.Ab.A15.Sub.refl _) (by rw [hge]; exact hm)
        clear him2 hes
        cases g
        · repeat' first | (with_reducible refine And.intro (by omega) ?_) | (refine SW.seq_k fun K hK => ?_) | (refine SW.region ?_; try simp only [go_sem, hD, true_implies, te, t0q, tl1, zt, mt, hwc, sxc, ow1, hst, hst2]) | (apply hK; clear hK K)
          all_goals
            exact Rnd.sub (L.length - (i + 1)) (by omega) ((hIO _ _).2 ⟨i + 1, wl, false, rfl, hii, hRI, hL, hSb, hi2, hg0, hg1, rfl⟩) (by repeat' (first | exact rfl | exact trivial | constructor))
        · repeat' first | (with_reducible refine And.intro (by omega) ?_) | (refine SW.seq_k fun K hK => ?_) | (refine SW.region ?_; try simp only [go_sem, hD, true_implies, te, t0q, tl1, zt, mt, hwc, sxc, ow1, hst, hst2]) | (apply hK; clear hK K)
          all_goals
            exact Rnd.sub (L.length - (i + 1)) (by omega) ((hIO _ _).2 ⟨i + 1, wl, true, rfl, hii, hRI, hL, hSb, hi2, hg0, hg1, rfl⟩) (by repeat' (first | exact rfl | exact trivial | constructor))
      · have hadd := RI.add (C := C) (ts := ts) (A := A) (D := D) (e := e2) (b := nb) (by rw [← hwl]; exact hRI) hins (by rw [hA]; exact hFr)
        rw [hte, hA, ← hwl] at hadd
        obtain ⟨r1, r2, r3, r4, r5⟩ := hadd
        have hi2 := him2 _ r2 r5
        have r6 := hSb.trans r2
        have r7 : totR zs < totR (A ++ (⟨tn, ta, tr⟩, nb, M) :: D) := by
          cases g with
          | false => rw [r3, hg0 rfl]; omega
          | true => have := hg1 rfl; omega
        clear him2 hes
        generalize A ++ ((⟨tn, ta, tr⟩ : Tb), nb, M) :: D = wl2 at *
        cases g
        · repeat' first | (with_reducible refine And.intro (by omega) ?_) | (refine SW.seq_k fun K hK => ?_) | (refine SW.region ?_; try simp only [go_sem, hD, true_implies, te, t0q, tl1, zt, mt, hwc, sxc, ow1, hst, hst2]) | (apply hK; clear hK K)
          all_goals
            exact Rnd.sub (L.length - (i + 1)) (by omega) ((hIO _ _).2 ⟨i + 1, wl2, true, rfl, hii, r1, by rw [r4]; exact hL, r6, hi2, (fun h => by cases h), (fun _ => r7), rfl⟩) (by repeat' (first | exact rfl | exact trivial | constructor))
        · repeat' first | (with_reducible refine And.intro (by omega) ?_) | (refine SW.seq_k fun K hK => ?_) | (refine SW.region ?_; try simp only [go_sem, hD, true_implies, te, t0q, tl1, zt, mt, hwc, sxc, ow1, hst, hst2]) | (apply hK; clear hK K)
          all_goals
            exact Rnd.sub (L.length - (i + 1)) (by omega) ((hIO _ _).2 ⟨i + 1, wl2, true, rfl, hii, r1, by rw [r4]; exact hL, r6, hi2, (fun h => by cases h), (fun _ => r7), rfl⟩) (by repeat' (first | exact rfl | exact trivial | constructor))
  · have hli : ¬ ((i : Nat) : Int) < ((L.length : Nat) : Int) := by omega
    obtain rfl : i = L.length := by omega
    have hfin : g = false → wl = zs ∧ ∀ r, r ∈ L → F r ∈ (zs.getD t f0).2.2 := fun hg => by
      have e := hg0 hg
      refine ⟨e, fun r hr => ?_⟩
      rw [← e]
      obtain ⟨j, hj, rfl⟩ := List.getElem_of_mem hr
      have := him j hj
      rwa [show L.getD j [] = L[j] by simp [List.getD_eq_getElem?_getD, hj]] at this
    repeat' first | (refine SW.seq_k fun K hK => ?_) | ((first | refine SW.region ?_ | refine SW.cond ?_ | refine SW.exit ?_ | refine SW.ret ?_); try simp only [go_sem, hD, hli, true_implies]) | (apply hK; clear hK K) | (clear hK K; apply hK; clear hK K)
    all_goals
      refine retQ_le (St.le_slist (h' := (tb, .svs (fC eC wl)) :: eH wl) (List.Sublist.cons _ (List.Sublist.cons _ (List.Sublist.refl _)))) ?_
      simp only [resL_tmp, resL_nil, tupOf, go_sem, hD]
      exact ⟨wl, g, rfl, List.Perm.refl _, hRI, hL, hSb, hfin, hg1⟩
end Go.Proofs.YtblfodnajpamfaaGreatDoor
namespace Go.Ab.A15
open Go Go.Ab Go.Ab.A34
theorem totR_take {zs : List Ft} {i : Nat} (h : i < zs.length) : totR (zs.take (i + 1)) = totR (zs.take i) + (zs.getD i f0).2.2.length := by
  unfold totR
  rw [List.take_add_one, List.getElem?_eq_getElem h, List.map_append, List.sum_append, List.getD_eq_getElem?_getD, List.getElem?_eq_getElem h]
  simp only [Option.toList_some, List.map_cons, List.map_nil, List.sum_cons, List.sum_nil, Option.getD_some, Nat.add_zero]
theorem totR_le {zs : List Ft} (h : ∀ s, s < zs.length → (zs.getD s f0).2.2.length ≤ 1000) : ∀ i, i ≤ zs.length → totR (zs.take i) ≤ i * 1000
  | 0, _ => by simp [totR]
  | i + 1, hi => by
    rw [totR_take (by omega)]
    have := totR_le h i (by omega)
    have := h i (by omega)
    omega
end Go.Ab.A15
namespace Go.Proofs.YtblfodnajpamfaaGreatDoor
open Go Go.Ab Go.Ab.A34 Go.Ab.A15
variable [Gl] [Tabs]
theorem rows_o (tb : Nat) (zs : List Ft) (hn : zs.length ≤ 1000) (hr : ∀ s, s < zs.length → (zs.getD s f0).2.2.length ≤ 1000) :
    Ab.Call Tryz.prog 20 [.agg [.os tb 0 zs.length 3]] (RH tb zs) (fun r h' => r = I64 (totR zs) ∧ h' = RH tb zs) := by
  have hzl : (fC eC zs).length = zs.length * 3 := (fC_len (enc := eC) (k := 3) eC_len zs).symm
  have htl := totR_le hr
  unfold RH
  refine Call.enter' (N := 22) (rs := [.tmp 2]) Tryz.func20 rfl rfl rfl (by decide) rfl ?_; simp only [argT]; have hD : (0 : Nat) = 0 := rfl
  repeat' first | (refine SW.seq_k fun K hK => ?_) | (refine SW.block ?_) | ((first | refine SW.region ?_ | (refine allF_i fun b hb => ?_; replace hD := And.intro hb hD; clear hb; try simp only [fresh_cons, fresh_nil, and_true, ne_eq, neF] at hD)); try simp only [go_sem, hD, true_implies]) | (apply hK; clear hK K)
  obtain ⟨b1, rfl⟩ : ∃ x, x = b := ⟨_, rfl⟩
  obtain ⟨I, hI⟩ : ∃ I : Nat → St → Prop, ∀ k S, I k S ↔ (∃ (i : Nat) , k = zs.length - i ∧ i ≤ zs.length ∧ S = ⟨[(1, .op b1 0), (2, I64 0), (3, I64 (totR (zs.take i))), (4, I64 i)], (b1, .svs [.os tb 0 zs.length 3]) :: (tb, .svs (fC eC zs)) :: eH zs⟩) := ⟨fun k S => _, fun _ _ => Iff.rfl⟩
  refine SW.loop' I (zs.length) ((hI _ _).2 ⟨0, rfl, Nat.zero_le _, rfl⟩) (by repeat' (first | exact rfl | exact trivial | constructor)) ?_
  intro k S hIn
  obtain ⟨i, rfl, hi, rfl⟩ := (hI _ _).1 hIn
  clear hIn
  have ie : ((i : Nat) : Int).toNat = i := Int.toNat_natCast _
  have i0 : (0 : Int) ≤ ((i : Nat) : Int) := by omega
  by_cases hlt : i < zs.length
  · have hli : ((i : Nat) : Int) < ((zs.length : Nat) : Int) := by omega
    have w1 : IntKind.i64.wrap ((i : Int) + 1) = ((i + 1 : Nat) : Int) := by rw [i64_wrap (by omega) (by omega)]; omega
    have gz := (eC_get hlt).2.2
    have h1 := hr i hlt
    have h2 := htl i hi
    have hst := totR_take hlt
    have zi : 0 + i * 3 = i * 3 := Nat.zero_add _
    have mi : i * 3 + 2 < (fC eC zs).length := by omega
    have w2 : IntKind.i64.wrap ((totR (zs.take i) : Int) + ((zs.getD i f0).2.2.length : Int)) = ((totR (zs.take (i + 1)) : Nat) : Int) := by rw [i64_wrap (by omega) (by omega)]; omega
    generalize zs.getD i f0 = e at *
    obtain ⟨et, eb, L⟩ := e
    simp only at gz h1 hst w2
    by_cases h0 : L = []
    · have hx : xC eb L = SN := if_pos h0
      rw [hx] at gz
      have hl0 : ((L.length : Nat) : Int) = 0 := by rw [h0]; rfl
      rw [hl0] at w2
      repeat' first | (refine SW.seq_k fun K hK => ?_) | (refine SW.block ?_) | ((first | refine SW.region ?_ | refine SW.cond ?_ | refine SW.skip ?_); try simp only [go_sem, hD, hli, ie, i0, w1, w2, gz, zi, mi, true_implies]) | (apply hK; clear hK K)
      all_goals
        exact Rnd.sub (zs.length - (i + 1)) (by omega) ((hI _ _).2 ⟨i + 1, rfl, by omega, rfl⟩) (by repeat' (first | exact rfl | exact trivial | constructor))
    · have hx : xC eb L = .os eb 0 L.length 2 := if_neg h0
      rw [hx] at gz
      repeat' first | (refine SW.seq_k fun K hK => ?_) | (refine SW.block ?_) | ((first | refine SW.region ?_ | refine SW.cond ?_ | refine SW.skip ?_); try simp only [go_sem, hD, hli, ie, i0, w1, w2, gz, zi, mi, true_implies]) | (apply hK; clear hK K)
      all_goals
        exact Rnd.sub (zs.length - (i + 1)) (by omega) ((hI _ _).2 ⟨i + 1, rfl, by omega, rfl⟩) (by repeat' (first | exact rfl | exact trivial | constructor))
  · have hli : ¬ ((i : Nat) : Int) < ((zs.length : Nat) : Int) := by omega
    obtain rfl : i = zs.length := by omega
    rw [List.take_length]
    repeat' first | (refine SW.seq_k fun K hK => ?_) | ((first | refine SW.region ?_ | refine SW.cond ?_ | refine SW.exit ?_ | refine SW.ret ?_); try simp only [go_sem, hD, hli, true_implies]) | (apply hK; clear hK K) | (clear hK K; apply hK; clear hK K)
    all_goals
      refine retQ_le (St.le_slist (h' := (tb, .svs (fC eC zs)) :: eH zs) (List.Sublist.cons _ (List.Sublist.refl _))) ?_
      simp only [resL_tmp, resL_nil, tupOf, go_sem, hD]
      try exact ⟨rfl, rfl⟩
end Go.Proofs.YtblfodnajpamfaaGreatDoor
namespace Go.Ab
open Go.RowKit
theorem Call.frameF [Gl] {P : Program} {f : FuncId} {args : List SV} {h p : Heap} {Q : SV → Heap → Prop} {Q' : SV → Heap → Prop} (hc : Call P f args h Q) (hq : ∀ r h', Q r h' → ∃ h2, h2.Perm h' ∧ Q' r h2) :
    Call P f args (p ++ h) (fun r h' => ∃ h2, h' = p ++ h2 ∧ Q' r h2 ∧ (h'.map (·.1)).Nodup) := by
  refine Call.permN ?_ (List.perm_append_comm (l₁ := h) (l₂ := p))
  refine Call.permO (Call.frameN (h2 := p) hc) fun r h' ⟨h1, e, q, _⟩ => ?_
  subst e
  obtain ⟨h2, hp, q2⟩ := hq r h1 q
  exact ⟨p ++ h2, List.perm_append_comm.trans (hp.append_right p), fun hn => ⟨h2, rfl, q2, hn⟩⟩
end Go.Ab
namespace Go.Ab.A15
open Go Go.Ab Go.Ab.A34
def nf (t : Tb) : Ft := (t, 0, [])
def zs0 (ts : List Tb) (i : Nat) : List Ft := (ts.take i).map nf
theorem zs0_succ {ts : List Tb} {i : Nat} (h : i < ts.length) : zs0 ts (i + 1) = zs0 ts i ++ [nf (ts.getD i t0)] := by
  unfold zs0
  rw [List.take_add_one, List.getElem?_eq_getElem h, List.map_append, List.getD_eq_getElem?_getD, List.getElem?_eq_getElem h]
  rfl
theorem zs0_len {ts : List Tb} {i : Nat} (h : i ≤ ts.length) : (zs0 ts i).length = i := by
  unfold zs0
  rw [List.length_map, List.length_take]
  omega
theorem zs0_eH (ts : List Tb) (i : Nat) : eH (zs0 ts i) = [] := by
  unfold eH zs0
  rw [List.flatMap_map]
  exact List.flatMap_eq_nil_iff.2 fun t _ => rfl
theorem zs0_fst (ts : List Tb) : (zs0 ts ts.length).map (·.1) = ts := by
  unfold zs0
  rw [List.take_length, List.map_map]
  exact List.map_id'' (fun _ => rfl) ts
theorem zs0_get (ts : List Tb) (i s : Nat) : ((zs0 ts i).getD s f0).2.2 = [] := by
  unfold zs0
  rw [List.getD_eq_getElem?_getD, List.getElem?_map]
  cases (ts.take i)[s]? <;> rfl
theorem zs0_RI (C : Nat → List Int → Prop) (ts : List Tb) : RI C ts (zs0 ts ts.length) :=
  ⟨zs0_fst ts, fun s _ => by rw [zs0_get]; exact List.Pairwise.nil, fun s _ r hr => by rw [zs0_get] at hr; cases hr⟩
theorem Cl.few {db : List Tb} {l : List Dp} {g : Dp} (ha3 : ∀ t ∈ db, t.attrs.length ≤ 3) (hg3 : g.l.length ≤ 3) (s : Nat) (L : List (List Int)) (hp : L.Pairwise fun a b => lexI a b < 0) (hc : ∀ r ∈ L, Cl (nmsOf db) (nsOf db) l g s r) : L.length ≤ 64 := by
  have hn : (nsOf db).getD s 0 ≤ 3 := by
    unfold nsOf
    rw [List.getD_eq_getElem?_getD, List.getElem?_map]
    rcases Nat.lt_or_ge s db.length with h | h
    · rw [List.getElem?_eq_getElem h]; exact ha3 _ (List.getElem_mem h)
    · rw [List.getElem?_eq_none h]; exact Nat.zero_le _
  refine rows_bound hn ?_ fun r hr => ⟨(hc r hr).len, fun i => ?_⟩
  · exact hp.imp fun {a b} h e => by subst e; exact lex_irr _ h
  · have := (hc r hr).val i
    omega
theorem RI.tot {C : Nat → List Int → Prop} {ts : List Tb} {zs : List Ft} (h : RI C ts zs) (hb : ∀ s (L : List (List Int)), (L.Pairwise fun a b => lexI a b < 0) → (∀ r ∈ L, C s r) → L.length ≤ 64) : ∀ i, i ≤ zs.length → totR (zs.take i) ≤ i * 64
  | 0, _ => by simp [totR]
  | i + 1, hi => by
    rw [totR_take (by omega)]
    have := RI.tot h hb i (by omega)
    have := hb i _ (h.s i (by omega)) (h.c i (by omega))
    omega
theorem totR_tot (zs : List Ft) : totR zs = A15.tot (zs.map (·.2)) := by
  unfold totR A15.tot
  rw [List.map_map]
  rfl
theorem getD_snd (zs : List Ft) (s : Nat) : (zs.map (·.2)).getD s w0 = (zs.getD s f0).2 := by
  rw [List.getD_eq_getElem?_getD, List.getElem?_map, List.getD_eq_getElem?_getD]
  cases zs[s]? <;> rfl
theorem RI.good {db : List Tb} {l : List Dp} {g : Dp} {zs : List Ft} (h : RI (Cl (nmsOf db) (nsOf db) l g) db zs) (ht : totR zs ≤ 400) (h1 : firstR ((nsOf db).getD (idxN g.f (nmsOf db)) 0) g ∈ (zs.getD (idxN g.f (nmsOf db)) f0).2.2) (hc : ∀ d ∈ l, Clo (nmsOf db) (nsOf db) (fun t => (zs.getD t f0).2.2) d) :
    GoodW db l g (zs.map (·.2)) (totR zs) where
  wi := ⟨fun s hs => by
      rw [getD_snd]
      exact (h.s s (by simpa using hs)).imp fun {a b} x e => by subst e; exact lex_irr _ x,
    fun s hs r hr => by
      rw [getD_snd] at hr
      exact h.c s (by simpa using hs) r hr, by rw [totR_tot]⟩
  len := by rw [List.length_map]; have := congrArg List.length h.e; rwa [List.length_map] at this
  first := by rw [getD_snd]; exact h1
  cl := fun d hd r hr => by
    have hr2 : r ∈ ((zs.map (·.2)).getD (idxN d.f (nmsOf db)) w0).2 := hr
    rw [getD_snd] at hr2
    show _ ∈ ((zs.map (·.2)).getD (idxN d.t (nmsOf db)) w0).2
    rw [getD_snd]
    exact hc d hd r hr2
  z := by omega
end Go.Ab.A15
namespace Go.Proofs.YtblfodnajpamfaaGreatDoor
open Go Go.Ab Go.Ab.A34 Go.Ab.A15
variable [Gl] [Tabs]
theorem step_c (p : Heap) (tb : Nat) (db : List Tb) (l : List Dp) (g : Dp) (V : Vall db l g) (h4 : db.length ≤ 4) (ha3 : ∀ t ∈ db, t.attrs.length ≤ 3) (hg3 : g.l.length ≤ 3) (zs : List Ft) (hI : RI (Cl (nmsOf db) (nsOf db) l g) db zs) (d : Dp) (hd : d ∈ l) :
    Ab.Call Tryz.prog 55 [.agg [.os tb 0 db.length 3], DV d] (p ++ RH tb zs) (fun r h' => ∃ h2, h' = p ++ h2 ∧ (∃ zs' g', r = SB g' ∧ h2 = RH tb zs' ∧ RI (Cl (nmsOf db) (nsOf db) l g) db zs' ∧ Go.Ab.A15.Sub zs zs' ∧
      (g' = false → zs' = zs ∧ Clo (nmsOf db) (nsOf db) (fun t => (zs.getD t f0).2.2) d) ∧ (g' = true → totR zs < totR zs')) ∧ (h'.map (·.1)).Nodup) := by
  have F := V.l d hd
  have l1 := idxN_lt F.f
  have l2 := idxN_lt F.t
  have nl : (nmsOf db).length = db.length := by unfold nmsOf; rw [List.length_map]
  rw [nl] at l1 l2
  have e1 := tabI_idx (i := 0) F.f
  have e2 := tabI_idx (i := 0) F.t
  rw [Nat.zero_add] at e1 e2
  have b16 := in16_len F.nr (F.in16r V.vd)
  have hr := F.r
  have hl := F.l
  rw [ns_at] at hr
  have hzl : zs.length = db.length := by have := congrArg List.length hI.e; rwa [List.length_map] at this
  have t3 : (db.getD (idxN d.t (nmsOf db)) t0).attrs.length ≤ 3 := ha3 _ (getD_mem' t0 l2)
  have c := step_r tb db zs d (idxN d.f (nmsOf db)) (idxN d.t (nmsOf db)) (Cl (nmsOf db) (nsOf db) l g) hI (by omega) (by omega) (by omega) e1 e2 F.lr (by omega) (by omega) hr (fun r hc a ha => by rw [hc.len]; exact hl a ha) (fun r hc => by rw [← ns_at]; exact hc.len) (fun s L => Cl.few ha3 hg3 s L) (fun r hc => by rw [← ns_at]; exact Cl.step d r hd hc)
  rw [hzl] at c
  refine Call.frameF c fun r h' ⟨zs', g', hr', hp, hI', _, hs, h0, h1⟩ => ⟨RH tb zs', hp.symm, zs', g', hr', rfl, hI', hs, fun h => ?_, h1⟩
  obtain ⟨a1, a2⟩ := h0 h
  refine ⟨a1, fun r hr => ?_⟩
  rw [ns_at]
  exact a2 r hr
theorem rows_c (p : Heap) (tb : Nat) (db : List Tb) (zs : List Ft) (hzl : zs.length = db.length) (hn : zs.length ≤ 1000) (hr : ∀ s, s < zs.length → (zs.getD s f0).2.2.length ≤ 1000) :
    Ab.Call Tryz.prog 20 [.agg [.os tb 0 db.length 3]] (p ++ RH tb zs) (fun r h' => r = I64 (totR zs) ∧ h' = p ++ RH tb zs) := by
  have c := rows_o tb zs hn hr
  rw [hzl] at c
  refine Call.mono (Call.frameF (Q' := fun r h' => r = I64 (totR zs) ∧ h' = RH tb zs) c fun r h' hq => ⟨h', List.Perm.refl _, hq⟩) fun r h' ⟨h2, e, ⟨e2, e3⟩, _⟩ => ⟨e2, by rw [e, e3]⟩
end Go.Proofs.YtblfodnajpamfaaGreatDoor
namespace Go.Ab
open Go.RowKit
theorem St.le_nd [Gl] {S S' : St} (h : (S.h.map (·.1)).Nodup → S.le S') : S.le S' := fun M w0 D N a w r => h r.own.nodup M w0 D N a w r
end Go.Ab
namespace Go.Ab.A15
open Go Go.Ab Go.Ab.A34
abbrev Gt := Tb × Nat × List R3
def yh (b : Nat) (L : List R3) : Heap := if L = [] then [] else [(b, .svs (fC rC L))]
def yH (ys : List Gt) : Heap := ys.flatMap fun e => yh e.2.1 e.2.2
def upG (e : Ft) : Gt := (e.1, e.2.1, e.2.2.map zR)
def finG (e : Ft) : Gt := (e.1, e.2.1, rowsP e.2.2 e.2.2.length)
def yW (zs : List Ft) (i : Nat) : List Gt := (zs.take i).map finG ++ (zs.drop i).map upG
theorem yH_mid (A C : List Gt) (e : Gt) : yH (A ++ e :: C) = yH A ++ (yh e.2.1 e.2.2 ++ yH C) := by unfold yH; rw [List.flatMap_append, List.flatMap_cons]
theorem up_h (b : Nat) (L : List (List Int)) : xH b L = yh b (L.map zR) := by
  cases L with
  | nil => rfl
  | cons a l => rfl
theorem up_H (zs : List Ft) : eH zs = yH (yW zs 0) := by
  unfold eH yH yW
  rw [List.take_zero, List.drop_zero, List.map_nil, List.nil_append, List.flatMap_map]
  congr 1
  funext e
  exact up_h _ _
def idR (L : List (List Int)) (k : Nat) : List R3 := rowsP L k ++ (L.drop k).map zR
theorem idR_all (L : List (List Int)) : idR L L.length = rowsP L L.length := by unfold idR; rw [List.drop_length, List.map_nil, List.append_nil]
theorem idR_len {L : List (List Int)} {k : Nat} (h : k ≤ L.length) : (idR L k).length = L.length := by
  unfold idR
  rw [List.length_append, rowsP_len, List.length_map, List.length_drop]
  omega
theorem rC_set1 : ∀ (L : List R3) (j : Nat) (n : Int), j < L.length → (fC rC L).set (j * 2) (I64 n) = fC rC (L.set j (n, (L.getD j r0).2))
  | [], j, n, h => absurd h (Nat.not_lt_zero _)
  | x :: L, 0, n, h => rfl
  | x :: L, j + 1, n, h => by
    have := rC_set1 L j n (by simpa using h)
    unfold fC at *
    rw [List.set_cons_succ, List.flatMap_cons, List.flatMap_cons, List.getD_cons_succ, ← this]
    show ((I64 x.1 :: VL x.2 :: List.flatMap rC L).set ((j + 1) * 2) _) = I64 x.1 :: VL x.2 :: _
    rw [show (j + 1) * 2 = j * 2 + 1 + 1 by omega, List.set_cons_succ, List.set_cons_succ]
    rfl
theorem idR_set {L : List (List Int)} {k : Nat} (h : k < L.length) : (fC rC (idR L k)).set (k * 2) (I64 ((k : Int) + 1)) = fC rC (idR L (k + 1)) := by
  rw [rC_set1 _ _ _ (by rw [idR_len (by omega)]; exact h)]
  have hd : L.drop k = L.getD k [] :: L.drop (k + 1) := by
    rw [List.drop_eq_getElem_cons h]
    simp [List.getD_eq_getElem?_getD, h]
  have e : idR L k = rowsP L k ++ zR (L.getD k []) :: (L.drop (k + 1)).map zR := by unfold idR; rw [hd, List.map_cons]
  have g : (idR L k).getD k r0 = zR (L.getD k []) := by
    rw [e, List.getD_eq_getElem?_getD, List.getElem?_append_right (by rw [rowsP_len]; exact Nat.le_refl _), rowsP_len, Nat.sub_self]
    rfl
  rw [g, e, List.set_append, if_neg (by rw [rowsP_len]; omega), rowsP_len, Nat.sub_self, List.set_cons_zero]
  unfold idR
  rw [rowsP_succ, List.append_assoc]
  rfl
def tabR (e : Ft) : Tb := ⟨e.1.name, e.1.attrs, rowsP e.2.2 e.2.2.length⟩
theorem refW_R {C : Nat → List Int → Prop} {db : List Tb} {zs : List Ft} (h : RI C db zs) : zs.map tabR = refW db (zs.map (·.2)) := by
  have hl : zs.length = db.length := by have := congrArg List.length h.e; rwa [List.length_map] at this
  refine List.ext_getElem (by rw [List.length_map, refW, refP_len, hl]) fun i h1 h2 => ?_
  have hi : i < zs.length := by simpa using h1
  have hs := h.s i hi
  have g : zs.getD i f0 = zs[i] := by simp [List.getD_eq_getElem?_getD, hi]
  rw [g] at hs
  have hnd : zs[i].2.2.Nodup := hs.imp fun {a b} x e => by subst e; exact lex_irr _ x
  have e1 : srtL zs[i].2.2 = zs[i].2.2 := pw_eq (srt_pw hnd) hs fun x => (srt_perm _).mem_iff
  have e2 : db.getD i t0 = zs[i].1 := by rw [← h.e]; simp [List.getD_eq_getElem?_getD, hi]
  have e3 : (zs.map (·.2)).getD i w0 = zs[i].2 := by simp [List.getD_eq_getElem?_getD, hi]
  have e4 : (refW db (zs.map (·.2)))[i] = (refW db (zs.map (·.2))).getD i t0 := by simp [List.getD_eq_getElem?_getD, h2]
  rw [List.getElem_map, e4]
  unfold refW refP
  rw [getD_range _ _ (by omega), e2, e3]
  unfold tabW
  rw [e1]
  rfl
theorem tC_len (t : Tb) : (tC t).length = 3 := rfl
theorem fin_set (pre : List Tb) (e : Ft) (zs : List Ft) (v : SV) : (fC tC pre ++ fC eC (e :: zs)).set (pre.length * 3 + 2) v = fC tC pre ++ ([Str e.1.name, SL e.1.attrs, v] ++ fC eC zs) := by
  have hl : (fC tC pre).length = pre.length * 3 := (fC_len (enc := tC) (k := 3) tC_len pre).symm
  rw [List.set_append, if_neg (by omega), hl, show pre.length * 3 + 2 - pre.length * 3 = 2 by omega]
  rfl
theorem fin_le [Gl] {t : List (Nat × SV)} (tb : Nat) (p : Heap) : ∀ (zs : List Ft) (pre : List Tb), (St.mk t ((tb, .svs (fC tC pre ++ fC eC zs)) :: (p ++ yH (zs.map finG)))).le ⟨t, (tb, .svs (fC tC (pre ++ zs.map tabR))) :: p⟩
  | [], pre => by
    have e1 : fC tC pre ++ fC eC [] = fC tC (pre ++ [].map tabR) := by simp [fC]
    have e2 : p ++ yH (([] : List Ft).map finG) = p := by simp [yH]
    rw [e1, e2]
    exact St.le_slist (List.Sublist.refl _)
  | e :: zs, pre => by
    have ih := fin_le (t := t) tb p zs (pre ++ [tabR e])
    have hl : (fC tC pre).length = pre.length * 3 := (fC_len (enc := tC) (k := 3) tC_len pre).symm
    have e1 : fC tC (pre ++ [tabR e]) ++ fC eC zs = fC tC pre ++ ([Str e.1.name, SL e.1.attrs, RL (rowsP e.2.2 e.2.2.length)] ++ fC eC zs) := by
      rw [← fC_snoc, List.append_assoc]
      rfl
    have e2 : pre ++ (e :: zs).map tabR = (pre ++ [tabR e]) ++ zs.map tabR := by rw [List.map_cons, List.append_assoc]; rfl
    have hyy : yH ((e :: zs).map finG) = yh e.2.1 (rowsP e.2.2 e.2.2.length) ++ yH (zs.map finG) := by rw [List.map_cons]; exact yH_mid [] _ _
    have hlt : pre.length * 3 + 2 < (fC tC pre ++ fC eC (e :: zs)).length := by
      rw [List.length_append, hl, ← fC_len (enc := eC) (k := 3) eC_len, List.length_cons]
      omega
    have hg : (fC tC pre ++ fC eC (e :: zs)).getD (pre.length * 3 + 2) .any = xC e.2.1 e.2.2 := by
      rw [List.getD_eq_getElem?_getD, List.getElem?_append_right (by omega), hl, show pre.length * 3 + 2 - pre.length * 3 = 2 by omega]
      rfl
    rw [e2, hyy]
    refine St.le_nd fun hnd => ?_
    by_cases h0 : e.2.2 = []
    · have hx : xC e.2.1 e.2.2 = SN := if_pos h0
      have hy : yh e.2.1 (rowsP e.2.2 e.2.2.length) = [] := by rw [h0]; rfl
      rw [hx] at hg
      rw [hy, List.nil_append]
      refine St.le.trans (St.le_nilC (c := tb) (j := pre.length * 3 + 2) (sz := 2) (f := rF []) (by rw [find_cons, if_pos rfl]) hlt hg) ?_
      rw [upd_cons, if_pos rfl, fin_set]
      have e3 : RL (rowsP e.2.2 e.2.2.length) = .fl 0 2 (rF []) := by rw [h0]; rfl
      rw [e3] at e1
      rw [← e1]
      exact ih
    · have hx : xC e.2.1 e.2.2 = .os e.2.1 0 e.2.2.length 2 := if_neg h0
      have hrl : (rowsP e.2.2 e.2.2.length).length = e.2.2.length := rowsP_len _ _
      have hy : yh e.2.1 (rowsP e.2.2 e.2.2.length) = [(e.2.1, .svs (fC rC (rowsP e.2.2 e.2.2.length)))] := if_neg fun h => h0 (List.eq_nil_of_length_eq_zero (by rw [← hrl, h]; rfl))
      rw [hx] at hg
      rw [hy] at hnd ⊢
      have hne : ¬ tb = e.2.1 := fun h => by
        simp only [List.map_cons, List.nodup_cons, List.map_append, List.mem_append, not_or, List.cons_append, List.mem_cons] at hnd
        exact hnd.1.2.1 h
      have hfl : (fC rC (rowsP e.2.2 e.2.2.length)).length = e.2.2.length * 2 := by rw [← fC_len (enc := rC) (k := 2) (fun _ => rfl), hrl]
      have hp : ((e.2.1, Blk.svs (fC rC (rowsP e.2.2 e.2.2.length))) :: (tb, Blk.svs (fC tC pre ++ fC eC (e :: zs))) :: (p ++ yH (zs.map finG))).Perm ((tb, Blk.svs (fC tC pre ++ fC eC (e :: zs))) :: (p ++ ([(e.2.1, Blk.svs (fC rC (rowsP e.2.2 e.2.2.length)))] ++ yH (zs.map finG)))) := (List.Perm.swap _ _ _).trans (List.Perm.cons _ List.perm_middle.symm)
      refine St.le.trans (St.le_perm hp) ?_
      refine St.le.trans (St.le_freezeC (c := tb) (j := pre.length * 3 + 2) (b := e.2.1) (off := 0) (len := e.2.2.length) (sz := 2) (k := .svs (fC rC (rowsP e.2.2 e.2.2.length))) (by rw [find_cons, if_neg (Ne.symm hne), find_cons, if_pos rfl]) hne hlt hg (by rw [find_cons, if_pos rfl]) (by rw [Blk.len_svs, hfl]; omega) (rF (rowsP e.2.2 e.2.2.length)) (fun j hj => ?_)) ?_
      · rw [getN_take _ _ _ (by rw [Blk.len_svs, hfl]; omega), Nat.zero_add]
        exact fC_at (enc := rC) (k := 2) (fun _ => rfl) r0 _ j (by rw [hrl]; exact hj)
      · rw [del_cons, if_pos rfl, upd_cons, if_pos rfl, fin_set]
        have e3 : RL (rowsP e.2.2 e.2.2.length) = .fl e.2.2.length 2 (rF (rowsP e.2.2 e.2.2.length)) := by unfold RL; rw [hrl]
        rw [e3] at e1
        rw [← e1]
        exact ih
end Go.Ab.A15
