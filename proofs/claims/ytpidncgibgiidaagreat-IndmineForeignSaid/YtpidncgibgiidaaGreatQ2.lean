/- Several texts in one: E2, P1, P2, P4, C1, P5, HA, C2, C3, C4, P3, M1, C5, C6, C7, C8. -/
import Derived.Test.YtpidncgibgiidaaGreatE1
import Derived.Test.YtpidncgibgiidaaGreatQ1
import Derived.Test.YtpidncgibgiidaaGreatZ10
import Derived.Test.YtpidncgibgiidaaGreatZ13
import Derived.Test.YtpidncgibgiidaaGreatZ14
import Derived.Test.YtpidncgibgiidaaGreatZ7
set_option linter.unusedSimpArgs false
set_option linter.unusedVariables false
set_option linter.unusedSectionVars false
set_option maxHeartbeats 4000000
set_option maxRecDepth 20000
namespace Go.Ab
open Go Go.RowKit
section
variable {P : Program} {K : St → Prop} {t : List (Nat × SV)} {h h0 : Heap}
theorem len_nt {st : Bool} {L : TypeId × Nat × Nat} {A : Option (Nat × Nat)} : lenSV st (some L) A .nt = .ok True (.sc (.int .i64 0)) := rfl
theorem len_ot {st : Bool} {L : TypeId × Nat × Nat} {A : Option (Nat × Nat)} {b n : Nat} {e : TypeId} : lenSV st (some L) A (.ot b n e) = .ok True (.sc (.int .i64 n)) := rfl
theorem cells_nt : svCells .nt = some [.nt] := rfl
theorem cells_ot {b n : Nat} {e : TypeId} : svCells (.ot b n e) = some [.ot b n e] := rfl
theorem cells_opT {b n : Nat} {e : TypeId} : svCells (.opT b e n) = some [.opT b e n] := rfl
theorem single_nt : single .nt = true := rfl
theorem single_ot {b n : Nat} {e : TypeId} : single (.ot b n e) = true := rfl
theorem single_opT {b n : Nat} {e : TypeId} : single (.opT b e n) = true := rfl
attribute [go_sem] len_nt len_ot cells_nt cells_ot cells_opT single_nt single_ot single_opT
theorem byts_one (l : List UInt8) : (byts l).all single = true := by
  rw [List.all_eq_true]
  intro x hx
  simp only [byts, List.mem_map] at hx
  obtain ⟨c, _, rfl⟩ := hx
  rfl
theorem src_str (s : ByteArray) (h : Heap) : srcCells (.sc (.string s)) h = some (s.data.toList.length, byts s.data.toList) := by
  show some (s.size, _) = _
  rw [show s.data.toList.length = s.size from Array.length_toList]
  rfl
theorem src_ok (s : ByteArray) (h : Heap) : srcOk 1 (.sc (.string s)) h := by
  unfold srcOk
  rfl
theorem appK_ot [Gl] {g bytes e : Nat} {l l2 : List UInt8} {y : SV} {z : List Value} {d : Tmp} {blk : Blk} (hsrc : srcCells y h = some (l2.length, byts l2)) (hok : srcOk 1 y h) (hf : h.find g = some blk) (hc : blk.cells = byts l) (hz : z.length = 1)
    (hb : (l.length + l2.length) * bytes ≤ 140737488355328) (hn : l.length + l2.length ≤ 140737488355328)
    (hK : ∀ g' blk', fresh (h.del g) g' → blk'.cells = byts (l ++ l2) → K ⟨(d, .ot g' (l ++ l2).length e) :: t, h.ren g g' blk'⟩) :
    appK (some (e, 1, bytes)) (some z) true (.ot g l.length e) y (some d) K ⟨t, h⟩ := by
  unfold appK
  simp only [hsrc]
  refine ⟨trivial, hok, byts_one l2, hz, Nat.one_pos, ?_⟩
  unfold appOtK
  simp only [hf]
  refine ⟨trivial, trivial, by rw [← Blk.length_cells, hc]; simp [byts], hb, hn, fun g' hfr => ?_⟩
  rw [← List.length_append]
  exact hK g' _ hfr (by rw [appB_cells, hc]; simp [byts])
theorem appK_nt [Gl] {bytes e : Nat} {l2 : List UInt8} {y : SV} {z : List Value} {d : Tmp} (hsrc : srcCells y h = some (l2.length, byts l2)) (hok : srcOk 1 y h) (hpos : 0 < l2.length) (hz : z.length = 1)
    (hb : l2.length * bytes ≤ 140737488355328) (hn : l2.length ≤ 140737488355328)
    (hK : ∀ g' blk', fresh h g' → blk'.cells = byts l2 → K ⟨(d, .ot g' l2.length e) :: t, (g', blk') :: h⟩) :
    appK (some (e, 1, bytes)) (some z) true .nt y (some d) K ⟨t, h⟩ := by
  unfold appK
  simp only [hsrc]
  refine ⟨trivial, hok, byts_one l2, hz, Nat.one_pos, ?_⟩
  unfold appNtK
  exact ⟨rfl, hb, hn, fun x => by omega, fun _ g' hfr => hK g' _ hfr (newB_cells _)⟩
end
end Go.Ab
namespace Go.Proofs.YtpidncgibgiidaaGreat
open Go Go.Ab Go.Ab.A34
variable [Gl] [Tabs]
def BH (b : Nat) (l : List UInt8) (h h0 : Heap) : Prop :=
  (l = [] ∧ h = (b, .svs [.sc (.pointer none), .nt]) :: h0) ∨
  (l ≠ [] ∧ ∃ g blk, fresh h0 g ∧ g ≠ b ∧ blk.cells = byts l ∧ h = (b, .svs [.op b 0, .ot g l.length 5]) :: (g, blk) :: h0)
abbrev BP (b : Nat) : SV := .opT b 167 2
theorem wstr_c (b : Nat) (l : List UInt8) (h h0 : Heap) (hB : BH b l h h0) (hf0 : fresh h0 b) (s : ByteArray) (h1 : 1 ≤ s.size) (hs : l.length + s.size ≤ 1000000) :
    Ab.Call Tryz.prog 139 [BP b, Str s] h (fun r h' => r = .tup [I64 s.size, .sc .nilIface] ∧ BH b (l ++ s.data.toList) h' h0) := by
  have hsl : s.size = s.data.toList.length := by rw [len_list]
  have hne : l ++ s.data.toList ≠ [] := fun e => by
    have := congrArg List.length e
    rw [List.length_append, List.length_nil] at this
    omega
  have hp1 : 0 < s.data.toList.length := by omega
  have hz1 : ([Value.int IntKind.u8 0] : List Value).length = 1 := rfl
  rcases hB with ⟨rfl, rfl⟩ | ⟨hl, g, blk, hf, hg, hc, rfl⟩
  · have hb1 : s.data.toList.length * 1 ≤ 140737488355328 := by omega
    have hn1 : s.data.toList.length ≤ 140737488355328 := by omega
    refine Call.enter' (N := 19) (rs := [.tmp 4, .tmp 5]) Tryz.func139 rfl rfl rfl (by decide) rfl ?_; simp only [argT]; have hD : (0 : Nat) = 0 := rfl
    repeat' first | (with_reducible refine Call.mono (copy_new b SV.nt h0) ?_; intro r h' hx; obtain ⟨rfl, rfl⟩ := hx) | (with_reducible refine appK_nt (l2 := s.data.toList) (src_str _ _) (src_ok _ _) hp1 hz1 hb1 hn1 ?_; intro g' blk' hfr hcl; refine stop_i ?_) | (refine SW.seq_k fun K hK => ?_) | (refine SW.region ?_; try simp only [go_sem, hD, true_implies]) | (apply hK; clear hK K)
    refine Stop.mk ?_
    have hf1 : ¬ g' = b := hfr.1.2
    simp only [go_sem, hD, hf1]
    (first | apply hK | (clear hK K; apply hK) | (clear hK K; clear hK K; apply hK)); clear hK K
    repeat' first | (refine SW.seq_k fun K hK => ?_) | ((first | refine SW.region ?_ | refine SW.ret ?_); try simp only [go_sem, hD]) | (apply hK; clear hK K)
    refine retQ_le (S' := ⟨_, (b, .svs [.op b 0, .ot g' s.data.toList.length 5]) :: (g', blk') :: h0⟩) (St.le_perm (List.Perm.swap ..)) ?_
    simp only [resL_tmp, resL_nil, tupOf, go_sem, hD]
    refine .inr ⟨by rw [List.nil_append] at hne; exact hne, g', blk', hfr.2, hf1, hcl, rfl⟩
  · have hgb : ¬ b = g := fun x => hg x.symm
    have hb1 : (l.length + s.data.toList.length) * 1 ≤ 140737488355328 := by omega
    have hn1 : l.length + s.data.toList.length ≤ 140737488355328 := by omega
    have hfd : Heap.find ((b, Blk.svs [.op b 0, .ot g l.length 5]) :: (g, blk) :: h0) g = some blk := by rw [find_cons, if_neg hgb, find_cons, if_pos rfl]
    refine Call.enter' (N := 19) (rs := [.tmp 4, .tmp 5]) Tryz.func139 rfl rfl rfl (by decide) rfl ?_; simp only [argT]; have hD : (0 : Nat) = 0 := rfl
    repeat' first | (with_reducible refine Call.mono (copy_used b (SV.ot g l.length 5) ((g, blk) :: h0)) ?_; intro r h' hx; obtain ⟨rfl, rfl⟩ := hx) | (with_reducible refine appK_ot (l2 := s.data.toList) (blk := blk) (src_str _ _) (src_ok _ _) hfd hc hz1 hb1 hn1 ?_; intro g' blk' hfr hcl; refine stop_i ?_) | (refine SW.seq_k fun K hK => ?_) | (refine SW.region ?_; try simp only [go_sem, hD, true_implies, hgb]) | (apply hK; clear hK K)
    refine Stop.mk ?_
    rw [del_cons, if_neg hgb, del_cons, if_pos rfl] at hfr
    have hf1 : ¬ g' = b := hfr.1.2
    have hf2 : ¬ b = g' := hfr.1.1
    simp only [go_sem, hD, hf1, hf2, hgb]
    (first | apply hK | (clear hK K; apply hK) | (clear hK K; clear hK K; apply hK)); clear hK K
    repeat' first | (refine SW.seq_k fun K hK => ?_) | ((first | refine SW.region ?_ | refine SW.ret ?_); try simp only [go_sem, hD]) | (apply hK; clear hK K)
    refine retQ_ret ?_
    simp only [resL_tmp, resL_nil, tupOf, go_sem, hD]
    refine .inr ⟨hne, g', blk', hfr.2, hf1, hcl, by rw [List.length_append]⟩
end Go.Proofs.YtpidncgibgiidaaGreat
namespace Go.Ab.A15
structure Dp where
  f : ByteArray
  l : List Int
  t : ByteArray
  r : List Int
def d0 : Dp := ⟨⟨#[]⟩, [], ⟨#[]⟩, []⟩
def atI (x : Int) : Nat → List Int → Int
  | _, [] => -1
  | i, y :: l => if y = x then (i : Int) else atI x (i + 1) l
theorem atI_step {x : Int} {l : List Int} {i : Nat} (h : i < l.length) : atI x i (l.drop i) = if l.getD i 0 = x then (i : Int) else atI x (i + 1) (l.drop (i + 1)) := by
  have g : l.getD i 0 = l[i] := by simp [List.getD_eq_getElem?_getD, h]
  rw [List.drop_eq_getElem_cons h, g]
  rfl
theorem atI_none {x : Int} : ∀ {l : List Int} {i : Nat}, atI x i l < 0 ↔ x ∉ l
  | [], i => by simp [atI]
  | y :: l, i => by
    unfold atI
    by_cases h : y = x
    · rw [if_pos h]
      simp [h]
    · rw [if_neg h, atI_none, List.mem_cons]
      constructor
      · rintro h2 (h3 | h3)
        · exact h h3.symm
        · exact h2 h3
      · exact fun h2 h3 => h2 (.inr h3)
theorem atI_is {x : Int} : ∀ {l : List Int} {i : Nat}, 0 ≤ atI x i l → ∃ j, atI x i l = ((i + j : Nat) : Int) ∧ j < l.length ∧ l.getD j 0 = x ∧ ∀ k, k < j → l.getD k 0 ≠ x
  | [], i, h => by simp [atI] at h
  | y :: l, i, h => by
    unfold atI at h ⊢
    by_cases h1 : y = x
    · rw [if_pos h1]
      exact ⟨0, rfl, by simp, by simp [h1], fun k hk => absurd hk (Nat.not_lt_zero _)⟩
    · rw [if_neg h1] at h ⊢
      obtain ⟨j, e1, e2, e3, e4⟩ := atI_is h
      refine ⟨j + 1, by rw [e1]; congr 1; omega, by simpa using e2, by simpa using e3, fun k hk => ?_⟩
      cases k with
      | zero => simpa using h1
      | succ k => simpa using e4 k (by omega)
theorem nodup_get {l : List Int} (h : l.Nodup) {i j : Nat} (hi : i < l.length) (hj : j < l.length) (e : l.getD i 0 = l.getD j 0) : i = j := by
  have g : ∀ k (hk : k < l.length), l.getD k 0 = l[k] := fun k hk => by simp [List.getD_eq_getElem?_getD, hk]
  rw [g i hi, g j hj] at e
  have hp := List.pairwise_iff_getElem.1 h
  rcases Nat.lt_trichotomy i j with h1 | h1 | h1
  · exact absurd e (hp i j hi hj h1)
  · exact h1
  · exact absurd e.symm (hp j i hj hi h1)
theorem atI_nodup {l : List Int} (h : l.Nodup) {p : Nat} (hp : p < l.length) : atI (l.getD p 0) 0 l = (p : Int) := by
  have hm : l.getD p 0 ∈ l := by
    have g : l.getD p 0 = l[p] := by simp [List.getD_eq_getElem?_getD, hp]
    rw [g]
    exact List.getElem_mem hp
  have h0 : 0 ≤ atI (l.getD p 0) 0 l := by
    rcases Int.lt_or_le (atI (l.getD p 0) 0 l) 0 with h1 | h1
    · exact absurd hm (atI_none.1 h1)
    · exact h1
  obtain ⟨j, e1, e2, e3, _⟩ := atI_is h0
  rw [e1, Nat.zero_add, nodup_get h e2 hp e3]
def folI (d : Dp) : List Int → Option (List (Int × Int))
  | [] => some []
  | x :: r => if atI x 0 d.l < 0 then none else match folI d r with
    | none => none
    | some q => some ((atI x 0 d.l, d.r.getD (atI x 0 d.l).toNat 0) :: q)
structure Sn where
  t : ByteArray
  a : List Int
  bf : Int
  ix : Nat
  ps : List Int
  st : Nat
def s0 : Sn := ⟨⟨#[]⟩, [], 0, 0, [], 0⟩
def nextS (s : Sn) (i k : Nat) (d : Dp) : Option Sn := if s.t = d.f then (match folI d s.a with
  | none => none
  | some q => some ⟨d.t, q.map (·.2), i, k, q.map (·.1), s.st + 1⟩) else none
def findS (t : ByteArray) (a : List Int) : Nat → List Sn → Int
  | _, [] => -1
  | i, y :: l => if y.t = t ∧ y.a = a then (i : Int) else findS t a (i + 1) l
theorem findS_none {t : ByteArray} {a : List Int} : ∀ {l : List Sn} {i : Nat}, findS t a i l < 0 ↔ ∀ s ∈ l, ¬ (s.t = t ∧ s.a = a)
  | [], i => by simp [findS]
  | y :: l, i => by
    unfold findS
    by_cases h : y.t = t ∧ y.a = a
    · rw [if_pos h]
      constructor
      · intro h2; omega
      · exact fun h2 => absurd h (h2 y List.mem_cons_self)
    · rw [if_neg h, findS_none]
      constructor
      · intro h2 s hs
        rcases List.mem_cons.1 hs with rfl | hs
        · exact h
        · exact h2 s hs
      · exact fun h2 s hs => h2 s (List.mem_cons_of_mem _ hs)
theorem findS_is {t : ByteArray} {a : List Int} : ∀ {l : List Sn} {i : Nat}, 0 ≤ findS t a i l → ∃ j, findS t a i l = ((i + j : Nat) : Int) ∧ j < l.length ∧ (l.getD j s0).t = t ∧ (l.getD j s0).a = a
  | [], i, h => by simp [findS] at h
  | y :: l, i, h => by
    unfold findS at h ⊢
    by_cases h1 : y.t = t ∧ y.a = a
    · rw [if_pos h1]
      exact ⟨0, rfl, by simp, by simp [h1.1], by simp [h1.2]⟩
    · rw [if_neg h1] at h ⊢
      obtain ⟨j, e1, e2, e3, e4⟩ := findS_is h
      exact ⟨j + 1, by rw [e1]; congr 1; omega, by simpa using e2, by simpa using e3, by simpa using e4⟩
def addS (i k : Nat) (d : Dp) (out : List Sn) : List Sn := match nextS (out.getD i s0) i k d with
  | none => out
  | some s => if 0 ≤ findS s.t s.a 0 out then out else out ++ [s]
def rndS (i : Nat) : Nat → List Dp → List Sn → List Sn
  | _, [], out => out
  | k, d :: r, out => rndS i (k + 1) r (addS i k d out)
def bfs (l : List Dp) : Nat → Nat → List Sn → List Sn
  | 0, _, out => out
  | n + 1, i, out => if i < out.length then bfs l n (i + 1) (rndS i 0 l out) else out
def root (g : Dp) : Sn := ⟨g.f, g.l, -1, 0, [], 0⟩
def states (l : List Dp) (g : Dp) : List Sn := bfs l 20000 0 [root g]
theorem rndS_step {i k : Nat} {l : List Dp} {out : List Sn} (h : k < l.length) : rndS i k (l.drop k) out = rndS i (k + 1) (l.drop (k + 1)) (addS i k (l.getD k d0) out) := by
  have g : l.getD k d0 = l[k] := by simp [List.getD_eq_getElem?_getD, h]
  rw [List.drop_eq_getElem_cons h, g]
  rfl
structure Ivs (l : List Dp) (g : Dp) (out : List Sn) : Prop where
  pos : 0 < out.length
  rt : out.getD 0 s0 = root g
  nx : ∀ j, 0 < j → j < out.length → ∃ b k, b < j ∧ k < l.length ∧ (out.getD j s0).bf = (b : Int) ∧ (out.getD j s0).ix = k ∧ nextS (out.getD b s0) b k (l.getD k d0) = some (out.getD j s0)
  nd : (out.map fun s => (s.t, s.a)).Nodup
theorem Ivs.root (l : List Dp) (g : Dp) : Ivs l g [root g] := ⟨by simp, rfl, fun j h1 h2 => by simp at h2; omega, by simp⟩
theorem getD_app {α : Type} {l r : List α} {i : Nat} {d : α} (h : i < l.length) : (l ++ r).getD i d = l.getD i d := by
  simp [List.getD_eq_getElem?_getD, List.getElem?_append_left h]
theorem getD_end {α : Type} {l : List α} {x d : α} : (l ++ [x]).getD l.length d = x := by simp [List.getD_eq_getElem?_getD]
theorem addS_cases (i k : Nat) (d : Dp) (out : List Sn) : (addS i k d out = out ∧ ∀ s, nextS (out.getD i s0) i k d = some s → 0 ≤ findS s.t s.a 0 out) ∨ ∃ s, nextS (out.getD i s0) i k d = some s ∧ findS s.t s.a 0 out < 0 ∧ addS i k d out = out ++ [s] := by
  unfold addS
  cases h : nextS (out.getD i s0) i k d with
  | none => exact .inl ⟨rfl, fun s hs => by cases hs⟩
  | some s =>
    simp only
    by_cases h2 : 0 ≤ findS s.t s.a 0 out
    · rw [if_pos h2]
      exact .inl ⟨rfl, fun s' hs => by cases hs; exact h2⟩
    · rw [if_neg h2]
      exact .inr ⟨s, rfl, by omega, rfl⟩
theorem nextS_bf {s s' : Sn} {i k : Nat} {d : Dp} (h : nextS s i k d = some s') : s'.bf = (i : Int) ∧ s'.ix = k ∧ s'.t = d.t ∧ s.t = d.f ∧ s'.st = s.st + 1 ∧ ∃ q, folI d s.a = some q ∧ s'.a = q.map (·.2) ∧ s'.ps = q.map (·.1) := by
  unfold nextS at h
  by_cases h1 : s.t = d.f
  · rw [if_pos h1] at h
    cases h2 : folI d s.a with
    | none => rw [h2] at h; cases h
    | some q =>
      rw [h2] at h
      cases h
      exact ⟨rfl, rfl, rfl, h1, rfl, q, rfl, rfl, rfl⟩
  · rw [if_neg h1] at h; cases h
theorem Ivs.add {l : List Dp} {g : Dp} {out : List Sn} (h : Ivs l g out) {i k : Nat} (hi : i < out.length) (hk : k < l.length) : Ivs l g (addS i k (l.getD k d0) out) ∧ ∃ r, addS i k (l.getD k d0) out = out ++ r := by
  rcases addS_cases i k (l.getD k d0) out with ⟨e, _⟩ | ⟨s, e1, e2, e⟩
  · rw [e]; exact ⟨h, [], by simp⟩
  · rw [e]
    refine ⟨⟨by simp, by rw [getD_app h.pos]; exact h.rt, fun j h1 h2 => ?_, ?_⟩, [s], rfl⟩
    · rw [List.length_append, List.length_singleton] at h2
      rcases Nat.lt_or_ge j out.length with h3 | h3
      · obtain ⟨b, k', g1, g2, g3, g4, g5⟩ := h.nx j h1 h3
        rw [getD_app h3]
        exact ⟨b, k', g1, g2, g3, g4, by rw [getD_app (show b < out.length by omega)]; exact g5⟩
      · obtain rfl : j = out.length := by omega
        rw [getD_end]
        obtain ⟨b1, b2, _⟩ := nextS_bf e1
        exact ⟨i, k, hi, hk, b1, b2, by rw [getD_app hi]; exact e1⟩
    · rw [List.map_append, List.nodup_append]
      refine ⟨h.nd, by simp, fun x hx y hy => ?_⟩
      obtain ⟨s', hs', rfl⟩ := List.mem_map.1 hx
      simp only [List.map_cons, List.map_nil, List.mem_singleton] at hy
      subst hy
      intro e
      exact findS_none.1 e2 s' hs' (by simpa using e)
def Done (l : List Dp) (out : List Sn) (i k : Nat) : Prop := ∀ d s, l[k]? = some d → nextS (out.getD i s0) i k d = some s → 0 ≤ findS s.t s.a 0 out
theorem findS_app {t : ByteArray} {a : List Int} {l r : List Sn} (h : 0 ≤ findS t a 0 l) : 0 ≤ findS t a 0 (l ++ r) := by
  rcases Int.lt_or_le (findS t a 0 (l ++ r)) 0 with h1 | h1
  · have : findS t a 0 l < 0 := findS_none.2 fun s hs => findS_none.1 h1 s (List.mem_append_left _ hs)
    omega
  · exact h1
theorem Done.app {l : List Dp} {out r : List Sn} {i k : Nat} (h : Done l out i k) (hi : i < out.length) : Done l (out ++ r) i k := fun d s hd hs => by
  rw [getD_app hi] at hs
  exact findS_app (h d s hd hs)
theorem Ivs.rnd {l : List Dp} {g : Dp} {i : Nat} : ∀ (n k : Nat) (out : List Sn), n = l.length - k → k ≤ l.length → Ivs l g out → i < out.length → (∀ k', k' < k → Done l out i k') →
    Ivs l g (rndS i k (l.drop k) out) ∧ (∃ r, rndS i k (l.drop k) out = out ++ r) ∧ ∀ k', k' < l.length → Done l (rndS i k (l.drop k) out) i k' := by
  intro n
  induction n with
  | zero =>
    intro k out hn hk h hi hd
    obtain rfl : k = l.length := by omega
    rw [List.drop_length]
    exact ⟨h, ⟨[], by simp [rndS]⟩, hd⟩
  | succ n ih =>
    intro k out hn hk h hi hd
    have hk2 : k < l.length := by omega
    rw [rndS_step hk2]
    obtain ⟨h1, r, h2⟩ := h.add hi hk2
    have hd2 : ∀ k', k' < k + 1 → Done l (addS i k (l.getD k d0) out) i k' := fun k' hk' => by
      rcases Nat.lt_or_ge k' k with h3 | h3
      · rw [h2]; exact (hd k' h3).app hi
      · obtain rfl : k' = k := by omega
        intro d s hd hs
        have gd : l.getD k' d0 = d := by rw [List.getD_eq_getElem?_getD, hd]; rfl
        rcases addS_cases i k' (l.getD k' d0) out with ⟨e, e2⟩ | ⟨s', e1, e2, e⟩
        · rw [e] at hs ⊢
          rw [← gd] at hs
          exact e2 s hs
        · rw [e] at hs ⊢
          rw [getD_app hi, ← gd, e1] at hs
          cases hs
          rcases Int.lt_or_le (findS s.t s.a 0 (out ++ [s])) 0 with h4 | h4
          · exact absurd ⟨rfl, rfl⟩ (findS_none.1 h4 s (by simp))
          · exact h4
    obtain ⟨g1, ⟨r2, g2⟩, g3⟩ := ih (k + 1) _ (by omega) (by omega) h1 (by rw [h2]; simp; omega) hd2
    exact ⟨g1, ⟨r ++ r2, by rw [g2, h2, List.append_assoc]⟩, g3⟩
def Bds (l : List Dp) (g : Dp) : Prop := ∀ out, Ivs l g out → out.length < 20000
theorem Ivs.bfs {l : List Dp} {g : Dp} (hB : Bds l g) : ∀ (n i : Nat) (out : List Sn), n + i = 20000 → i ≤ out.length → Ivs l g out → (∀ i', i' < i → ∀ k', k' < l.length → Done l out i' k') →
    Ivs l g (bfs l n i out) ∧ ∀ i', i' < (bfs l n i out).length → ∀ k', k' < l.length → Done l (bfs l n i out) i' k' := by
  intro n
  induction n with
  | zero =>
    intro i out hn hi h hd
    have := hB out h
    omega
  | succ n ih =>
    intro i out hn hi h hd
    unfold A15.bfs
    by_cases hlt : i < out.length
    · rw [if_pos hlt]
      obtain ⟨g1, ⟨r, g2⟩, g3⟩ := Ivs.rnd (i := i) l.length 0 out (by omega) (by omega) h hlt (fun k hk => absurd hk (Nat.not_lt_zero _))
      rw [List.drop_zero] at g1 g2 g3
      refine ih (i + 1) _ (by omega) (by rw [g2, List.length_append]; omega) g1 fun i' hi' k' hk' => ?_
      rcases Nat.lt_or_ge i' i with h1 | h1
      · rw [g2]; exact (hd i' h1 k' hk').app (by omega)
      · obtain rfl : i' = i := by omega
        exact g3 k' hk'
    · rw [if_neg hlt]
      obtain rfl : i = out.length := by omega
      exact ⟨h, hd⟩
end Go.Ab.A15
namespace Go.Ab.A15
theorem nodup_bound : ∀ (N : Nat) (L : List Nat), L.Nodup → (∀ x ∈ L, x < N) → L.length ≤ N
  | 0, L, _, h => by
    cases L with
    | nil => simp
    | cons x r => exact absurd (h x List.mem_cons_self) (Nat.not_lt_zero _)
  | N + 1, L, hn, h => by
    have h1 := nodup_bound N (L.erase N) (hn.erase N) (fun x hx => by
      have h2 := h x (List.mem_of_mem_erase hx)
      have h3 : x ≠ N := (hn.mem_erase_iff.1 hx).1
      omega)
    by_cases hm : N ∈ L
    · rw [List.length_erase_of_mem hm] at h1; omega
    · rw [List.erase_of_not_mem hm] at h1; omega
def In16 (a : List Int) : Prop := ∀ x ∈ a, 0 ≤ x ∧ x < 16
structure Small (l : List Dp) (g : Dp) (nm : List ByteArray) : Prop where
  n4 : nm.length ≤ 4
  g3 : g.l.length ≤ 3
  gl : In16 g.l
  gf : g.f ∈ nm
  lr : ∀ d ∈ l, d.l.length = d.r.length
  r16 : ∀ d ∈ l, In16 d.r
  lt : ∀ d ∈ l, d.t ∈ nm
theorem folI_len {d : Dp} : ∀ {a : List Int} {q : List (Int × Int)}, folI d a = some q → q.length = a.length
  | [], q, h => by cases h; rfl
  | x :: r, q, h => by
    unfold folI at h
    by_cases h1 : atI x 0 d.l < 0
    · rw [if_pos h1] at h; cases h
    · rw [if_neg h1] at h
      cases h2 : folI d r with
      | none => rw [h2] at h; cases h
      | some q' => rw [h2] at h; cases h; rw [List.length_cons, folI_len h2, List.length_cons]
theorem folI_mem {d : Dp} : ∀ {a : List Int} {q : List (Int × Int)}, folI d a = some q → ∀ p ∈ q, ∃ j, p.1 = ((j : Nat) : Int) ∧ j < d.l.length ∧ p.2 = d.r.getD j 0
  | [], q, h, p, hp => by cases h; cases hp
  | x :: r, q, h, p, hp => by
    unfold folI at h
    by_cases h1 : atI x 0 d.l < 0
    · rw [if_pos h1] at h; cases h
    · rw [if_neg h1] at h
      cases h2 : folI d r with
      | none => rw [h2] at h; cases h
      | some q' =>
        rw [h2] at h
        cases h
        rcases List.mem_cons.1 hp with rfl | hp
        · obtain ⟨j, e1, e2, _⟩ := atI_is (x := x) (i := 0) (show 0 ≤ atI x 0 d.l by omega)
          rw [Nat.zero_add] at e1
          exact ⟨j, e1, e2, by show d.r.getD (atI x 0 d.l).toNat 0 = _; rw [e1, Int.toNat_natCast]⟩
        · exact folI_mem h2 p hp
theorem getD_mem' {α : Type} (d : α) {l : List α} {i : Nat} (h : i < l.length) : l.getD i d ∈ l := by
  have g : l.getD i d = l[i] := by simp [List.getD_eq_getElem?_getD, h]
  rw [g]
  exact List.getElem_mem h
theorem Ivs.all {l : List Dp} {g : Dp} {nm : List ByteArray} (hs : Small l g nm) {out : List Sn} (h : Ivs l g out) : ∀ j, j < out.length → (out.getD j s0).t ∈ nm ∧ In16 (out.getD j s0).a ∧ (out.getD j s0).a.length = g.l.length := by
  intro j
  induction j using Nat.strongRecOn with
  | ind j ih =>
    intro hj
    rcases Nat.eq_zero_or_pos j with rfl | h0
    · rw [h.rt]
      exact ⟨hs.gf, hs.gl, rfl⟩
    · obtain ⟨b, k, hb, hk, _, _, hn⟩ := h.nx j h0 hj
      obtain ⟨_, _, e3, _, _, q, e4, e5, _⟩ := nextS_bf hn
      have hm := getD_mem' d0 hk
      refine ⟨by rw [e3]; exact hs.lt _ hm, fun x hx => ?_, ?_⟩
      · rw [e5] at hx
        obtain ⟨p, hp, rfl⟩ := List.mem_map.1 hx
        obtain ⟨i, _, hi, e⟩ := folI_mem e4 p hp
        rw [e]
        exact hs.r16 _ hm _ (getD_mem' 0 (by rw [← hs.lr _ hm]; exact hi))
      · rw [e5, List.length_map, folI_len e4, (ih b hb (by omega)).2.2]
def idxN (t : ByteArray) : List ByteArray → Nat
  | [] => 0
  | y :: r => if y = t then 0 else idxN t r + 1
theorem idxN_lt {t : ByteArray} : ∀ {nm : List ByteArray}, t ∈ nm → idxN t nm < nm.length
  | y :: r, h => by
    unfold idxN
    by_cases h1 : y = t
    · rw [if_pos h1]; simp
    · rw [if_neg h1, List.length_cons]
      have := idxN_lt ((List.mem_cons.1 h).resolve_left (fun e => h1 e.symm))
      omega
theorem idxN_inj {t u : ByteArray} : ∀ {nm : List ByteArray}, t ∈ nm → u ∈ nm → idxN t nm = idxN u nm → t = u
  | y :: r, h1, h2, h => by
    unfold idxN at h
    by_cases e1 : y = t
    · rw [if_pos e1] at h
      by_cases e2 : y = u
      · rw [← e1, ← e2]
      · rw [if_neg e2] at h; omega
    · rw [if_neg e1] at h
      by_cases e2 : y = u
      · rw [if_pos e2] at h; omega
      · rw [if_neg e2] at h
        exact idxN_inj ((List.mem_cons.1 h1).resolve_left (fun e => e1 e.symm)) ((List.mem_cons.1 h2).resolve_left (fun e => e2 e.symm)) (by omega)
/-! proofs -/
def p0 : Int × List Int := (0, [])
end Go.Ab.A15
namespace Go.Ab.A15
def imgR (n : Nat) (d : Dp) (r : List Int) : List Int := (List.range n).map fun (i : Nat) => if atI (i : Int) 0 d.r < 0 then 0 else r.getD (d.l.getD (atI (i : Int) 0 d.r).toNat 0).toNat 0
def firstR (n : Nat) (g : Dp) : List Int := (List.range n).map fun (i : Nat) => if atI (i : Int) 0 g.l < 0 then 0 else atI (i : Int) 0 g.l + 1
inductive Cl (nm : List ByteArray) (ns : List Nat) (l : List Dp) (g : Dp) : Nat → List Int → Prop where
  | first : Cl nm ns l g (idxN g.f nm) (firstR (ns.getD (idxN g.f nm) 0) g)
  | step (d : Dp) (r : List Int) (hd : d ∈ l) (h : Cl nm ns l g (idxN d.f nm) r) : Cl nm ns l g (idxN d.t nm) (imgR (ns.getD (idxN d.t nm) 0) d r)
theorem getD_range {α : Type} {n i : Nat} (f : Nat → α) (d : α) (h : i < n) : ((List.range n).map f).getD i d = f i := by simp [List.getD_eq_getElem?_getD, h]
theorem Cl.len {nm : List ByteArray} {ns : List Nat} {l : List Dp} {g : Dp} {t : Nat} {r : List Int} (h : Cl nm ns l g t r) : r.length = ns.getD t 0 := by
  cases h <;> simp [firstR, imgR]
theorem atI_lt {x : Int} {l : List Int} (h : ¬ atI x 0 l < 0) : (atI x 0 l).toNat < l.length ∧ l.getD (atI x 0 l).toNat 0 = x := by
  obtain ⟨j, e1, e2, e3, _⟩ := atI_is (x := x) (l := l) (i := 0) (by omega)
  rw [e1, Nat.zero_add, Int.toNat_natCast]
  exact ⟨e2, e3⟩
theorem getD_out {l : List Int} {i : Nat} (h : l.length ≤ i) : l.getD i 0 = 0 := by
  rw [List.getD_eq_getElem?_getD, List.getElem?_eq_none h]; rfl
theorem Cl.val {nm : List ByteArray} {ns : List Nat} {l : List Dp} {g : Dp} {t : Nat} {r : List Int} (h : Cl nm ns l g t r) : ∀ i, 0 ≤ r.getD i 0 ∧ r.getD i 0 ≤ g.l.length := by
  induction h with
  | first =>
    intro i
    rcases Nat.lt_or_ge i (ns.getD (idxN g.f nm) 0) with hi | hi
    · unfold firstR
      rw [getD_range _ _ hi]
      split
      · omega
      · rename_i h1
        have := (atI_lt h1).1
        omega
    · rw [getD_out (by simp [firstR]; simpa using hi)]; omega
  | step d r hd h ih =>
    intro i
    rcases Nat.lt_or_ge i (ns.getD (idxN d.t nm) 0) with hi | hi
    · unfold imgR
      rw [getD_range _ _ hi]
      split
      · omega
      · exact ih _
    · rw [getD_out (by simp [imgR]; simpa using hi)]; omega
structure Fit (nm : List ByteArray) (ns : List Nat) (d : Dp) : Prop where
  f : d.f ∈ nm
  t : d.t ∈ nm
  lr : d.l.length = d.r.length
  l : ∀ x ∈ d.l, 0 ≤ x ∧ x < ns.getD (idxN d.f nm) 0
  r : ∀ x ∈ d.r, 0 ≤ x ∧ x < ns.getD (idxN d.t nm) 0
  nl : d.l.Nodup
  nr : d.r.Nodup
theorem folI_of {d : Dp} : ∀ {a : List Int}, (∀ x ∈ a, x ∈ d.l) → ∃ q, folI d a = some q ∧ q.map (·.2) = a.map fun x => d.r.getD (atI x 0 d.l).toNat 0
  | [], _ => ⟨[], rfl, rfl⟩
  | x :: r, h => by
    obtain ⟨q, e1, e2⟩ := folI_of (a := r) (d := d) fun y hy => h y (List.mem_cons_of_mem _ hy)
    have hx : ¬ atI x 0 d.l < 0 := fun h1 => atI_none.1 h1 (h x List.mem_cons_self)
    exact ⟨(atI x 0 d.l, d.r.getD (atI x 0 d.l).toNat 0) :: q, by unfold folI; rw [if_neg hx, e1], by rw [List.map_cons, List.map_cons, e2]⟩
theorem Cl.known {nm : List ByteArray} {ns : List Nat} {l : List Dp} {g : Dp} {out : List Sn} (hl : ∀ d ∈ l, Fit nm ns d) (hg : Fit nm ns g) (hr : 0 ≤ findS g.f g.l 0 out) (hd : ∀ i', i' < out.length → ∀ k', k' < l.length → Done l out i' k')
    {t : Nat} {r : List Int} (h : Cl nm ns l g t r) : ∀ (u : ByteArray) (a : List Int), u ∈ nm → idxN u nm = t → a.length = g.l.length → (∀ i, i < a.length → 0 ≤ a.getD i 0 ∧ a.getD i 0 < ns.getD t 0 ∧ r.getD (a.getD i 0).toNat 0 = (i : Int) + 1) → 0 ≤ findS u a 0 out := by
  induction h with
  | first =>
    intro u a hu ht hal ha
    obtain rfl := idxN_inj hu hg.f ht
    have e : a = g.l := by
      refine List.ext_getElem hal fun i h1 h2 => ?_
      obtain ⟨a1, a2, a3⟩ := ha i h1
      have ga : a.getD i 0 = a[i] := by simp [List.getD_eq_getElem?_getD, h1]
      have gl : g.l.getD i 0 = g.l[i] := by simp [List.getD_eq_getElem?_getD, h2]
      rw [← ga, ← gl]
      unfold firstR at a3
      rw [getD_range _ _ (by omega)] at a3
      rw [show (((a.getD i 0).toNat : Nat) : Int) = a.getD i 0 by omega] at a3
      split at a3
      · omega
      · rename_i h3
        obtain ⟨b1, b2⟩ := atI_lt h3
        have : (atI (a.getD i 0) 0 g.l).toNat = i := by omega
        rw [this] at b2
        exact b2.symm
    rw [e]
    exact hr
  | step d r hdm h ih =>
    intro u a hu ht hal ha
    have F := hl d hdm
    obtain rfl := idxN_inj hu F.t ht
    have key : ∀ i, i < a.length → ¬ atI (a.getD i 0) 0 d.r < 0 ∧ r.getD (d.l.getD (atI (a.getD i 0) 0 d.r).toNat 0).toNat 0 = (i : Int) + 1 := fun i hi => by
      obtain ⟨a1, a2, a3⟩ := ha i hi
      unfold imgR at a3
      rw [getD_range _ _ (by omega)] at a3
      rw [show (((a.getD i 0).toNat : Nat) : Int) = a.getD i 0 by omega] at a3
      split at a3
      · omega
      · rename_i h3
        exact ⟨h3, a3⟩
    have gm : ∀ i, i < (a.map fun x => d.l.getD (atI x 0 d.r).toNat 0).length → i < a.length ∧ (a.map fun x => d.l.getD (atI x 0 d.r).toNat 0).getD i 0 = d.l.getD (atI (a.getD i 0) 0 d.r).toNat 0 := fun i hi => by
      rw [List.length_map] at hi
      exact ⟨hi, by simp [List.getD_eq_getElem?_getD, hi]⟩
    have in_l : ∀ i, i < a.length → d.l.getD (atI (a.getD i 0) 0 d.r).toNat 0 ∈ d.l := fun i hi => getD_mem' 0 (by rw [F.lr]; exact (atI_lt (key i hi).1).1)
    have k1 := ih d.f (a.map fun x => d.l.getD (atI x 0 d.r).toNat 0) F.f rfl (by rw [List.length_map, hal]) (fun i hi => by
      obtain ⟨g1, g2⟩ := gm i hi
      have hb := F.l _ (in_l i g1)
      rw [g2]
      exact ⟨hb.1, hb.2, (key i g1).2⟩)
    obtain ⟨j, _, j2, j3, j4⟩ := findS_is k1
    obtain ⟨q, q1, q2⟩ := folI_of (d := d) (a := a.map fun x => d.l.getD (atI x 0 d.r).toNat 0) (fun x hx => by
      obtain ⟨i, hi, rfl⟩ := List.getElem_of_mem hx
      obtain ⟨g1, g2⟩ := gm i hi
      have := in_l i g1
      rw [← g2] at this
      rwa [List.getD_eq_getElem?_getD, List.getElem?_eq_getElem hi] at this)
    obtain ⟨kk, hk, hkd⟩ := List.getElem_of_mem hdm
    have := hd j j2 kk hk d ⟨d.t, q.map (·.2), j, kk, q.map (·.1), (out.getD j s0).st + 1⟩ (by rw [List.getElem?_eq_getElem hk, hkd]) (by
      unfold nextS
      rw [if_pos j3, j4, q1])
    simp only at this
    rw [q2, List.map_map] at this
    have e : (a.map ((fun x => d.r.getD (atI x 0 d.l).toNat 0) ∘ fun x => d.l.getD (atI x 0 d.r).toNat 0)) = a := by
      refine List.ext_getElem (by simp) fun i h1 h2 => ?_
      have ga : a.getD i 0 = a[i] := by simp [List.getD_eq_getElem?_getD, h2]
      obtain ⟨b1, b2⟩ := atI_lt (key i h2).1
      rw [List.getElem_map, Function.comp_apply, ← ga, atI_nodup F.nl (by rw [F.lr]; exact b1), Int.toNat_natCast, b2]
    rw [e] at this
    exact this
end Go.Ab.A15
namespace Go.Ab.A15
open Go Go.Ab Go.Ab.A34
def t0 : Tb := ⟨⟨#[]⟩, [], []⟩
abbrev tC (t : Tb) : List SV := [Str t.name, SL t.attrs, RL t.rows]
def tF (l : List Tb) (i : Nat) : List SV := tC (l.getD i t0)
abbrev TL (l : List Tb) : SV := .fl l.length 3 (tF l)
abbrev DB (l : List Tb) : SV := .agg [TL l]
def iF (l : List Int) (i : Nat) : List SV := [I64 (l.getD i 0)]
abbrev IL (l : List Int) : SV := .fl l.length 1 (iF l)
abbrev dC (d : Dp) : List SV := [Str d.f, IL d.l, Str d.t, IL d.r]
abbrev DV (d : Dp) : SV := .agg (dC d)
def tabI (x : ByteArray) : Nat → List Tb → Int
  | _, [] => -1
  | i, y :: l => if y.name = x then (i : Int) else tabI x (i + 1) l
theorem tabI_step {x : ByteArray} {l : List Tb} {i : Nat} (h : i < l.length) : tabI x i (l.drop i) = if (l.getD i t0).name = x then (i : Int) else tabI x (i + 1) (l.drop (i + 1)) := by
  have g : l.getD i t0 = l[i] := by simp [List.getD_eq_getElem?_getD, h]
  rw [List.drop_eq_getElem_cons h, g]
  rfl
theorem tabI_is {x : ByteArray} : ∀ {l : List Tb} {i : Nat}, (tabI x i l = -1 ∧ ∀ t ∈ l, t.name ≠ x) ∨ ∃ j, tabI x i l = ((i + j : Nat) : Int) ∧ j < l.length ∧ (l.getD j t0).name = x ∧ ∀ k, k < j → (l.getD k t0).name ≠ x
  | [], i => .inl ⟨rfl, fun t ht => by cases ht⟩
  | y :: l, i => by
    unfold tabI
    by_cases h : y.name = x
    · rw [if_pos h]
      exact .inr ⟨0, rfl, by simp, by simp [h], fun k hk => absurd hk (Nat.not_lt_zero _)⟩
    · rw [if_neg h]
      rcases tabI_is (x := x) (l := l) (i := i + 1) with ⟨h1, h2⟩ | ⟨j, e1, e2, e3, e4⟩
      · refine .inl ⟨h1, fun t ht => ?_⟩
        rcases List.mem_cons.1 ht with rfl | ht
        · exact h
        · exact h2 t ht
      · refine .inr ⟨j + 1, by rw [e1]; congr 1; omega, by simpa using e2, by simpa using e3, fun k hk => ?_⟩
        cases k with
        | zero => simpa using h
        | succ k => simpa using e4 k (by omega)
theorem iF_take {l : List Int} {i j : Nat} (hj : j < i) : iF l j = [I64 ((l.take i).getD j 0)] := by
  rw [getD_take _ _ _ _ hj]
  rfl
theorem tF_take {l : List Tb} {i j : Nat} (hj : j < i) : tF l j = tC ((l.take i).getD j t0) := by
  rw [getD_take _ _ _ _ hj]
  rfl
def winB (l : List Int) (n : Int) : Bool := l.all fun a => decide (0 ≤ a) && decide (a < n)
theorem winB_iff {l : List Int} {n : Int} : winB l n = true ↔ ∀ a ∈ l, 0 ≤ a ∧ a < n := by
  unfold winB
  simp [List.all_eq_true]
theorem posFi_step {p : Int → Bool} {l : List Int} {i : Nat} (h : i < l.length) : posF p i (l.drop i) = if p (l.getD i 0) = true then (i : Int) else posF p (i + 1) (l.drop (i + 1)) := posF_step 0 h
theorem nodup_take {l : List Int} : l.Nodup ↔ ∀ i, i < l.length → l.getD i 0 ∉ l.take i := by
  constructor
  · intro h i hi hm
    obtain ⟨j, hj, e⟩ := List.getElem_of_mem hm
    rw [List.length_take] at hj
    rw [List.getElem_take] at e
    have hj2 : j < l.length := by omega
    have := nodup_get h (i := j) (j := i) hj2 hi (by rw [← e]; simp [List.getD_eq_getElem?_getD, hj2])
    omega
  · intro h
    refine List.pairwise_iff_getElem.2 fun i j hi hj hij e => h j hj ?_
    have g : l.getD j 0 = l[j] := by simp [List.getD_eq_getElem?_getD, hj]
    rw [g, ← e]
    have hl : i < (l.take j).length := by rw [List.length_take]; omega
    have : (l.take j)[i] = l[i] := List.getElem_take
    rw [← this]
    exact List.getElem_mem hl
theorem nodup_at {l : List Int} : l.Nodup ↔ ∀ i, i < l.length → atI (l.getD i 0) 0 l = (i : Int) := by
  constructor
  · exact fun h i hi => atI_nodup h hi
  · intro h
    refine List.pairwise_iff_getElem.2 fun i j hi hj hij e => ?_
    have g1 : l.getD i 0 = l[i] := by simp [List.getD_eq_getElem?_getD, hi]
    have g2 : l.getD j 0 = l[j] := by simp [List.getD_eq_getElem?_getD, hj]
    have h1 := h i hi
    have h2 := h j hj
    rw [g1, e] at h1
    rw [g2] at h2
    omega
def fitsS (db : List Tb) (d : Dp) : Int :=
  if tabI d.f 0 db < 0 ∨ tabI d.t 0 db < 0 then 4
  else if ¬ d.l.length = d.r.length ∨ winB d.l (db.getD (tabI d.f 0 db).toNat t0).attrs.length = false ∨ winB d.r (db.getD (tabI d.t 0 db).toNat t0).attrs.length = false then 6
  else if d.l.Nodup ∧ d.r.Nodup then 0 else 1
end Go.Ab.A15
namespace Go.Proofs.YtpidncgibgiidaaGreat
open Go Go.Ab Go.Ab.A34 Go.Ab.A15
variable [Gl] [Tabs]
theorem find1_p (x : ByteArray) (t : Tb) : PCall Tryz.prog 137 [TB t, .fp [Str x]] (SB (decide (t.name = x))) := by
  obtain ⟨a, b, c⟩ := t
  simp only
  by_cases he : a = x
  · have ee : (a.toList == x.toList) = true := barr_eq.2 he
    rw [decide_eq_true he]
    refine Call.enter' (N := 8) (rs := [.tmp 3]) Tryz.func137 rfl rfl rfl (by decide) rfl ?_; simp only [argT]; have hD : (0 : Nat) = 0 := rfl
    repeat' first | (refine SW.seq_k fun K hK => ?_) | ((first | refine SW.region ?_ | refine SW.ret ?_ | (refine allF_i fun b hb => ?_; replace hD := And.intro hb hD; clear hb; try simp only [fresh_cons, fresh_nil, and_true, ne_eq, neF] at hD)); try simp only [go_sem, hD, ee]) | (apply hK; clear hK K)
    refine ret_pure ?_; simp only [resL_tmp, resL_nil, tupOf, go_sem, hD]
  · have ee : (a.toList == x.toList) = false := by rw [Bool.eq_false_iff]; exact fun h => he (barr_eq.1 h)
    rw [decide_eq_false he]
    refine Call.enter' (N := 8) (rs := [.tmp 3]) Tryz.func137 rfl rfl rfl (by decide) rfl ?_; simp only [argT]; have hD : (0 : Nat) = 0 := rfl
    repeat' first | (refine SW.seq_k fun K hK => ?_) | ((first | refine SW.region ?_ | refine SW.ret ?_ | (refine allF_i fun b hb => ?_; replace hD := And.intro hb hD; clear hb; try simp only [fresh_cons, fresh_nil, and_true, ne_eq, neF] at hD)); try simp only [go_sem, hD, ee]) | (apply hK; clear hK K)
    refine ret_pure ?_; simp only [resL_tmp, resL_nil, tupOf, go_sem, hD]
theorem indexT_p (x : ByteArray) (l : List Tb) (n : Nat) (hl : n ≤ 9223372036854775807) (hn : l.length = n) (f : Nat → List SV) (hf : ∀ i, i < n → f i = tC (l.getD i t0)) : PCall Tryz.prog 54 [.fl n 3 f, .fn (.func 137) [] [.fp [Str x]]] (I64 (tabI x 0 l)) := by
  subst hn
  obtain ⟨R, hR⟩ : ∃ R, R = tabI x 0 l := ⟨_, rfl⟩
  rw [← hR]
  refine Call.enter' (N := 19) (rs := [.tmp 4]) Tryz.func54 rfl rfl rfl (by decide) rfl ?_; simp only [argT]; have hD : (0 : Nat) = 0 := rfl
  repeat' first | (refine SW.seq_k fun K hK => ?_) | (refine SW.block ?_) | (refine SW.region ?_; try simp only [go_sem, hD]) | (apply hK; clear hK K)
  obtain ⟨I, hI⟩ : ∃ I : Nat → St → Prop, ∀ k S, I k S ↔ (∃ (i : Nat) , k = l.length - i ∧ i ≤ l.length ∧ R = tabI x i (l.drop i) ∧ S = ⟨[(0, .fl l.length 3 f), (1, .fn (.func 137) [] [.fp [Str x]]), (7, I64 l.length), (8, I64 i)], []⟩) := ⟨fun k S => _, fun _ _ => Iff.rfl⟩
  refine SW.loop' I (l.length) ((hI _ _).2 ⟨0, rfl, Nat.zero_le _, by rw [List.drop_zero]; exact hR, rfl⟩) (by repeat' (first | exact rfl | exact trivial | constructor)) ?_
  intro k S hIn
  obtain ⟨i, rfl, hi, hC, rfl⟩ := (hI _ _).1 hIn
  clear hIn
  have ie : ((i : Nat) : Int).toNat = i := Int.toNat_natCast _
  have i0 : (0 : Int) ≤ ((i : Nat) : Int) := by omega
  clear hR
  by_cases hlt : i < l.length
  · have hli : ((i : Nat) : Int) < (((l.length) : Nat) : Int) := by omega
    have w1 : IntKind.i64.wrap ((i : Int) + 1) = ((i + 1 : Nat) : Int) := by rw [i64_wrap (by omega) (by omega)]; omega
    rw [tabI_step hlt] at hC
    have fi := hf i hlt
    have c := find1_p x (l.getD i t0)
    generalize l.getD i t0 = t at *
    by_cases he : t.name = x
    · rw [if_pos he] at hC
      rw [decide_eq_true he] at c
      subst hC
      repeat' first | (refine SW.seq_k fun K hK => ?_) | (refine SW.block ?_) | ((first | refine SW.region ?_ | refine SW.cond ?_ | refine SW.skip ?_ | refine SW.ret ?_ | refine Call.of_pure (c) ?_); try simp only [go_sem, hD, hli, ie, i0, w1, fi]) | (apply hK; clear hK K)
      refine ret_pure ?_; simp only [resL_tmp, resL_nil, tupOf, go_sem, hD]
    · rw [if_neg he] at hC
      rw [decide_eq_false he] at c
      repeat' first | (refine SW.seq_k fun K hK => ?_) | (refine SW.block ?_) | ((first | refine SW.region ?_ | refine SW.cond ?_ | refine SW.skip ?_ | refine Call.of_pure (c) ?_); try simp only [go_sem, hD, hli, ie, i0, w1, fi]) | (apply hK; clear hK K)
      refine Rnd.sub (l.length - (i + 1)) (by omega) ((hI _ _).2 ⟨i + 1, rfl, by omega, hC, rfl⟩) (by repeat' (first | exact rfl | exact trivial | constructor))
  · have hli : ¬ ((i : Nat) : Int) < (((l.length) : Nat) : Int) := by omega
    rw [List.drop_of_length_le (by omega)] at hC
    have hC2 : R = -1 := hC
    subst hC2
    repeat' first | (refine SW.seq_k fun K hK => ?_) | ((first | refine SW.region ?_ | refine SW.cond ?_ | refine SW.exit ?_ | refine SW.ret ?_); try simp only [go_sem, hD, hli]) | (apply hK; clear hK K) | (clear hK K; apply hK; clear hK K)
    refine ret_pure ?_; simp only [resL_tmp, resL_nil, tupOf, go_sem, hD]
theorem find_p (x : ByteArray) (l : List Tb) (n : Nat) (hl : n ≤ 9223372036854775807) (hn : l.length = n) (f : Nat → List SV) (hf : ∀ i, i < n → f i = tC (l.getD i t0)) : PCall Tryz.prog 106 [.fl n 3 f, Str x] (I64 (tabI x 0 l)) := by
  have ix := indexT_p x l n hl hn f hf
  generalize tabI x 0 l = R at *
  refine Call.enter' (N := 8) (rs := [.tmp 4]) Tryz.func106 rfl rfl rfl (by decide) rfl ?_; simp only [argT]; have hD : (0 : Nat) = 0 := rfl
  repeat' first | ((refine Ab.SW.le (St.le_freezeP (i := 3) (n := 1) rfl (by rw [find_cons, if_pos rfl]) (by exact Nat.le_refl 1)) ?_); (rw [del_head]); (simp only [getN, Blk.get])) | (refine SW.seq_k fun K hK => ?_) | ((first | refine SW.region ?_ | refine SW.ret ?_ | refine Call.of_pure (ix) ?_ | (refine allF_i fun b hb => ?_; replace hD := And.intro hb hD; clear hb; try simp only [fresh_cons, fresh_nil, and_true, ne_eq, neF] at hD)); try simp only [go_sem, hD]) | (apply hK; clear hK K)
  refine ret_pure ?_; simp only [resL_tmp, resL_nil, tupOf, go_sem, hD]
theorem table_r (x : ByteArray) (l : List Tb) (n : Nat) (hl : n ≤ 9223372036854775807) (hn : l.length = n) (f : Nat → List SV) (hf : ∀ i, i < n → f i = tC (l.getD i t0)) : PCall Tryz.prog 33 [.fl n 3 f, Str x] (I64 (tabI x 0 l)) := by
  subst hn
  obtain ⟨R, hR⟩ : ∃ R, R = tabI x 0 l := ⟨_, rfl⟩
  rw [← hR]
  refine Call.enter' (N := 20) (rs := [.tmp 4]) Tryz.func33 rfl rfl rfl (by decide) rfl ?_; simp only [argT]; have hD : (0 : Nat) = 0 := rfl
  repeat' first | (refine SW.seq_k fun K hK => ?_) | (refine SW.block ?_) | (refine SW.region ?_; try simp only [go_sem, hD]) | (apply hK; clear hK K)
  obtain ⟨I, hI⟩ : ∃ I : Nat → St → Prop, ∀ k S, I k S ↔ (∃ (i : Nat) , k = l.length - i ∧ i ≤ l.length ∧ R = tabI x i (l.drop i) ∧ S = ⟨[(0, .fl l.length 3 f), (1, Str x), (5, I64 i)], []⟩) := ⟨fun k S => _, fun _ _ => Iff.rfl⟩
  refine SW.loop' I (l.length) ((hI _ _).2 ⟨0, rfl, Nat.zero_le _, by rw [List.drop_zero]; exact hR, rfl⟩) (by repeat' (first | exact rfl | exact trivial | constructor)) ?_
  intro k S hIn
  obtain ⟨i, rfl, hi, hC, rfl⟩ := (hI _ _).1 hIn
  clear hIn
  have ie : ((i : Nat) : Int).toNat = i := Int.toNat_natCast _
  have i0 : (0 : Int) ≤ ((i : Nat) : Int) := by omega
  clear hR
  by_cases hlt : i < l.length
  · have hli : ((i : Nat) : Int) < (((l.length) : Nat) : Int) := by omega
    have w1 : IntKind.i64.wrap ((i : Int) + 1) = ((i + 1 : Nat) : Int) := by rw [i64_wrap (by omega) (by omega)]; omega
    rw [tabI_step hlt] at hC
    have fi := hf i hlt
    generalize l.getD i t0 = t at *
    obtain ⟨a, b, c⟩ := t
    simp only at hC
    by_cases he : a = x
    · rw [if_pos he] at hC
      have ee : (a.toList == x.toList) = true := barr_eq.2 he
      subst hC
      repeat' first | (refine SW.seq_k fun K hK => ?_) | (refine SW.block ?_) | ((first | refine SW.region ?_ | refine SW.cond ?_ | refine SW.skip ?_ | refine SW.ret ?_); try simp only [go_sem, hD, hli, ie, i0, w1, fi, ee]) | (apply hK; clear hK K)
      refine ret_pure ?_; simp only [resL_tmp, resL_nil, tupOf, go_sem, hD]
    · rw [if_neg he] at hC
      have ee : (a.toList == x.toList) = false := by rw [Bool.eq_false_iff]; exact fun h => he (barr_eq.1 h)
      repeat' first | (refine SW.seq_k fun K hK => ?_) | (refine SW.block ?_) | ((first | refine SW.region ?_ | refine SW.cond ?_ | refine SW.skip ?_); try simp only [go_sem, hD, hli, ie, i0, w1, fi, ee]) | (apply hK; clear hK K)
      refine Rnd.sub (l.length - (i + 1)) (by omega) ((hI _ _).2 ⟨i + 1, rfl, by omega, hC, rfl⟩) (by repeat' (first | exact rfl | exact trivial | constructor))
  · have hli : ¬ ((i : Nat) : Int) < (((l.length) : Nat) : Int) := by omega
    rw [List.drop_of_length_le (by omega)] at hC
    have hC2 : R = -1 := hC
    subst hC2
    repeat' first | (refine SW.seq_k fun K hK => ?_) | ((first | refine SW.region ?_ | refine SW.cond ?_ | refine SW.exit ?_ | refine SW.ret ?_); try simp only [go_sem, hD, hli]) | (apply hK; clear hK K) | (clear hK K; apply hK; clear hK K)
    refine ret_pure ?_; simp only [resL_tmp, resL_nil, tupOf, go_sem, hD]
/-! numbers -/
theorem index_i (x : Int) (l : List Int) (n : Nat) (hl : n ≤ 9223372036854775807) (hn : l.length = n) (f : Nat → List SV) (hf : ∀ i, i < n → f i = [I64 (l.getD i 0)]) : PCall Tryz.prog 166 [.fl n 1 f, I64 x] (I64 (atI x 0 l)) := by
  subst hn
  obtain ⟨R, hR⟩ : ∃ R, R = atI x 0 l := ⟨_, rfl⟩
  rw [← hR]
  refine Call.enter' (N := 19) (rs := [.tmp 4]) Tryz.func166 rfl rfl rfl (by decide) rfl ?_; simp only [argT]; have hD : (0 : Nat) = 0 := rfl
  repeat' first | (refine SW.seq_k fun K hK => ?_) | (refine SW.block ?_) | (refine SW.region ?_; try simp only [go_sem, hD]) | (apply hK; clear hK K)
  obtain ⟨I, hI⟩ : ∃ I : Nat → St → Prop, ∀ k S, I k S ↔ (∃ (i : Nat) , k = l.length - i ∧ i ≤ l.length ∧ R = atI x i (l.drop i) ∧ S = ⟨[(0, .fl l.length 1 f), (1, I64 x), (7, I64 l.length), (8, I64 i)], []⟩) := ⟨fun k S => _, fun _ _ => Iff.rfl⟩
  refine SW.loop' I (l.length) ((hI _ _).2 ⟨0, rfl, Nat.zero_le _, by rw [List.drop_zero]; exact hR, rfl⟩) (by repeat' (first | exact rfl | exact trivial | constructor)) ?_
  intro k S hIn
  obtain ⟨i, rfl, hi, hC, rfl⟩ := (hI _ _).1 hIn
  clear hIn
  have ie : ((i : Nat) : Int).toNat = i := Int.toNat_natCast _
  have i0 : (0 : Int) ≤ ((i : Nat) : Int) := by omega
  clear hR
  by_cases hlt : i < l.length
  · have hli : ((i : Nat) : Int) < (((l.length) : Nat) : Int) := by omega
    have w1 : IntKind.i64.wrap ((i : Int) + 1) = ((i + 1 : Nat) : Int) := by rw [i64_wrap (by omega) (by omega)]; omega
    rw [atI_step hlt] at hC
    have fi := hf i hlt
    generalize l.getD i 0 = t at *
    by_cases he : t = x
    · rw [if_pos he] at hC
      subst hC
      repeat' first | (refine SW.seq_k fun K hK => ?_) | (refine SW.block ?_) | ((first | refine SW.region ?_ | refine SW.cond ?_ | refine SW.skip ?_ | refine SW.ret ?_); try simp only [go_sem, hD, hli, ie, i0, w1, fi, he]) | (apply hK; clear hK K)
      refine ret_pure ?_; simp only [resL_tmp, resL_nil, tupOf, go_sem, hD]
    · rw [if_neg he] at hC
      have he2 : ¬ x = t := fun e => he e.symm
      repeat' first | (refine SW.seq_k fun K hK => ?_) | (refine SW.block ?_) | ((first | refine SW.region ?_ | refine SW.cond ?_ | refine SW.skip ?_); try simp only [go_sem, hD, hli, ie, i0, w1, fi, he, he2]) | (apply hK; clear hK K)
      refine Rnd.sub (l.length - (i + 1)) (by omega) ((hI _ _).2 ⟨i + 1, rfl, by omega, hC, rfl⟩) (by repeat' (first | exact rfl | exact trivial | constructor))
  · have hli : ¬ ((i : Nat) : Int) < (((l.length) : Nat) : Int) := by omega
    rw [List.drop_of_length_le (by omega)] at hC
    have hC2 : R = -1 := hC
    subst hC2
    repeat' first | (refine SW.seq_k fun K hK => ?_) | ((first | refine SW.region ?_ | refine SW.cond ?_ | refine SW.exit ?_ | refine SW.ret ?_); try simp only [go_sem, hD, hli]) | (apply hK; clear hK K) | (clear hK K; apply hK; clear hK K)
    refine ret_pure ?_; simp only [resL_tmp, resL_nil, tupOf, go_sem, hD]
theorem at_r (x : Int) (l : List Int) (n : Nat) (hl : n ≤ 9223372036854775807) (hn : l.length = n) (f : Nat → List SV) (hf : ∀ i, i < n → f i = [I64 (l.getD i 0)]) : PCall Tryz.prog 104 [.fl n 1 f, I64 x] (I64 (atI x 0 l)) := by
  subst hn
  obtain ⟨R, hR⟩ : ∃ R, R = atI x 0 l := ⟨_, rfl⟩
  rw [← hR]
  refine Call.enter' (N := 19) (rs := [.tmp 4]) Tryz.func104 rfl rfl rfl (by decide) rfl ?_; simp only [argT]; have hD : (0 : Nat) = 0 := rfl
  repeat' first | (refine SW.seq_k fun K hK => ?_) | (refine SW.block ?_) | (refine SW.region ?_; try simp only [go_sem, hD]) | (apply hK; clear hK K)
  obtain ⟨I, hI⟩ : ∃ I : Nat → St → Prop, ∀ k S, I k S ↔ (∃ (i : Nat) , k = l.length - i ∧ i ≤ l.length ∧ R = atI x i (l.drop i) ∧ S = ⟨[(0, .fl l.length 1 f), (1, I64 x), (5, I64 i)], []⟩) := ⟨fun k S => _, fun _ _ => Iff.rfl⟩
  refine SW.loop' I (l.length) ((hI _ _).2 ⟨0, rfl, Nat.zero_le _, by rw [List.drop_zero]; exact hR, rfl⟩) (by repeat' (first | exact rfl | exact trivial | constructor)) ?_
  intro k S hIn
  obtain ⟨i, rfl, hi, hC, rfl⟩ := (hI _ _).1 hIn
  clear hIn
  have ie : ((i : Nat) : Int).toNat = i := Int.toNat_natCast _
  have i0 : (0 : Int) ≤ ((i : Nat) : Int) := by omega
  clear hR
  by_cases hlt : i < l.length
  · have hli : ((i : Nat) : Int) < (((l.length) : Nat) : Int) := by omega
    have w1 : IntKind.i64.wrap ((i : Int) + 1) = ((i + 1 : Nat) : Int) := by rw [i64_wrap (by omega) (by omega)]; omega
    rw [atI_step hlt] at hC
    have fi := hf i hlt
    generalize l.getD i 0 = t at *
    by_cases he : t = x
    · rw [if_pos he] at hC
      subst hC
      repeat' first | (refine SW.seq_k fun K hK => ?_) | (refine SW.block ?_) | ((first | refine SW.region ?_ | refine SW.cond ?_ | refine SW.skip ?_ | refine SW.ret ?_); try simp only [go_sem, hD, hli, ie, i0, w1, fi, he]) | (apply hK; clear hK K)
      refine ret_pure ?_; simp only [resL_tmp, resL_nil, tupOf, go_sem, hD]
    · rw [if_neg he] at hC
      repeat' first | (refine SW.seq_k fun K hK => ?_) | (refine SW.block ?_) | ((first | refine SW.region ?_ | refine SW.cond ?_ | refine SW.skip ?_); try simp only [go_sem, hD, hli, ie, i0, w1, fi, he]) | (apply hK; clear hK K)
      refine Rnd.sub (l.length - (i + 1)) (by omega) ((hI _ _).2 ⟨i + 1, rfl, by omega, hC, rfl⟩) (by repeat' (first | exact rfl | exact trivial | constructor))
  · have hli : ¬ ((i : Nat) : Int) < (((l.length) : Nat) : Int) := by omega
    rw [List.drop_of_length_le (by omega)] at hC
    have hC2 : R = -1 := hC
    subst hC2
    repeat' first | (refine SW.seq_k fun K hK => ?_) | ((first | refine SW.region ?_ | refine SW.cond ?_ | refine SW.exit ?_ | refine SW.ret ?_); try simp only [go_sem, hD, hli]) | (apply hK; clear hK K) | (clear hK K; apply hK; clear hK K)
    refine ret_pure ?_; simp only [resL_tmp, resL_nil, tupOf, go_sem, hD]
theorem contains_i (x : Int) (l : List Int) (n : Nat) (hl : n ≤ 9223372036854775807) (hn : l.length = n) (f : Nat → List SV) (hf : ∀ i, i < n → f i = [I64 (l.getD i 0)]) : PCall Tryz.prog 129 [.fl n 1 f, I64 x] (SB (decide (0 ≤ atI x 0 l))) := by
  have ix := index_i x l n hl hn f hf
  generalize atI x 0 l = R at *
  refine Call.enter' (N := 9) (rs := [.tmp 4]) Tryz.func129 rfl rfl rfl (by decide) rfl ?_; simp only [argT]; have hD : (0 : Nat) = 0 := rfl
  repeat' first | (refine SW.seq_k fun K hK => ?_) | ((first | refine SW.region ?_ | refine SW.ret ?_ | refine Call.of_pure (ix) ?_); try simp only [go_sem, hD]) | (apply hK; clear hK K)
  refine ret_pure ?_; simp only [resL_tmp, resL_nil, tupOf, go_sem, hD]
theorem within1_p (a n : Int) : PCall Tryz.prog 200 [I64 a, .fp [I64 n]] (SB (!(decide (0 ≤ a) && decide (a < n)))) := by
  by_cases h1 : a < 0
  · rw [decide_eq_false (show ¬ 0 ≤ a by omega)]
    refine Call.enter' (N := 11) (rs := [.tmp 3]) Tryz.func200 rfl rfl rfl (by decide) rfl ?_; simp only [argT]; have hD : (0 : Nat) = 0 := rfl
    repeat' first | (refine SW.seq_k fun K hK => ?_) | ((first | refine SW.region ?_ | refine SW.ret ?_); try simp only [go_sem, hD, h1]) | (apply hK; clear hK K)
    refine ret_pure ?_; simp only [resL_tmp, resL_nil, tupOf, go_sem, hD]
  · rw [decide_eq_true (show 0 ≤ a by omega)]
    by_cases h2 : a < n
    · have h3 : ¬ n ≤ a := by omega
      rw [decide_eq_true h2]
      refine Call.enter' (N := 11) (rs := [.tmp 3]) Tryz.func200 rfl rfl rfl (by decide) rfl ?_; simp only [argT]; have hD : (0 : Nat) = 0 := rfl
      repeat' first | (refine SW.seq_k fun K hK => ?_) | ((first | refine SW.region ?_ | refine SW.ret ?_); try simp only [go_sem, hD, h1, h3]) | (apply hK; clear hK K)
      refine ret_pure ?_; simp only [resL_tmp, resL_nil, tupOf, go_sem, hD]
    · have h3 : n ≤ a := by omega
      rw [decide_eq_false h2]
      refine Call.enter' (N := 11) (rs := [.tmp 3]) Tryz.func200 rfl rfl rfl (by decide) rfl ?_; simp only [argT]; have hD : (0 : Nat) = 0 := rfl
      repeat' first | (refine SW.seq_k fun K hK => ?_) | ((first | refine SW.region ?_ | refine SW.ret ?_); try simp only [go_sem, hD, h1, h3]) | (apply hK; clear hK K)
      refine ret_pure ?_; simp only [resL_tmp, resL_nil, tupOf, go_sem, hD]
theorem indexF_i (g : FuncId) (caps : List SV) (p : Int → Bool) (hg : ∀ v, PCall Tryz.prog g (I64 v :: caps) (SB (p v))) (l : List Int) (hl : l.length ≤ 9223372036854775807) : PCall Tryz.prog 207 [IL l, .fn (.func g) [] caps] (I64 (posF p 0 l)) := by
  obtain ⟨R, hR⟩ : ∃ R, R = posF p 0 l := ⟨_, rfl⟩
  rw [← hR]
  refine Call.enter' (N := 19) (rs := [.tmp 4]) Tryz.func207 rfl rfl rfl (by decide) rfl ?_; simp only [argT]; have hD : (0 : Nat) = 0 := rfl
  repeat' first | (refine SW.seq_k fun K hK => ?_) | (refine SW.block ?_) | (refine SW.region ?_; try simp only [go_sem, hD]) | (apply hK; clear hK K)
  obtain ⟨I, hI⟩ : ∃ I : Nat → St → Prop, ∀ k S, I k S ↔ (∃ (i : Nat) , k = l.length - i ∧ i ≤ l.length ∧ R = posF p i (l.drop i) ∧ S = ⟨[(0, IL l), (1, .fn (.func g) [] caps), (7, I64 l.length), (8, I64 i)], []⟩) := ⟨fun k S => _, fun _ _ => Iff.rfl⟩
  refine SW.loop' I (l.length) ((hI _ _).2 ⟨0, rfl, Nat.zero_le _, hR, rfl⟩) (by repeat' (first | exact rfl | exact trivial | constructor)) ?_
  intro k S hIn
  obtain ⟨i, rfl, hi, hC, rfl⟩ := (hI _ _).1 hIn
  clear hIn
  have ie : ((i : Nat) : Int).toNat = i := Int.toNat_natCast _
  have i0 : (0 : Int) ≤ ((i : Nat) : Int) := by omega
  clear hR
  by_cases hlt : i < l.length
  · have hli : ((i : Nat) : Int) < (((l.length) : Nat) : Int) := by omega
    have w1 : IntKind.i64.wrap ((i : Int) + 1) = ((i + 1 : Nat) : Int) := by rw [i64_wrap (by omega) (by omega)]; omega
    rw [posFi_step hlt] at hC
    have fi : iF l i = [I64 (l.getD i 0)] := rfl
    have c := hg (l.getD i 0)
    generalize l.getD i 0 = t at *
    cases he : p t with
    | true =>
      rw [he] at c
      rw [he, if_pos rfl] at hC
      subst hC
      repeat' first | (refine SW.seq_k fun K hK => ?_) | (refine SW.block ?_) | ((first | refine SW.region ?_ | refine SW.cond ?_ | refine SW.skip ?_ | refine SW.ret ?_ | refine Call.of_pure (c) ?_); try simp only [go_sem, hD, hli, ie, i0, w1, fi]) | (apply hK; clear hK K)
      refine ret_pure ?_; simp only [resL_tmp, resL_nil, tupOf, go_sem, hD]
    | false =>
      rw [he] at c
      rw [he, if_neg (by simp)] at hC
      repeat' first | (refine SW.seq_k fun K hK => ?_) | (refine SW.block ?_) | ((first | refine SW.region ?_ | refine SW.cond ?_ | refine SW.skip ?_ | refine Call.of_pure (c) ?_); try simp only [go_sem, hD, hli, ie, i0, w1, fi]) | (apply hK; clear hK K)
      refine Rnd.sub (l.length - (i + 1)) (by omega) ((hI _ _).2 ⟨i + 1, rfl, by omega, hC, rfl⟩) (by repeat' (first | exact rfl | exact trivial | constructor))
  · have hli : ¬ ((i : Nat) : Int) < (((l.length) : Nat) : Int) := by omega
    rw [List.drop_of_length_le (by omega)] at hC
    have hC2 : R = -1 := hC
    subst hC2
    repeat' first | (refine SW.seq_k fun K hK => ?_) | ((first | refine SW.region ?_ | refine SW.cond ?_ | refine SW.exit ?_ | refine SW.ret ?_); try simp only [go_sem, hD, hli]) | (apply hK; clear hK K) | (clear hK K; apply hK; clear hK K)
    refine ret_pure ?_; simp only [resL_tmp, resL_nil, tupOf, go_sem, hD]
theorem within_p (l : List Int) (n : Int) (hl : l.length ≤ 9223372036854775807) : PCall Tryz.prog 178 [IL l, I64 n] (SB (winB l n)) := by
  have ix := indexF_i 200 [.fp [I64 n]] (fun a => !(decide (0 ≤ a) && decide (a < n))) (fun v => within1_p v n) l hl
  have hm := posF_any (fun a => !(decide (0 ≤ a) && decide (a < n))) l 0
  have cf : PCall Tryz.prog 199 [IL l, .fn (.func 200) [] [.fp [I64 n]]] (SB (!(winB l n))) := by
    have e : decide (0 ≤ posF (fun a => !(decide (0 ≤ a) && decide (a < n))) 0 l) = !(winB l n) := by
      rw [Bool.eq_iff_iff, decide_eq_true_eq, hm]
      unfold winB
      simp [List.any_eq_true]
      constructor
      · rintro ⟨x, hx, h⟩
        exact ⟨x, hx, by omega⟩
      · rintro ⟨x, hx, h⟩
        exact ⟨x, hx, by omega⟩
    generalize posF (fun a => !(decide (0 ≤ a) && decide (a < n))) 0 l = Q at *
    generalize winB l n = W at *
    refine Call.enter' (N := 9) (rs := [.tmp 4]) Tryz.func199 rfl rfl rfl (by decide) rfl ?_; simp only [argT]; have hD : (0 : Nat) = 0 := rfl
    repeat' first | (refine SW.seq_k fun K hK => ?_) | ((first | refine SW.region ?_ | refine SW.ret ?_ | refine Call.of_pure (ix) ?_); try simp only [go_sem, hD, e]) | (apply hK; clear hK K)
    refine ret_pure ?_; simp only [resL_tmp, resL_nil, tupOf, go_sem, hD]
  generalize winB l n = W at *
  refine Call.enter' (N := 9) (rs := [.tmp 4]) Tryz.func178 rfl rfl rfl (by decide) rfl ?_; simp only [argT]; have hD : (0 : Nat) = 0 := rfl
  repeat' first | ((refine Ab.SW.le (St.le_freezeP (i := 3) (n := 1) rfl (by rw [find_cons, if_pos rfl]) (by exact Nat.le_refl 1)) ?_); (rw [del_head]); (simp only [getN, Blk.get])) | (refine SW.seq_k fun K hK => ?_) | ((first | refine SW.region ?_ | refine SW.ret ?_ | refine Call.of_pure (cf) ?_ | (refine allF_i fun b hb => ?_; replace hD := And.intro hb hD; clear hb; try simp only [fresh_cons, fresh_nil, and_true, ne_eq, neF] at hD)); try simp only [go_sem, hD]) | (apply hK; clear hK K)
  refine ret_pure ?_; simp only [resL_tmp, resL_nil, tupOf, go_sem, hD]
  rw [Bool.not_not]
theorem indices_r (l : List Int) (n : Int) (hl : l.length ≤ 9223372036854775807) : PCall Tryz.prog 101 [IL l, I64 n] (SB (winB l n)) := by
  obtain ⟨X, hX⟩ : ∃ X, X = winB l n := ⟨_, rfl⟩
  rw [← hX]
  have h1 : (∀ j, j < l.length → 0 ≤ l.getD j 0 ∧ l.getD j 0 < n) → X = true := fun h => by
    rw [hX, winB_iff]
    intro a ha
    obtain ⟨j, hj, rfl⟩ := List.getElem_of_mem ha
    have := h j hj
    rwa [show l.getD j 0 = l[j] by simp [List.getD_eq_getElem?_getD, hj]] at this
  have h2 : ∀ j, j < l.length → ¬ (0 ≤ l.getD j 0 ∧ l.getD j 0 < n) → X = false := fun j hj h => by
    rw [hX, Bool.eq_false_iff]
    exact fun hw => h (winB_iff.1 hw _ (getD_mem' 0 hj))
  clear hX
  refine Call.enter' (N := 25) (rs := [.tmp 4]) Tryz.func101 rfl rfl rfl (by decide) rfl ?_; simp only [argT]; have hD : (0 : Nat) = 0 := rfl
  repeat' first | (refine SW.seq_k fun K hK => ?_) | (refine SW.block ?_) | (refine SW.region ?_; try simp only [go_sem, hD]) | (apply hK; clear hK K)
  obtain ⟨I, hI⟩ : ∃ I : Nat → St → Prop, ∀ k S, I k S ↔ (∃ (i : Nat) , k = l.length - i ∧ i ≤ l.length ∧ (∀ j, j < i → 0 ≤ l.getD j 0 ∧ l.getD j 0 < n) ∧ S = ⟨[(0, IL l), (1, I64 n), (5, I64 i)], []⟩) := ⟨fun k S => _, fun _ _ => Iff.rfl⟩
  refine SW.loop' I (l.length) ((hI _ _).2 ⟨0, rfl, Nat.zero_le _, (fun j hj => absurd hj (by omega)), rfl⟩) (by repeat' (first | exact rfl | exact trivial | constructor)) ?_
  intro k S hIn
  obtain ⟨i, rfl, hi, hL, rfl⟩ := (hI _ _).1 hIn
  clear hIn
  have ie : ((i : Nat) : Int).toNat = i := Int.toNat_natCast _
  have i0 : (0 : Int) ≤ ((i : Nat) : Int) := by omega
  by_cases hlt : i < l.length
  · have hli : ((i : Nat) : Int) < (((l.length) : Nat) : Int) := by omega
    have w1 : IntKind.i64.wrap ((i : Int) + 1) = ((i + 1 : Nat) : Int) := by rw [i64_wrap (by omega) (by omega)]; omega
    have fi : iF l i = [I64 (l.getD i 0)] := rfl
    have hn1 : (0 ≤ l.getD i 0 ∧ l.getD i 0 < n) → ∀ j, j < i + 1 → 0 ≤ l.getD j 0 ∧ l.getD j 0 < n := fun h j hj => by
      rcases Nat.lt_or_ge j i with h3 | h3
      · exact hL j h3
      · obtain rfl : j = i := by omega
        exact h
    have h2i := h2 i hlt
    generalize l.getD i 0 = t at *
    by_cases a1 : t < 0
    · have hx := h2i (by omega)
      subst hx
      repeat' first | (refine SW.seq_k fun K hK => ?_) | (refine SW.block ?_) | ((first | refine SW.region ?_ | refine SW.cond ?_ | refine SW.skip ?_ | refine SW.ret ?_); try simp only [go_sem, hD, hli, ie, i0, w1, fi, a1]) | (apply hK; clear hK K)
      refine ret_pure ?_; simp only [resL_tmp, resL_nil, tupOf, go_sem, hD]
    · by_cases a2 : n ≤ t
      · have hx := h2i (by omega)
        subst hx
        repeat' first | (refine SW.seq_k fun K hK => ?_) | (refine SW.block ?_) | ((first | refine SW.region ?_ | refine SW.cond ?_ | refine SW.skip ?_ | refine SW.ret ?_); try simp only [go_sem, hD, hli, ie, i0, w1, fi, a1, a2]) | (apply hK; clear hK K)
        refine ret_pure ?_; simp only [resL_tmp, resL_nil, tupOf, go_sem, hD]
      · have hn2 := hn1 ⟨by omega, by omega⟩
        repeat' first | (refine SW.seq_k fun K hK => ?_) | (refine SW.block ?_) | ((first | refine SW.region ?_ | refine SW.cond ?_ | refine SW.skip ?_); try simp only [go_sem, hD, hli, ie, i0, w1, fi, a1, a2]) | (apply hK; clear hK K)
        refine Rnd.sub (l.length - (i + 1)) (by omega) ((hI _ _).2 ⟨i + 1, rfl, by omega, hn2, rfl⟩) (by repeat' (first | exact rfl | exact trivial | constructor))
  · have hli : ¬ ((i : Nat) : Int) < (((l.length) : Nat) : Int) := by omega
    have hx := h1 fun j hj => hL j (by omega)
    subst hx
    repeat' first | (refine SW.seq_k fun K hK => ?_) | ((first | refine SW.region ?_ | refine SW.cond ?_ | refine SW.exit ?_ | refine SW.ret ?_); try simp only [go_sem, hD, hli]) | (apply hK; clear hK K) | (clear hK K; apply hK; clear hK K)
    refine ret_pure ?_; simp only [resL_tmp, resL_nil, tupOf, go_sem, hD]
theorem repeated_p (l : List Int) (hl : l.length ≤ 9223372036854775807) : PCall Tryz.prog 179 [IL l] (SB (!decide l.Nodup)) := by
  obtain ⟨X, hX⟩ : ∃ X, X = !decide l.Nodup := ⟨_, rfl⟩
  rw [← hX]
  have h1 : (∀ j, j < l.length → atI (l.getD j 0) 0 (l.take j) < 0) → X = false := fun h => by
    rw [hX, decide_eq_true (nodup_take.2 fun i hi => atI_none.1 (h i hi))]
    rfl
  have h2 : ∀ j, j < l.length → ¬ atI (l.getD j 0) 0 (l.take j) < 0 → X = true := fun j hj h => by
    rw [hX, decide_eq_false fun hn => h (atI_none.2 (nodup_take.1 hn j hj))]
    rfl
  clear hX
  refine Call.enter' (N := 18) (rs := [.tmp 2]) Tryz.func179 rfl rfl rfl (by decide) rfl ?_; simp only [argT]; have hD : (0 : Nat) = 0 := rfl
  repeat' first | (refine SW.seq_k fun K hK => ?_) | (refine SW.block ?_) | (refine SW.region ?_; try simp only [go_sem, hD]) | (apply hK; clear hK K)
  obtain ⟨I, hI⟩ : ∃ I : Nat → St → Prop, ∀ k S, I k S ↔ (∃ (i : Nat) , k = l.length - i ∧ i ≤ l.length ∧ (∀ j, j < i → atI (l.getD j 0) 0 (l.take j) < 0) ∧ S = ⟨[(0, IL l), (5, IL l), (6, I64 l.length), (7, I64 i)], []⟩) := ⟨fun k S => _, fun _ _ => Iff.rfl⟩
  refine SW.loop' I (l.length) ((hI _ _).2 ⟨0, rfl, Nat.zero_le _, (fun j hj => absurd hj (by omega)), rfl⟩) (by repeat' (first | exact rfl | exact trivial | constructor)) ?_
  intro k S hIn
  obtain ⟨i, rfl, hi, hL, rfl⟩ := (hI _ _).1 hIn
  clear hIn
  have ie : ((i : Nat) : Int).toNat = i := Int.toNat_natCast _
  have i0 : (0 : Int) ≤ ((i : Nat) : Int) := by omega
  by_cases hlt : i < l.length
  · have hli : ((i : Nat) : Int) < (((l.length) : Nat) : Int) := by omega
    have w1 : IntKind.i64.wrap ((i : Int) + 1) = ((i + 1 : Nat) : Int) := by rw [i64_wrap (by omega) (by omega)]; omega
    have fi : iF l i = [I64 (l.getD i 0)] := rfl
    have hn1 : (atI (l.getD i 0) 0 (l.take i) < 0) → ∀ j, j < i + 1 → atI (l.getD j 0) 0 (l.take j) < 0 := fun h j hj => by
      rcases Nat.lt_or_ge j i with h3 | h3
      · exact hL j h3
      · obtain rfl : j = i := by omega
        exact h
    have h2i := h2 i hlt
    have iz : (((i : Nat) : Int) - 0).toNat = i := by omega
    have il : ((i : Nat) : Int) ≤ ((l.length : Nat) : Int) := by omega
    have c := contains_i (l.getD i 0) (l.take i) i (by omega) (by rw [List.length_take]; omega) (iF l) (fun j hj => iF_take hj)
    generalize l.getD i 0 = t at *
    generalize atI t 0 (l.take i) = q at *
    by_cases a1 : q < 0
    · rw [decide_eq_false (show ¬ 0 ≤ q by omega)] at c
      have hn2 := hn1 a1
      repeat' first | (refine SW.seq_k fun K hK => ?_) | (refine SW.block ?_) | ((first | refine SW.region ?_ | refine SW.cond ?_ | refine SW.skip ?_ | refine Call.of_pure (c) ?_); try simp only [go_sem, hD, hli, ie, i0, w1, fi, iz, il]) | (apply hK; clear hK K)
      refine Rnd.sub (l.length - (i + 1)) (by omega) ((hI _ _).2 ⟨i + 1, rfl, by omega, hn2, rfl⟩) (by repeat' (first | exact rfl | exact trivial | constructor))
    · rw [decide_eq_true (show 0 ≤ q by omega)] at c
      have hx := h2i a1
      subst hx
      repeat' first | (refine SW.seq_k fun K hK => ?_) | (refine SW.block ?_) | ((first | refine SW.region ?_ | refine SW.cond ?_ | refine SW.skip ?_ | refine SW.ret ?_ | refine Call.of_pure (c) ?_); try simp only [go_sem, hD, hli, ie, i0, w1, fi, iz, il]) | (apply hK; clear hK K)
      refine ret_pure ?_; simp only [resL_tmp, resL_nil, tupOf, go_sem, hD]
  · have hli : ¬ ((i : Nat) : Int) < (((l.length) : Nat) : Int) := by omega
    have hx := h1 fun j hj => hL j (by omega)
    subst hx
    repeat' first | (refine SW.seq_k fun K hK => ?_) | ((first | refine SW.region ?_ | refine SW.cond ?_ | refine SW.exit ?_ | refine SW.ret ?_); try simp only [go_sem, hD, hli]) | (apply hK; clear hK K) | (clear hK K; apply hK; clear hK K)
    refine ret_pure ?_; simp only [resL_tmp, resL_nil, tupOf, go_sem, hD]
theorem once_r (l : List Int) (hl : l.length ≤ 9223372036854775807) : PCall Tryz.prog 102 [IL l] (SB (decide l.Nodup)) := by
  obtain ⟨X, hX⟩ : ∃ X, X = decide l.Nodup := ⟨_, rfl⟩
  rw [← hX]
  have h1 : (∀ j, j < l.length → atI (l.getD j 0) 0 l = (j : Int)) → X = true := fun h => by
    rw [hX, decide_eq_true (nodup_at.2 h)]
  have h2 : ∀ j, j < l.length → ¬ atI (l.getD j 0) 0 l = (j : Int) → X = false := fun j hj h => by
    rw [hX, decide_eq_false fun hn => h (nodup_at.1 hn j hj)]
  clear hX
  refine Call.enter' (N := 18) (rs := [.tmp 2]) Tryz.func102 rfl rfl rfl (by decide) rfl ?_; simp only [argT]; have hD : (0 : Nat) = 0 := rfl
  repeat' first | (refine SW.seq_k fun K hK => ?_) | (refine SW.block ?_) | (refine SW.region ?_; try simp only [go_sem, hD]) | (apply hK; clear hK K)
  obtain ⟨I, hI⟩ : ∃ I : Nat → St → Prop, ∀ k S, I k S ↔ (∃ (i : Nat) , k = l.length - i ∧ i ≤ l.length ∧ (∀ j, j < i → atI (l.getD j 0) 0 l = (j : Int)) ∧ S = ⟨[(0, IL l), (3, I64 i)], []⟩) := ⟨fun k S => _, fun _ _ => Iff.rfl⟩
  refine SW.loop' I (l.length) ((hI _ _).2 ⟨0, rfl, Nat.zero_le _, (fun j hj => absurd hj (by omega)), rfl⟩) (by repeat' (first | exact rfl | exact trivial | constructor)) ?_
  intro k S hIn
  obtain ⟨i, rfl, hi, hL, rfl⟩ := (hI _ _).1 hIn
  clear hIn
  have ie : ((i : Nat) : Int).toNat = i := Int.toNat_natCast _
  have i0 : (0 : Int) ≤ ((i : Nat) : Int) := by omega
  by_cases hlt : i < l.length
  · have hli : ((i : Nat) : Int) < (((l.length) : Nat) : Int) := by omega
    have w1 : IntKind.i64.wrap ((i : Int) + 1) = ((i + 1 : Nat) : Int) := by rw [i64_wrap (by omega) (by omega)]; omega
    have fi : iF l i = [I64 (l.getD i 0)] := rfl
    have hn1 : atI (l.getD i 0) 0 l = (i : Int) → ∀ j, j < i + 1 → atI (l.getD j 0) 0 l = (j : Int) := fun h j hj => by
      rcases Nat.lt_or_ge j i with h3 | h3
      · exact hL j h3
      · obtain rfl : j = i := by omega
        exact h
    have h2i := h2 i hlt
    have c := at_r (l.getD i 0) l l.length hl rfl (iF l) (fun j hj => rfl)
    generalize l.getD i 0 = t at *
    generalize atI t 0 l = q at *
    by_cases a1 : q = (i : Int)
    · have hn2 := hn1 a1
      repeat' first | (refine SW.seq_k fun K hK => ?_) | (refine SW.block ?_) | ((first | refine SW.region ?_ | refine SW.cond ?_ | refine SW.skip ?_ | refine Call.of_pure (c) ?_); try simp only [go_sem, hD, hli, ie, i0, w1, fi, a1]) | (apply hK; clear hK K)
      refine Rnd.sub (l.length - (i + 1)) (by omega) ((hI _ _).2 ⟨i + 1, rfl, by omega, hn2, rfl⟩) (by repeat' (first | exact rfl | exact trivial | constructor))
    · have hx := h2i a1
      subst hx
      repeat' first | (refine SW.seq_k fun K hK => ?_) | (refine SW.block ?_) | ((first | refine SW.region ?_ | refine SW.cond ?_ | refine SW.skip ?_ | refine SW.ret ?_ | refine Call.of_pure (c) ?_); try simp only [go_sem, hD, hli, ie, i0, w1, fi, a1]) | (apply hK; clear hK K)
      refine ret_pure ?_; simp only [resL_tmp, resL_nil, tupOf, go_sem, hD]
  · have hli : ¬ ((i : Nat) : Int) < (((l.length) : Nat) : Int) := by omega
    have hx := h1 fun j hj => hL j (by omega)
    subst hx
    repeat' first | (refine SW.seq_k fun K hK => ?_) | ((first | refine SW.region ?_ | refine SW.cond ?_ | refine SW.exit ?_ | refine SW.ret ?_); try simp only [go_sem, hD, hli]) | (apply hK; clear hK K) | (clear hK K; apply hK; clear hK K)
    refine ret_pure ?_; simp only [resL_tmp, resL_nil, tupOf, go_sem, hD]
end Go.Proofs.YtpidncgibgiidaaGreat
namespace Go.Ab.A15
def Agr {α : Type} (z : α) (a b : List Int) (x y : List α) : Prop := ∀ i, i < a.length → x.getD (a.getD i 0).toNat z = y.getD (b.getD i 0).toNat z
end Go.Ab.A15
namespace Go.Ab.A15
open Go Go.Ab Go.Ab.A34 Go.Ab.A01
def kL (v : V3) : List UInt8 := keyL v.1 v.2.1 v.2.2
def catK (r : R3) (a : List Int) : List UInt8 := a.flatMap fun x => kL (r.2.getD x.toNat v0)
def inV (v : V3) : Prop := -9223372036854775808 ≤ v.2.1 ∧ v.2.1 ≤ 9223372036854775807
structure OkR (r : R3) : Prop where
  v : ∀ v ∈ r.2, okV v = true
  n : ∀ v ∈ r.2, inV v
theorem kL_len {v : V3} (h : okV v = true) : 1 ≤ (kL v).length ∧ (kL v).length ≤ 500 := by
  have h2 : v.2.2.data.toList.length = v.2.2.size := Array.length_toList
  have h3 := okV_size h
  have h4 := num8_len v.2.1
  have h5 : ∀ l : List UInt8, (escL l).length ≤ 2 * l.length := fun l => by
    induction l with
    | nil => exact Nat.le_refl _
    | cons c l ih =>
      rw [escL_cons, List.length_append, List.length_cons]
      split <;> simp <;> omega
  have h6 := h5 v.2.2.data.toList
  unfold kL keyL
  rw [List.length_cons]
  split
  · omega
  · split
    · rw [List.length_append]
      simp
      omega
    · simp
theorem kL_inj {v w : V3} {x y : List UInt8} (hv : okV v = true) (hw : okV w = true) (nv : inV v) (nw : inV w) (h : kL v ++ x = kL w ++ y) : v = w ∧ x = y := by
  have e1 := from_key (k := v.1) (n := v.2.1) (t := v.2.2) hv nv x
  have e2 := from_key (k := w.1) (n := w.2.1) (t := w.2.2) hw nw y
  have h' : keyL v.1 v.2.1 v.2.2 ++ x = keyL w.1 w.2.1 w.2.2 ++ y := h
  rw [h', e2] at e1
  have e : v = w := by
    simp only [Prod.mk.injEq] at e1
    obtain ⟨⟨a1, a2, a3⟩, _⟩ := e1
    obtain ⟨k, n, t⟩ := v
    obtain ⟨k', n', t'⟩ := w
    simp only at a1 a2 a3
    rw [a1, a2, a3]
  subst e
  exact ⟨rfl, List.append_cancel_left h⟩
theorem catK_inj {r q : R3} (hr : OkR r) (hq : OkR q) : ∀ {a b : List Int}, a.length = b.length → (∀ x ∈ a, 0 ≤ x ∧ x < r.2.length) → (∀ x ∈ b, 0 ≤ x ∧ x < q.2.length) → (catK r a = catK q b ↔ Agr v0 a b r.2 q.2)
  | [], [], _, _, _ => ⟨fun _ i hi => absurd hi (Nat.not_lt_zero _), fun _ => rfl⟩
  | [], _ :: _, h, _, _ => by simp at h
  | _ :: _, [], h, _, _ => by simp at h
  | x :: a, y :: b, h, ha, hb => by
    have hx := ha x List.mem_cons_self
    have hy := hb y List.mem_cons_self
    have mx : r.2.getD x.toNat v0 ∈ r.2 := getD_mem v0 (by omega)
    have my : q.2.getD y.toNat v0 ∈ q.2 := getD_mem v0 (by omega)
    have ih := catK_inj hr hq (a := a) (b := b) (by simpa using h) (fun z hz => ha z (List.mem_cons_of_mem _ hz)) (fun z hz => hb z (List.mem_cons_of_mem _ hz))
    have ex : catK r (x :: a) = kL (r.2.getD x.toNat v0) ++ catK r a := by unfold catK; rw [List.flatMap_cons]
    have ey : catK q (y :: b) = kL (q.2.getD y.toNat v0) ++ catK q b := by unfold catK; rw [List.flatMap_cons]
    rw [ex, ey]
    constructor
    · intro e
      obtain ⟨e1, e2⟩ := kL_inj (hr.v _ mx) (hq.v _ my) (hr.n _ mx) (hq.n _ my) e
      have h2 := ih.1 e2
      intro i hi
      cases i with
      | zero => simpa using e1
      | succ i =>
        have := h2 i (by simpa using hi)
        simpa using this
    · intro hA
      have h0 := hA 0 (by simp)
      simp only [List.getD_cons_zero] at h0
      rw [h0, ih.2 fun i hi => by
        have := hA (i + 1) (by simpa using hi)
        simpa using this]
theorem catK_take (r : R3) (a : List Int) (i : Nat) (h : i < a.length) : catK r (a.take (i + 1)) = catK r (a.take i) ++ kL (r.2.getD (a.getD i 0).toNat v0) := by
  have g : a.getD i 0 = a[i] := by simp [List.getD_eq_getElem?_getD, h]
  unfold catK
  rw [List.take_succ_eq_append_getElem h, List.flatMap_append, g]
  simp
theorem catK_len {r : R3} (hr : OkR r) {a : List Int} (ha : ∀ x ∈ a, 0 ≤ x ∧ x < r.2.length) : (catK r a).length ≤ 500 * a.length := by
  unfold catK
  induction a with
  | nil => exact Nat.le_refl _
  | cons x a ih =>
    have hx := ha x List.mem_cons_self
    have := (kL_len (hr.v _ (getD_mem v0 (show x.toNat < r.2.length by omega)))).2
    have := ih fun z hz => ha z (List.mem_cons_of_mem _ hz)
    rw [List.flatMap_cons, List.length_append, List.length_cons]
    omega
end Go.Ab.A15
namespace Go.Proofs.YtpidncgibgiidaaGreat
open Go Go.Ab Go.Ab.A34 Go.Ab.A15 Go.Ab.A01
variable [Gl] [Tabs]
theorem key_v (v : V3) (h : okV v = true) (hn : inV v) : PCall Tryz.prog 138 [VV v] (.tup [Str (mkB (kL v)), I64 0]) := by
  obtain ⟨k, n, s⟩ := v
  have hv : vok k n s = true := h
  have hem : emp s = true → s = ⟨#[]⟩ := fun h => barr_eq.1 h
  rcases vok_kind hv with rfl | rfl | ⟨rfl, h2⟩ | rfl
  · have h1 : n = 0 ∧ s = ⟨#[]⟩ := by
      unfold vok at hv
      simp only [Bool.and_eq_true, decide_eq_true_eq, if_true] at hv
      exact ⟨hv.1, hem hv.2⟩
    obtain ⟨rfl, rfl⟩ := h1
    exact key_null
  · have h1 : s = ⟨#[]⟩ := by
      unfold vok at hv
      exact hem (by simpa using hv)
    subst h1
    exact key_num 1 n hn (.inl rfl) hv
  · have h1 : n = 0 := by
      unfold vok at hv
      simp at hv
      exact hv.1
    subst h1
    exact key_text s h2 hv
  · have h1 : s = ⟨#[]⟩ := by
      unfold vok at hv
      simp at hv
      exact hem hv.2
    subst h1
    exact key_num 3 n hn (.inr rfl) hv
theorem key_p (r : R3) (a : List Int) (hr : OkR r) (ha : ∀ x ∈ a, 0 ≤ x ∧ x < r.2.length) (hal : a.length ≤ 1000) : PCall Tryz.prog 107 [.agg [I64 r.1, VL r.2], IL a] (Str (mkB (catK r a))) := by
  have hlen := catK_len hr ha
  obtain ⟨id, vs⟩ := r
  simp only at ha
  refine Call.enter' (N := 29) (rs := [.tmp 4]) Tryz.func107 rfl rfl rfl (by decide) rfl ?_; simp only [argT]; have hD : (0 : Nat) = 0 := rfl
  repeat' first | (refine SW.seq_k fun K hK => ?_) | (refine SW.block ?_) | ((first | refine SW.region ?_ | (refine allF_i fun b hb => ?_; replace hD := And.intro hb hD; clear hb; try simp only [fresh_cons, fresh_nil, and_true, ne_eq, neF] at hD)); try simp only [go_sem, hD, true_implies]) | (apply hK; clear hK K)
  obtain ⟨bb, rfl⟩ : ∃ x, x = b := ⟨_, rfl⟩
  obtain ⟨b2, rfl⟩ : ∃ x, x = b := ⟨_, rfl⟩
  refine Ab.SW.le (S' := ⟨[(1, IL a), (2, .fp [I64 id, VL vs]), (5, BP bb), (4, Str ⟨#[]⟩), (10, IL a), (11, I64 a.length), (12, I64 (0 : Nat))], [(bb, .svs [.sc (.pointer none), .nt])]⟩) ?_ ?_
  · refine St.le.trans (St.le_freezeP (i := 2) (b := b2) (off := 0) (n := 2) (k := .svs [I64 id, VL vs]) rfl (by simp [find_cons, hD]) (by exact Nat.le_refl 2)) ?_
    simp only [getN, Blk.get, go_sem, hD]
    exact St.le_sub (by repeat' (first | exact rfl | exact trivial | constructor))
  clear hD
  have hD : (0 : Nat) = 0 := rfl
  obtain ⟨I, hI⟩ : ∃ I : Nat → St → Prop, ∀ k S, I k S ↔ (∃ (i : Nat) (h : Heap), k = a.length - i ∧ i ≤ a.length ∧ BH bb (catK (id, vs) (a.take i)) h [] ∧ S = ⟨[(1, IL a), (2, .fp [I64 id, VL vs]), (5, BP bb), (4, Str ⟨#[]⟩), (10, IL a), (11, I64 a.length), (12, I64 i)], h⟩) := ⟨fun k S => _, fun _ _ => Iff.rfl⟩
  refine SW.loop' I (a.length) ((hI _ _).2 ⟨0, _, rfl, Nat.zero_le _, .inl ⟨rfl, rfl⟩, rfl⟩) (by repeat' (first | exact rfl | exact trivial | constructor)) ?_
  intro k S hIn
  obtain ⟨i, h, rfl, hi, hB, rfl⟩ := (hI _ _).1 hIn
  clear hIn
  have ie : ((i : Nat) : Int).toNat = i := Int.toNat_natCast _
  have i0 : (0 : Int) ≤ ((i : Nat) : Int) := by omega
  by_cases hlt : i < a.length
  · have hli : ((i : Nat) : Int) < (((a.length) : Nat) : Int) := by omega
    have w1 : IntKind.i64.wrap ((i : Int) + 1) = ((i + 1 : Nat) : Int) := by rw [i64_wrap (by omega) (by omega)]; omega
    have fa : iF a i = [I64 (a.getD i 0)] := rfl
    have hx := ha _ (getD_mem' 0 hlt)
    have hst := catK_take (id, vs) a i hlt
    have hcl := catK_len hr (a := a.take i) (fun x hx => ha x (List.mem_of_mem_take hx))
    rw [List.length_take] at hcl
    generalize a.getD i 0 = x at *
    obtain ⟨x0, x1⟩ := hx
    have mx : vs.getD x.toNat v0 ∈ vs := getD_mem v0 (by omega)
    have fv : vF vs x.toNat = vC (vs.getD x.toNat v0) := rfl
    have kv := key_v _ (hr.v _ mx) (hr.n _ mx)
    have hkl := kL_len (hr.v _ mx)
    simp only at hst
    generalize vs.getD x.toNat v0 = v at *
    obtain ⟨v1, v2, v3⟩ := v
    have hms := mkB_size (kL (v1, v2, v3))
    have ws := wstr_c bb _ h [] hB trivial (mkB (kL (v1, v2, v3))) (by omega) (by omega)
    have hml : (mkB (kL (v1, v2, v3))).data.toList = kL (v1, v2, v3) := by simp [mkB]
    rw [hml, ← hst] at ws
    generalize mkB (kL (v1, v2, v3)) = m at *
    clear hB
    repeat' first | ((with_reducible refine Call.mono ws ?_); intro r h' hx; obtain ⟨rfl, hB2⟩ := hx; (try simp only [go_sem, hD])) | (refine SW.seq_k fun K hK => ?_) | (refine SW.block ?_) | ((first | refine SW.region ?_ | refine SW.cond ?_ | refine SW.skip ?_ | refine Call.of_pure (kv) ?_); try simp only [go_sem, hD, hli, ie, i0, w1, fa, x0, x1, fv, true_implies]) | (apply hK; clear hK K)
    refine Rnd.sub (a.length - (i + 1)) (by omega) ((hI _ _).2 ⟨i + 1, h', rfl, by omega, hB2, rfl⟩) (by repeat' (first | exact rfl | exact trivial | constructor))
  · have hli : ¬ ((i : Nat) : Int) < (((a.length) : Nat) : Int) := by omega
    obtain rfl : i = a.length := by omega
    rw [List.take_length] at hB
    have hll : (catK (id, vs) a).length ≤ 1000000 := by omega
    generalize catK (id, vs) a = l at *
    rcases hB with ⟨rfl, rfl⟩ | ⟨hl, g, blk, hf, hg, hc, rfl⟩
    · have cs := string_n bb (.sc (.pointer none)) []
      repeat' first | ((with_reducible refine Call.mono cs ?_); intro r h' hx; obtain ⟨rfl, rfl⟩ := hx; (try simp only [go_sem, hD])) | (refine SW.seq_k fun K hK => ?_) | ((first | refine SW.region ?_ | refine SW.cond ?_ | refine SW.exit ?_ | refine SW.ret ?_); try simp only [go_sem, hD, hli, true_implies]) | (apply hK; clear hK K) | (clear hK K; apply hK; clear hK K)
      refine ret_pure ?_; simp only [resL_tmp, resL_nil, tupOf, go_sem, hD]
      rfl
    · have cs := string_c bb g (.op bb 0) blk l hl hll hc []
      repeat' first | ((with_reducible refine Call.mono cs ?_); intro r h' hx; obtain ⟨rfl, rfl⟩ := hx; (try simp only [go_sem, hD])) | (refine SW.seq_k fun K hK => ?_) | ((first | refine SW.region ?_ | refine SW.cond ?_ | refine SW.exit ?_ | refine SW.ret ?_); try simp only [go_sem, hD, hli, true_implies]) | (apply hK; clear hK K) | (clear hK K; apply hK; clear hK K)
      refine ret_pure ?_; simp only [resL_tmp, resL_nil, tupOf, go_sem, hD]
      rfl
end Go.Proofs.YtpidncgibgiidaaGreat
namespace Go.Ab.A15
open Go Go.Ab Go.Ab.A34
def chkF (db : List Tb) : Nat → Nat → Int
  | 0, _ => 0
  | g + 1, i => if ¬ validS (db.getD i t0) = 0 then validS (db.getD i t0) else if 0 ≤ tabI (db.getD i t0).name 0 (db.take i) then 5 else chkF db g (i + 1)
def chkS (db : List Tb) : Int := if 50 < db.length then 3 else chkF db db.length 0
def dpF (l : List Dp) (i : Nat) : List SV := dC (l.getD i d0)
abbrev DpL (l : List Dp) : SV := .fl l.length 4 (dpF l)
structure OkD (d : Dp) : Prop where
  l : d.l.length ≤ 9223372036854775807
  r : d.r.length ≤ 9223372036854775807
end Go.Ab.A15
def Go.Ab.zC2_1 : Go.Ab.OZ := (.one 0 [0, 1, 4, 9, 10, 11] (.one 1 [1, 4, 9, 10, 11] (.one 2 [2, 3, 4, 9, 10, 11] (.one 3 [3, 4, 9, 10, 11] (.one 4 [4, 9, 10, 11] (.one 5 [5, 6, 9, 10, 11] (.one 6 [6, 9, 10, 11] (.one 7 [7, 8, 9, 10, 11] (.one 8 [8, 9, 10, 11] (.one 9 [9, 10, 11] (.one 10 [10, 11] (.one 11 [11] .done))))))))))))
def Go.Ab.zC2_2 : Go.Ab.OZ := (.one 0 [0, 1, 2, 6, 7, 8, 9, 10, 11, 12, 13, 14, 15, 16, 17, 18, 19, 20, 21, 22, 23, 24, 25, 26, 27, 28, 29, 30, 31, 32] (.one 1 [1, 2, 6, 7, 8, 9, 10, 11, 12, 13, 14, 15, 16, 17, 18, 19, 20, 21, 22, 23, 24, 25, 26, 27, 28, 29, 30, 31, 32] (.one 2 [2, 6, 7, 8, 9, 10, 11, 12, 13, 14, 15, 16, 17, 18, 19, 20, 21, 22, 23, 24, 25, 26, 27, 28, 29, 30, 31, 32] (.one 3 [3, 4, 5, 6, 7, 8, 9, 10, 11, 12, 13, 14, 15, 16, 17, 18, 19, 20, 21, 22, 23, 24, 25, 26, 27, 28, 29, 30, 31, 32] (.one 4 [4, 5, 6, 7, 8, 9, 10, 11, 12, 13, 14, 15, 16, 17, 18, 19, 20, 21, 22, 23, 24, 25, 26, 27, 28, 29, 30, 31, 32] (.one 5 [5, 6, 7, 8, 9, 10, 11, 12, 13, 14, 15, 16, 17, 18, 19, 20, 21, 22, 23, 24, 25, 26, 27, 28, 29, 30, 31, 32] (.one 6 [6, 7, 8, 9, 10, 11, 12, 13, 14, 15, 16, 17, 18, 19, 20, 21, 22, 23, 24, 25, 26, 27, 28, 29, 30, 31, 32] (.one 7 [7, 8, 9, 10, 11, 12, 13, 14, 15, 16, 17, 18, 19, 20, 21, 22, 23, 24, 25, 26, 27, 28, 29, 30, 31, 32] (.one 8 [8, 9, 17, 18, 19, 20, 21, 22, 23, 24, 25, 26, 27, 28, 29, 30, 31, 32] (.one 9 [9, 17, 18, 19, 20, 21, 22, 23, 24, 25, 26, 27, 28, 29, 30, 31, 32] (.one 10 [10, 11, 13, 14, 15, 16, 17, 18, 19, 20, 21, 22, 23, 24, 25, 26, 27, 28, 29, 30, 31, 32] (.one 11 [11, 13, 14, 15, 16, 17, 18, 19, 20, 21, 22, 23, 24, 25, 26, 27, 28, 29, 30, 31, 32] (.one 12 [12, 13, 14, 15, 16, 17, 18, 19, 20, 21, 22, 23, 24, 25, 26, 27, 28, 29, 30, 31, 32] (.one 13 [13, 14, 15, 16, 17, 18, 19, 20, 21, 22, 23, 24, 25, 26, 27, 28, 29, 30, 31, 32] (.one 14 [14, 15, 16, 17, 18, 19, 20, 21, 22, 23, 24, 25, 26, 27, 28, 29, 30, 31, 32] (.one 15 [15, 16, 17, 18, 19, 20, 21, 22, 23, 24, 25, 26, 27, 28, 29, 30, 31, 32] (.one 16 [16, 17, 18, 19, 20, 21, 22, 23, 24, 25, 26, 27, 28, 29, 30, 31, 32] (.one 17 [17, 18, 19, 20, 21, 22, 23, 24, 25, 26, 27, 28, 29, 30, 31, 32] (.one 18 [18, 19, 20, 21, 22, 23, 24, 25, 26, 27, 28, 29, 30, 31, 32] (.one 19 [19, 20, 21, 22, 23, 24, 25, 26, 27, 28, 29, 30, 31, 32] (.one 20 [20, 21, 22, 23, 24, 25, 26, 27, 28, 29, 30, 31, 32] (.one 21 [21, 22, 30, 31, 32] (.one 22 [22, 30, 31, 32] (.one 23 [23, 24, 26, 27, 28, 29, 30, 31, 32] (.one 24 [24, 26, 27, 28, 29, 30, 31, 32] (.one 25 [25, 26, 27, 28, 29, 30, 31, 32] (.one 26 [26, 27, 28, 29, 30, 31, 32] (.one 27 [27, 28, 29, 30, 31, 32] (.one 28 [28, 29, 30, 31, 32] (.one 29 [29, 30, 31, 32] (.one 30 [30, 31, 32] (.one 31 [31, 32] (.one 32 [32] .done)))))))))))))))))))))))))))))))))
namespace Go.Proofs.YtpidncgibgiidaaGreat
open Go Go.Ab Go.Ab.A34 Go.Ab.A15
variable [Gl] [Tabs]
theorem fits_p (db : List Tb) (d : Dp) (hdb : db.length ≤ 9223372036854775807) (hd : OkD d) : PCall Tryz.prog 136 [DB db, DV d] (I64 (fitsS db d)) := by
  obtain ⟨df, dl, dt, dr⟩ := d
  obtain ⟨h1, h2⟩ := hd
  simp only at h1 h2
  obtain ⟨R, hR⟩ : ∃ R, R = fitsS db ⟨df, dl, dt, dr⟩ := ⟨_, rfl⟩
  rw [← hR]
  unfold fitsS at hR
  simp only at hR ⊢
  have cf := find_p df db db.length hdb rfl (tF db) (fun i hi => rfl)
  have ct := find_p dt db db.length hdb rfl (tF db) (fun i hi => rfl)
  rcases tabI_is (x := df) (l := db) (i := 0) with ⟨e1, _⟩ | ⟨jf, e1, f1, _⟩
  · rw [e1] at hR cf
    rw [if_pos (.inl (by omega))] at hR
    subst hR
    generalize tabI dt 0 db = q at *
    refine Call.enter' (N := 64) (rs := [.tmp 4]) Tryz.func136 rfl rfl rfl (by decide) rfl ?_; simp only [argT]; have hD : (0 : Nat) = 0 := rfl
    repeat' first | (refine SW.seq_k fun K hK => ?_) | ((first | refine SW.region ?_ | refine SW.regionZ (id := 1) (Checked.mixed Tryz.checked) Go.Ab.zC2_1 (by kernel_rfl) ?_ | refine SW.cond ?_ | refine SW.ret ?_ | refine ⟨_, cf, ?_⟩ | refine ⟨_, ct, ?_⟩ | (refine allF_i fun b hb => ?_; replace hD := And.intro hb hD; clear hb; try simp only [fresh_cons, fresh_nil, and_true, ne_eq, neF] at hD)); try simp only [Go.Ab.zC2_1, go_sem, hD, true_implies]) | (refine ifI (fun hc => ?_) (fun hc => ?_) <;> first | (exfalso; omega) | skip) | (apply hK; clear hK K)
    refine ret_pure ?_; simp only [resL_tmp, resL_nil, tupOf, go_sem, hD]
  rw [Nat.zero_add] at e1
  rw [e1] at hR cf
  have n1 : ¬ ((jf : Nat) : Int) < 0 := by omega
  have z1 : ((jf : Nat) : Int).toNat = jf := Int.toNat_natCast _
  have p1 : (0 : Int) ≤ ((jf : Nat) : Int) := by omega
  have l1 : ((jf : Nat) : Int) < ((db.length : Nat) : Int) := by omega
  have tf1 : tF db jf = tC (db.getD jf t0) := rfl
  rw [z1] at hR
  rcases tabI_is (x := dt) (l := db) (i := 0) with ⟨e2, _⟩ | ⟨jt, e2, f2, _⟩
  · rw [e2] at hR ct
    rw [if_pos (.inr (by omega))] at hR
    subst hR
    refine Call.enter' (N := 64) (rs := [.tmp 4]) Tryz.func136 rfl rfl rfl (by decide) rfl ?_; simp only [argT]; have hD : (0 : Nat) = 0 := rfl
    repeat' first | (refine SW.seq_k fun K hK => ?_) | ((first | refine SW.region ?_ | refine SW.regionZ (id := 1) (Checked.mixed Tryz.checked) Go.Ab.zC2_1 (by kernel_rfl) ?_ | refine SW.cond ?_ | refine SW.ret ?_ | refine ⟨_, cf, ?_⟩ | refine ⟨_, ct, ?_⟩ | (refine allF_i fun b hb => ?_; replace hD := And.intro hb hD; clear hb; try simp only [fresh_cons, fresh_nil, and_true, ne_eq, neF] at hD)); try simp only [Go.Ab.zC2_1, go_sem, hD, n1]) | (apply hK; clear hK K)
    refine ret_pure ?_; simp only [resL_tmp, resL_nil, tupOf, go_sem, hD]
  rw [Nat.zero_add] at e2
  rw [e2] at hR ct
  have n2 : ¬ ((jt : Nat) : Int) < 0 := by omega
  have z2 : ((jt : Nat) : Int).toNat = jt := Int.toNat_natCast _
  have p2 : (0 : Int) ≤ ((jt : Nat) : Int) := by omega
  have l2 : ((jt : Nat) : Int) < ((db.length : Nat) : Int) := by omega
  have tf2 : tF db jt = tC (db.getD jt t0) := rfl
  rw [z2, if_neg (by omega)] at hR
  generalize db.getD jf t0 = T1 at *
  generalize db.getD jt t0 = T2 at *
  obtain ⟨a1, b1, c1⟩ := T1
  obtain ⟨a2, b2, c2⟩ := T2
  simp only at hR tf1 tf2
  have wl := within_p dl b1.length h1
  have wr := within_p dr b2.length h2
  have rl := repeated_p dl h1
  have rr := repeated_p dr h2
  by_cases hlen : dl.length = dr.length
  · have hli : ((dl.length : Nat) : Int) = ((dr.length : Nat) : Int) := by omega
    cases w1 : winB dl b1.length with
    | false =>
      rw [w1] at wl hR
      rw [if_pos (.inr (.inl rfl))] at hR
      subst hR
      refine Call.enter' (N := 64) (rs := [.tmp 4]) Tryz.func136 rfl rfl rfl (by decide) rfl ?_; simp only [argT]; have hD : (0 : Nat) = 0 := rfl
      repeat' first | (refine SW.seq_k fun K hK => ?_) | ((first | refine SW.region ?_ | refine SW.regionZ (id := 1) (Checked.mixed Tryz.checked) Go.Ab.zC2_1 (by kernel_rfl) ?_ | refine SW.regionZ (id := 4) (Checked.mixed Tryz.checked) Go.Ab.zC2_2 (by kernel_rfl) ?_ | refine SW.cond ?_ | refine SW.skip ?_ | refine SW.ret ?_ | refine ⟨_, cf, ?_⟩ | refine ⟨_, ct, ?_⟩ | refine ⟨_, wl, ?_⟩ | (refine allF_i fun b hb => ?_; replace hD := And.intro hb hD; clear hb; try simp only [fresh_cons, fresh_nil, and_true, ne_eq, neF] at hD)); try simp only [Go.Ab.zC2_1, Go.Ab.zC2_2, go_sem, hD, n1, n2, z1, p1, l1, z2, p2, l2, tf1, tf2, hli]) | (apply hK; clear hK K)
      refine ret_pure ?_; simp only [resL_tmp, resL_nil, tupOf, go_sem, hD]
    | true =>
      rw [w1] at wl hR
      cases w2 : winB dr b2.length with
      | false =>
        rw [w2] at wr hR
        rw [if_pos (.inr (.inr rfl))] at hR
        subst hR
        refine Call.enter' (N := 64) (rs := [.tmp 4]) Tryz.func136 rfl rfl rfl (by decide) rfl ?_; simp only [argT]; have hD : (0 : Nat) = 0 := rfl
        repeat' first | (refine SW.seq_k fun K hK => ?_) | ((first | refine SW.region ?_ | refine SW.regionZ (id := 1) (Checked.mixed Tryz.checked) Go.Ab.zC2_1 (by kernel_rfl) ?_ | refine SW.regionZ (id := 4) (Checked.mixed Tryz.checked) Go.Ab.zC2_2 (by kernel_rfl) ?_ | refine SW.cond ?_ | refine SW.skip ?_ | refine SW.ret ?_ | refine ⟨_, cf, ?_⟩ | refine ⟨_, ct, ?_⟩ | refine ⟨_, wl, ?_⟩ | refine ⟨_, wr, ?_⟩ | (refine allF_i fun b hb => ?_; replace hD := And.intro hb hD; clear hb; try simp only [fresh_cons, fresh_nil, and_true, ne_eq, neF] at hD)); try simp only [Go.Ab.zC2_1, Go.Ab.zC2_2, go_sem, hD, n1, n2, z1, p1, l1, z2, p2, l2, tf1, tf2, hli]) | (apply hK; clear hK K)
        refine ret_pure ?_; simp only [resL_tmp, resL_nil, tupOf, go_sem, hD]
      | true =>
        rw [w2] at wr hR
        rw [if_neg (by simp [hlen])] at hR
        by_cases q1 : dl.Nodup
        · rw [decide_eq_true q1] at rl
          by_cases q2 : dr.Nodup
          · rw [decide_eq_true q2] at rr
            rw [if_pos ⟨q1, q2⟩] at hR
            subst hR
            refine Call.enter' (N := 64) (rs := [.tmp 4]) Tryz.func136 rfl rfl rfl (by decide) rfl ?_; simp only [argT]; have hD : (0 : Nat) = 0 := rfl
            repeat' first | (refine SW.seq_k fun K hK => ?_) | ((first | refine SW.region ?_ | refine SW.regionZ (id := 1) (Checked.mixed Tryz.checked) Go.Ab.zC2_1 (by kernel_rfl) ?_ | refine SW.regionZ (id := 4) (Checked.mixed Tryz.checked) Go.Ab.zC2_2 (by kernel_rfl) ?_ | refine SW.cond ?_ | refine SW.skip ?_ | refine SW.ret ?_ | refine ⟨_, cf, ?_⟩ | refine ⟨_, ct, ?_⟩ | refine ⟨_, wl, ?_⟩ | refine ⟨_, wr, ?_⟩ | refine Call.of_pure (rl) ?_ | refine Call.of_pure (rr) ?_ | (refine allF_i fun b hb => ?_; replace hD := And.intro hb hD; clear hb; try simp only [fresh_cons, fresh_nil, and_true, ne_eq, neF] at hD)); try simp only [Go.Ab.zC2_1, Go.Ab.zC2_2, go_sem, hD, n1, n2, z1, p1, l1, z2, p2, l2, tf1, tf2, hli]) | (apply hK; clear hK K)
            refine ret_pure ?_; simp only [resL_tmp, resL_nil, tupOf, go_sem, hD]
          · rw [decide_eq_false q2] at rr
            rw [if_neg (fun x => q2 x.2)] at hR
            subst hR
            refine Call.enter' (N := 64) (rs := [.tmp 4]) Tryz.func136 rfl rfl rfl (by decide) rfl ?_; simp only [argT]; have hD : (0 : Nat) = 0 := rfl
            repeat' first | (refine SW.seq_k fun K hK => ?_) | ((first | refine SW.region ?_ | refine SW.regionZ (id := 1) (Checked.mixed Tryz.checked) Go.Ab.zC2_1 (by kernel_rfl) ?_ | refine SW.regionZ (id := 4) (Checked.mixed Tryz.checked) Go.Ab.zC2_2 (by kernel_rfl) ?_ | refine SW.cond ?_ | refine SW.skip ?_ | refine SW.ret ?_ | refine ⟨_, cf, ?_⟩ | refine ⟨_, ct, ?_⟩ | refine ⟨_, wl, ?_⟩ | refine ⟨_, wr, ?_⟩ | refine Call.of_pure (rl) ?_ | refine Call.of_pure (rr) ?_ | (refine allF_i fun b hb => ?_; replace hD := And.intro hb hD; clear hb; try simp only [fresh_cons, fresh_nil, and_true, ne_eq, neF] at hD)); try simp only [Go.Ab.zC2_1, Go.Ab.zC2_2, go_sem, hD, n1, n2, z1, p1, l1, z2, p2, l2, tf1, tf2, hli]) | (apply hK; clear hK K)
            refine ret_pure ?_; simp only [resL_tmp, resL_nil, tupOf, go_sem, hD]
        · rw [decide_eq_false q1] at rl
          rw [if_neg (fun x => q1 x.1)] at hR
          generalize (!decide dr.Nodup) = qq at *
          subst hR
          refine Call.enter' (N := 64) (rs := [.tmp 4]) Tryz.func136 rfl rfl rfl (by decide) rfl ?_; simp only [argT]; have hD : (0 : Nat) = 0 := rfl
          repeat' first | (refine SW.seq_k fun K hK => ?_) | ((first | refine SW.region ?_ | refine SW.regionZ (id := 1) (Checked.mixed Tryz.checked) Go.Ab.zC2_1 (by kernel_rfl) ?_ | refine SW.regionZ (id := 4) (Checked.mixed Tryz.checked) Go.Ab.zC2_2 (by kernel_rfl) ?_ | refine SW.cond ?_ | refine SW.skip ?_ | refine SW.ret ?_ | refine ⟨_, cf, ?_⟩ | refine ⟨_, ct, ?_⟩ | refine ⟨_, wl, ?_⟩ | refine ⟨_, wr, ?_⟩ | refine Call.of_pure (rl) ?_ | (refine allF_i fun b hb => ?_; replace hD := And.intro hb hD; clear hb; try simp only [fresh_cons, fresh_nil, and_true, ne_eq, neF] at hD)); try simp only [Go.Ab.zC2_1, Go.Ab.zC2_2, go_sem, hD, n1, n2, z1, p1, l1, z2, p2, l2, tf1, tf2, hli]) | (apply hK; clear hK K)
          refine ret_pure ?_; simp only [resL_tmp, resL_nil, tupOf, go_sem, hD]
  · have hli : ¬ ((dl.length : Nat) : Int) = ((dr.length : Nat) : Int) := by omega
    rw [if_pos (.inl hlen)] at hR
    generalize winB dl b1.length = w1 at *
    generalize winB dr b2.length = w2 at *
    subst hR
    refine Call.enter' (N := 64) (rs := [.tmp 4]) Tryz.func136 rfl rfl rfl (by decide) rfl ?_; simp only [argT]; have hD : (0 : Nat) = 0 := rfl
    repeat' first | (refine SW.seq_k fun K hK => ?_) | ((first | refine SW.region ?_ | refine SW.regionZ (id := 1) (Checked.mixed Tryz.checked) Go.Ab.zC2_1 (by kernel_rfl) ?_ | refine SW.regionZ (id := 4) (Checked.mixed Tryz.checked) Go.Ab.zC2_2 (by kernel_rfl) ?_ | refine SW.cond ?_ | refine SW.skip ?_ | refine SW.ret ?_ | refine ⟨_, cf, ?_⟩ | refine ⟨_, ct, ?_⟩ | (refine allF_i fun b hb => ?_; replace hD := And.intro hb hD; clear hb; try simp only [fresh_cons, fresh_nil, and_true, ne_eq, neF] at hD)); try simp only [Go.Ab.zC2_1, Go.Ab.zC2_2, go_sem, hD, n1, n2, z1, p1, l1, z2, p2, l2, tf1, tf2, hli]) | (apply hK; clear hK K)
    refine ret_pure ?_; simp only [resL_tmp, resL_nil, tupOf, go_sem, hD]
theorem fits_r (db : List Tb) (d : Dp) (hdb : db.length ≤ 9223372036854775807) (hd : OkD d) : PCall Tryz.prog 65 [DB db, DV d] (I64 (fitsS db d)) := by
  obtain ⟨df, dl, dt, dr⟩ := d
  obtain ⟨h1, h2⟩ := hd
  simp only at h1 h2
  obtain ⟨R, hR⟩ : ∃ R, R = fitsS db ⟨df, dl, dt, dr⟩ := ⟨_, rfl⟩
  rw [← hR]
  unfold fitsS at hR
  simp only at hR ⊢
  have cf := table_r df db db.length hdb rfl (tF db) (fun i hi => rfl)
  have ct := table_r dt db db.length hdb rfl (tF db) (fun i hi => rfl)
  rcases tabI_is (x := df) (l := db) (i := 0) with ⟨e1, _⟩ | ⟨jf, e1, f1, _⟩
  · rw [e1] at hR cf
    rw [if_pos (.inl (by omega))] at hR
    subst hR
    generalize tabI dt 0 db = q at *
    refine Call.enter' (N := 66) (rs := [.tmp 4]) Tryz.func65 rfl rfl rfl (by decide) rfl ?_; simp only [argT]; have hD : (0 : Nat) = 0 := rfl
    repeat' first | (refine SW.seq_k fun K hK => ?_) | ((first | refine SW.region ?_ | refine SW.regionZ (id := 1) (Checked.mixed Tryz.checked) Go.Ab.zC2_1 (by kernel_rfl) ?_ | refine SW.cond ?_ | refine SW.ret ?_ | refine ⟨_, cf, ?_⟩ | refine ⟨_, ct, ?_⟩ | (refine allF_i fun b hb => ?_; replace hD := And.intro hb hD; clear hb; try simp only [fresh_cons, fresh_nil, and_true, ne_eq, neF] at hD)); try simp only [Go.Ab.zC2_1, go_sem, hD, true_implies]) | (refine ifI (fun hc => ?_) (fun hc => ?_) <;> first | (exfalso; omega) | skip) | (apply hK; clear hK K)
    refine ret_pure ?_; simp only [resL_tmp, resL_nil, tupOf, go_sem, hD]
  rw [Nat.zero_add] at e1
  rw [e1] at hR cf
  have n1 : ¬ ((jf : Nat) : Int) < 0 := by omega
  have z1 : ((jf : Nat) : Int).toNat = jf := Int.toNat_natCast _
  have p1 : (0 : Int) ≤ ((jf : Nat) : Int) := by omega
  have l1 : ((jf : Nat) : Int) < ((db.length : Nat) : Int) := by omega
  have tf1 : tF db jf = tC (db.getD jf t0) := rfl
  rw [z1] at hR
  rcases tabI_is (x := dt) (l := db) (i := 0) with ⟨e2, _⟩ | ⟨jt, e2, f2, _⟩
  · rw [e2] at hR ct
    rw [if_pos (.inr (by omega))] at hR
    subst hR
    refine Call.enter' (N := 66) (rs := [.tmp 4]) Tryz.func65 rfl rfl rfl (by decide) rfl ?_; simp only [argT]; have hD : (0 : Nat) = 0 := rfl
    repeat' first | (refine SW.seq_k fun K hK => ?_) | ((first | refine SW.region ?_ | refine SW.regionZ (id := 1) (Checked.mixed Tryz.checked) Go.Ab.zC2_1 (by kernel_rfl) ?_ | refine SW.cond ?_ | refine SW.ret ?_ | refine ⟨_, cf, ?_⟩ | refine ⟨_, ct, ?_⟩ | (refine allF_i fun b hb => ?_; replace hD := And.intro hb hD; clear hb; try simp only [fresh_cons, fresh_nil, and_true, ne_eq, neF] at hD)); try simp only [Go.Ab.zC2_1, go_sem, hD, n1]) | (apply hK; clear hK K)
    refine ret_pure ?_; simp only [resL_tmp, resL_nil, tupOf, go_sem, hD]
  rw [Nat.zero_add] at e2
  rw [e2] at hR ct
  have n2 : ¬ ((jt : Nat) : Int) < 0 := by omega
  have z2 : ((jt : Nat) : Int).toNat = jt := Int.toNat_natCast _
  have p2 : (0 : Int) ≤ ((jt : Nat) : Int) := by omega
  have l2 : ((jt : Nat) : Int) < ((db.length : Nat) : Int) := by omega
  have tf2 : tF db jt = tC (db.getD jt t0) := rfl
  rw [z2, if_neg (by omega)] at hR
  generalize db.getD jf t0 = T1 at *
  generalize db.getD jt t0 = T2 at *
  obtain ⟨a1, b1, c1⟩ := T1
  obtain ⟨a2, b2, c2⟩ := T2
  simp only at hR tf1 tf2
  have wl := indices_r dl b1.length h1
  have wr := indices_r dr b2.length h2
  have rl := once_r dl h1
  have rr := once_r dr h2
  by_cases hlen : dl.length = dr.length
  · have hli : ((dl.length : Nat) : Int) = ((dr.length : Nat) : Int) := by omega
    cases w1 : winB dl b1.length with
    | false =>
      rw [w1] at wl hR
      rw [if_pos (.inr (.inl rfl))] at hR
      subst hR
      refine Call.enter' (N := 66) (rs := [.tmp 4]) Tryz.func65 rfl rfl rfl (by decide) rfl ?_; simp only [argT]; have hD : (0 : Nat) = 0 := rfl
      repeat' first | (refine SW.seq_k fun K hK => ?_) | ((first | refine SW.region ?_ | refine SW.regionZ (id := 1) (Checked.mixed Tryz.checked) Go.Ab.zC2_1 (by kernel_rfl) ?_ | refine SW.regionZ (id := 4) (Checked.mixed Tryz.checked) Go.Ab.zC2_2 (by kernel_rfl) ?_ | refine SW.cond ?_ | refine SW.skip ?_ | refine SW.ret ?_ | refine ⟨_, cf, ?_⟩ | refine ⟨_, ct, ?_⟩ | refine ⟨_, wl, ?_⟩ | (refine allF_i fun b hb => ?_; replace hD := And.intro hb hD; clear hb; try simp only [fresh_cons, fresh_nil, and_true, ne_eq, neF] at hD)); try simp only [Go.Ab.zC2_1, Go.Ab.zC2_2, go_sem, hD, n1, n2, z1, p1, l1, z2, p2, l2, tf1, tf2, hli]) | (apply hK; clear hK K)
      refine ret_pure ?_; simp only [resL_tmp, resL_nil, tupOf, go_sem, hD]
    | true =>
      rw [w1] at wl hR
      cases w2 : winB dr b2.length with
      | false =>
        rw [w2] at wr hR
        rw [if_pos (.inr (.inr rfl))] at hR
        subst hR
        refine Call.enter' (N := 66) (rs := [.tmp 4]) Tryz.func65 rfl rfl rfl (by decide) rfl ?_; simp only [argT]; have hD : (0 : Nat) = 0 := rfl
        repeat' first | (refine SW.seq_k fun K hK => ?_) | ((first | refine SW.region ?_ | refine SW.regionZ (id := 1) (Checked.mixed Tryz.checked) Go.Ab.zC2_1 (by kernel_rfl) ?_ | refine SW.regionZ (id := 4) (Checked.mixed Tryz.checked) Go.Ab.zC2_2 (by kernel_rfl) ?_ | refine SW.cond ?_ | refine SW.skip ?_ | refine SW.ret ?_ | refine ⟨_, cf, ?_⟩ | refine ⟨_, ct, ?_⟩ | refine ⟨_, wl, ?_⟩ | refine ⟨_, wr, ?_⟩ | (refine allF_i fun b hb => ?_; replace hD := And.intro hb hD; clear hb; try simp only [fresh_cons, fresh_nil, and_true, ne_eq, neF] at hD)); try simp only [Go.Ab.zC2_1, Go.Ab.zC2_2, go_sem, hD, n1, n2, z1, p1, l1, z2, p2, l2, tf1, tf2, hli]) | (apply hK; clear hK K)
        refine ret_pure ?_; simp only [resL_tmp, resL_nil, tupOf, go_sem, hD]
      | true =>
        rw [w2] at wr hR
        rw [if_neg (by simp [hlen])] at hR
        by_cases q1 : dl.Nodup
        · rw [decide_eq_true q1] at rl
          by_cases q2 : dr.Nodup
          · rw [decide_eq_true q2] at rr
            rw [if_pos ⟨q1, q2⟩] at hR
            subst hR
            refine Call.enter' (N := 66) (rs := [.tmp 4]) Tryz.func65 rfl rfl rfl (by decide) rfl ?_; simp only [argT]; have hD : (0 : Nat) = 0 := rfl
            repeat' first | (refine SW.seq_k fun K hK => ?_) | ((first | refine SW.region ?_ | refine SW.regionZ (id := 1) (Checked.mixed Tryz.checked) Go.Ab.zC2_1 (by kernel_rfl) ?_ | refine SW.regionZ (id := 4) (Checked.mixed Tryz.checked) Go.Ab.zC2_2 (by kernel_rfl) ?_ | refine SW.cond ?_ | refine SW.skip ?_ | refine SW.ret ?_ | refine ⟨_, cf, ?_⟩ | refine ⟨_, ct, ?_⟩ | refine ⟨_, wl, ?_⟩ | refine ⟨_, wr, ?_⟩ | refine Call.of_pure (rl) ?_ | refine Call.of_pure (rr) ?_ | (refine allF_i fun b hb => ?_; replace hD := And.intro hb hD; clear hb; try simp only [fresh_cons, fresh_nil, and_true, ne_eq, neF] at hD)); try simp only [Go.Ab.zC2_1, Go.Ab.zC2_2, go_sem, hD, n1, n2, z1, p1, l1, z2, p2, l2, tf1, tf2, hli]) | (apply hK; clear hK K)
            refine ret_pure ?_; simp only [resL_tmp, resL_nil, tupOf, go_sem, hD]
          · rw [decide_eq_false q2] at rr
            rw [if_neg (fun x => q2 x.2)] at hR
            subst hR
            refine Call.enter' (N := 66) (rs := [.tmp 4]) Tryz.func65 rfl rfl rfl (by decide) rfl ?_; simp only [argT]; have hD : (0 : Nat) = 0 := rfl
            repeat' first | (refine SW.seq_k fun K hK => ?_) | ((first | refine SW.region ?_ | refine SW.regionZ (id := 1) (Checked.mixed Tryz.checked) Go.Ab.zC2_1 (by kernel_rfl) ?_ | refine SW.regionZ (id := 4) (Checked.mixed Tryz.checked) Go.Ab.zC2_2 (by kernel_rfl) ?_ | refine SW.cond ?_ | refine SW.skip ?_ | refine SW.ret ?_ | refine ⟨_, cf, ?_⟩ | refine ⟨_, ct, ?_⟩ | refine ⟨_, wl, ?_⟩ | refine ⟨_, wr, ?_⟩ | refine Call.of_pure (rl) ?_ | refine Call.of_pure (rr) ?_ | (refine allF_i fun b hb => ?_; replace hD := And.intro hb hD; clear hb; try simp only [fresh_cons, fresh_nil, and_true, ne_eq, neF] at hD)); try simp only [Go.Ab.zC2_1, Go.Ab.zC2_2, go_sem, hD, n1, n2, z1, p1, l1, z2, p2, l2, tf1, tf2, hli]) | (apply hK; clear hK K)
            refine ret_pure ?_; simp only [resL_tmp, resL_nil, tupOf, go_sem, hD]
        · rw [decide_eq_false q1] at rl
          rw [if_neg (fun x => q1 x.1)] at hR
          generalize decide dr.Nodup = qq at *
          subst hR
          refine Call.enter' (N := 66) (rs := [.tmp 4]) Tryz.func65 rfl rfl rfl (by decide) rfl ?_; simp only [argT]; have hD : (0 : Nat) = 0 := rfl
          repeat' first | (refine SW.seq_k fun K hK => ?_) | ((first | refine SW.region ?_ | refine SW.regionZ (id := 1) (Checked.mixed Tryz.checked) Go.Ab.zC2_1 (by kernel_rfl) ?_ | refine SW.regionZ (id := 4) (Checked.mixed Tryz.checked) Go.Ab.zC2_2 (by kernel_rfl) ?_ | refine SW.cond ?_ | refine SW.skip ?_ | refine SW.ret ?_ | refine ⟨_, cf, ?_⟩ | refine ⟨_, ct, ?_⟩ | refine ⟨_, wl, ?_⟩ | refine ⟨_, wr, ?_⟩ | refine Call.of_pure (rl) ?_ | (refine allF_i fun b hb => ?_; replace hD := And.intro hb hD; clear hb; try simp only [fresh_cons, fresh_nil, and_true, ne_eq, neF] at hD)); try simp only [Go.Ab.zC2_1, Go.Ab.zC2_2, go_sem, hD, n1, n2, z1, p1, l1, z2, p2, l2, tf1, tf2, hli]) | (apply hK; clear hK K)
          refine ret_pure ?_; simp only [resL_tmp, resL_nil, tupOf, go_sem, hD]
  · have hli : ¬ ((dl.length : Nat) : Int) = ((dr.length : Nat) : Int) := by omega
    rw [if_pos (.inl hlen)] at hR
    generalize winB dl b1.length = w1 at *
    generalize winB dr b2.length = w2 at *
    subst hR
    refine Call.enter' (N := 66) (rs := [.tmp 4]) Tryz.func65 rfl rfl rfl (by decide) rfl ?_; simp only [argT]; have hD : (0 : Nat) = 0 := rfl
    repeat' first | (refine SW.seq_k fun K hK => ?_) | ((first | refine SW.region ?_ | refine SW.regionZ (id := 1) (Checked.mixed Tryz.checked) Go.Ab.zC2_1 (by kernel_rfl) ?_ | refine SW.regionZ (id := 4) (Checked.mixed Tryz.checked) Go.Ab.zC2_2 (by kernel_rfl) ?_ | refine SW.cond ?_ | refine SW.skip ?_ | refine SW.ret ?_ | refine ⟨_, cf, ?_⟩ | refine ⟨_, ct, ?_⟩ | (refine allF_i fun b hb => ?_; replace hD := And.intro hb hD; clear hb; try simp only [fresh_cons, fresh_nil, and_true, ne_eq, neF] at hD)); try simp only [Go.Ab.zC2_1, Go.Ab.zC2_2, go_sem, hD, n1, n2, z1, p1, l1, z2, p2, l2, tf1, tf2, hli]) | (apply hK; clear hK K)
    refine ret_pure ?_; simp only [resL_tmp, resL_nil, tupOf, go_sem, hD]
end Go.Proofs.YtpidncgibgiidaaGreat
namespace Go.Ab.A15
open Go Go.Ab Go.Ab.A34
def OkDb (db : List Tb) : Prop := ∀ t ∈ db, ∀ r ∈ t.rows, r.2.length ≤ 9223372036854775807
end Go.Ab.A15
def Go.Ab.zC3_1 : Go.Ab.OZ := (.one 0 [0, 1, 3, 6, 7] (.one 1 [1, 3, 6, 7] (.one 2 [2, 3, 6, 7] (.one 3 [3, 6, 7] (.one 4 [4, 5, 6, 7] (.one 5 [5, 6, 7] (.one 6 [6, 7] (.one 7 [7] .done))))))))
def Go.Ab.zC3_2 : Go.Ab.OZ := (.one 0 [0, 1, 3, 10, 11] (.one 1 [1, 3, 10, 11] (.one 2 [2, 3, 10, 11] (.one 3 [3, 10, 11] (.one 4 [4, 5, 7, 8, 9, 10, 11] (.one 5 [5, 7, 8, 9, 10, 11] (.one 6 [6, 7, 8, 9, 10, 11] (.one 7 [7, 8, 9, 10, 11] (.one 8 [8, 9, 10, 11] (.one 9 [9, 10, 11] (.one 10 [10, 11] (.one 11 [11] .done))))))))))))
namespace Go.Proofs.YtpidncgibgiidaaGreat
open Go Go.Ab Go.Ab.A34 Go.Ab.A15
variable [Gl] [Tabs]
theorem check_p (db : List Tb) (hdb : db.length ≤ 9223372036854775807) : PCall Tryz.prog 135 [DB db] (I64 (chkS db)) := by
  obtain ⟨R, hR⟩ : ∃ R, R = chkS db := ⟨_, rfl⟩
  rw [← hR]
  unfold chkS at hR
  by_cases h50 : 50 < db.length
  · rw [if_pos h50] at hR
    subst hR
    have h50i : (50 : Int) < ((db.length : Nat) : Int) := by omega
    refine Call.enter' (N := 32) (rs := [.tmp 2]) Tryz.func135 rfl rfl rfl (by decide) rfl ?_; simp only [argT]; have hD : (0 : Nat) = 0 := rfl
    repeat' first | (refine SW.seq_k fun K hK => ?_) | ((first | refine SW.region ?_ | refine SW.cond ?_ | refine SW.ret ?_ | (refine allF_i fun b hb => ?_; replace hD := And.intro hb hD; clear hb; try simp only [fresh_cons, fresh_nil, and_true, ne_eq, neF] at hD)); try simp only [go_sem, hD, h50i]) | (apply hK; clear hK K)
    refine ret_pure ?_; simp only [resL_tmp, resL_nil, tupOf, go_sem, hD]
  · rw [if_neg h50] at hR
    have h50i : ¬ (50 : Int) < ((db.length : Nat) : Int) := by omega
    refine Call.enter' (N := 32) (rs := [.tmp 2]) Tryz.func135 rfl rfl rfl (by decide) rfl ?_; simp only [argT]; have hD : (0 : Nat) = 0 := rfl
    repeat' first | (refine SW.seq_k fun K hK => ?_) | (refine SW.block ?_) | ((first | refine SW.region ?_ | refine SW.cond ?_ | refine SW.skip ?_ | (refine allF_i fun b hb => ?_; replace hD := And.intro hb hD; clear hb; try simp only [fresh_cons, fresh_nil, and_true, ne_eq, neF] at hD)); try simp only [go_sem, hD, h50i]) | (apply hK; clear hK K)
    obtain ⟨xb, rfl⟩ : ∃ x, x = b := ⟨_, rfl⟩
    obtain ⟨I, hI⟩ : ∃ I : Nat → St → Prop, ∀ k S, I k S ↔ (∃ (i : Nat) , k = db.length - i ∧ i ≤ db.length ∧ R = chkF db (db.length - i) i ∧ S = ⟨[(1, .op xb 0), (11, TL db), (12, I64 db.length), (13, I64 i)], [(xb, .svs [TL db])]⟩) := ⟨fun k S => _, fun _ _ => Iff.rfl⟩
    refine SW.loop' I (db.length) ((hI _ _).2 ⟨0, rfl, Nat.zero_le _, hR, rfl⟩) (by repeat' (first | exact rfl | exact trivial | constructor)) ?_
    intro k S hIn
    obtain ⟨i, rfl, hi, hC, rfl⟩ := (hI _ _).1 hIn
    clear hIn
    have ie : ((i : Nat) : Int).toNat = i := Int.toNat_natCast _
    have i0 : (0 : Int) ≤ ((i : Nat) : Int) := by omega
    clear hR
    by_cases hlt : i < db.length
    · have hli : ((i : Nat) : Int) < (((db.length) : Nat) : Int) := by omega
      have w1 : IntKind.i64.wrap ((i : Int) + 1) = ((i + 1 : Nat) : Int) := by rw [i64_wrap (by omega) (by omega)]; omega
      rw [show db.length - i = (db.length - (i + 1)) + 1 by omega, chkF] at hC
      have fi : tF db i = tC (db.getD i t0) := rfl
      have iz : (((i : Nat) : Int) - 0).toNat = i := by omega
      have il : ((i : Nat) : Int) ≤ ((db.length : Nat) : Int) := by omega
      have c1 := valid_tp (db.getD i t0)
      have c2 := find_p (db.getD i t0).name (db.take i) i (by omega) (by rw [List.length_take]; omega) (tF db) (fun j hj => tF_take hj)
      generalize db.getD i t0 = t at *
      generalize tabI t.name 0 (db.take i) = q at *
      generalize validS t = v at *
      obtain ⟨tn, ta, tr⟩ := t
      simp only at c2
      by_cases hv : v = 0
      · rw [if_neg (fun x => x hv)] at hC
        by_cases hq : 0 ≤ q
        · rw [if_pos hq] at hC
          subst hC
          repeat' first | (refine SW.seq_k fun K hK => ?_) | (refine SW.block ?_) | ((first | refine SW.region ?_ | refine SW.regionZ (id := 9) (Checked.mixed Tryz.checked) Go.Ab.zC3_1 (by kernel_rfl) ?_ | refine SW.cond ?_ | refine SW.skip ?_ | refine SW.ret ?_ | refine Call.of_pure (c1) ?_ | refine ⟨_, c2, ?_⟩ | (refine allF_i fun b hb => ?_; replace hD := And.intro hb hD; clear hb; try simp only [fresh_cons, fresh_nil, and_true, ne_eq, neF] at hD)); try simp only [Go.Ab.zC3_1, go_sem, hD, hli, ie, i0, w1, fi, iz, il, hv, hq, true_implies]) | (apply hK; clear hK K)
          refine ret_pure ?_; simp only [resL_tmp, resL_nil, tupOf, go_sem, hD]
        · rw [if_neg hq] at hC
          repeat' first | (refine SW.seq_k fun K hK => ?_) | (refine SW.block ?_) | ((first | refine SW.region ?_ | refine SW.regionZ (id := 9) (Checked.mixed Tryz.checked) Go.Ab.zC3_1 (by kernel_rfl) ?_ | refine SW.cond ?_ | refine SW.skip ?_ | refine Call.of_pure (c1) ?_ | refine ⟨_, c2, ?_⟩ | (refine allF_i fun b hb => ?_; replace hD := And.intro hb hD; clear hb; try simp only [fresh_cons, fresh_nil, and_true, ne_eq, neF] at hD)); try simp only [Go.Ab.zC3_1, go_sem, hD, hli, ie, i0, w1, fi, iz, il, hv, hq, true_implies]) | (apply hK; clear hK K)
          refine Rnd.le (St.le_only ?_) (Rnd.sub (db.length - (i + 1)) (by omega) ((hI _ _).2 ⟨i + 1, rfl, by omega, hC, rfl⟩) (by repeat' (first | exact rfl | exact trivial | constructor)))
          repeat (first | exact List.mem_cons_self | apply List.mem_cons_of_mem)
      · rw [if_pos hv] at hC
        subst hC
        repeat' first | (refine SW.seq_k fun K hK => ?_) | (refine SW.block ?_) | ((first | refine SW.region ?_ | refine SW.cond ?_ | refine SW.skip ?_ | refine SW.ret ?_ | refine Call.of_pure (c1) ?_ | (refine allF_i fun b hb => ?_; replace hD := And.intro hb hD; clear hb; try simp only [fresh_cons, fresh_nil, and_true, ne_eq, neF] at hD)); try simp only [go_sem, hD, hli, ie, i0, w1, fi, iz, il, hv, true_implies]) | (apply hK; clear hK K)
        refine ret_pure ?_; simp only [resL_tmp, resL_nil, tupOf, go_sem, hD]
    · have hli : ¬ ((i : Nat) : Int) < (((db.length) : Nat) : Int) := by omega
      rw [show db.length - i = 0 by omega] at hC
      have hC2 : R = 0 := hC
      subst hC2
      repeat' first | (refine SW.seq_k fun K hK => ?_) | ((first | refine SW.region ?_ | refine SW.cond ?_ | refine SW.exit ?_ | refine SW.ret ?_); try simp only [go_sem, hD, hli]) | (apply hK; clear hK K) | (clear hK K; apply hK; clear hK K)
      refine ret_pure ?_; simp only [resL_tmp, resL_nil, tupOf, go_sem, hD]
theorem check_r (db : List Tb) (hdb : db.length ≤ 9223372036854775807) (hok : OkDb db) : PCall Tryz.prog 64 [DB db] (I64 (chkS db)) := by
  obtain ⟨R, hR⟩ : ∃ R, R = chkS db := ⟨_, rfl⟩
  rw [← hR]
  unfold chkS at hR
  by_cases h50 : 50 < db.length
  · rw [if_pos h50] at hR
    subst hR
    have h50i : (50 : Int) < ((db.length : Nat) : Int) := by omega
    refine Call.enter' (N := 37) (rs := [.tmp 2]) Tryz.func64 rfl rfl rfl (by decide) rfl ?_; simp only [argT]; have hD : (0 : Nat) = 0 := rfl
    repeat' first | (refine SW.seq_k fun K hK => ?_) | ((first | refine SW.region ?_ | refine SW.cond ?_ | refine SW.ret ?_ | (refine allF_i fun b hb => ?_; replace hD := And.intro hb hD; clear hb; try simp only [fresh_cons, fresh_nil, and_true, ne_eq, neF] at hD)); try simp only [go_sem, hD, h50i]) | (apply hK; clear hK K)
    refine ret_pure ?_; simp only [resL_tmp, resL_nil, tupOf, go_sem, hD]
  · rw [if_neg h50] at hR
    have h50i : ¬ (50 : Int) < ((db.length : Nat) : Int) := by omega
    refine Call.enter' (N := 37) (rs := [.tmp 2]) Tryz.func64 rfl rfl rfl (by decide) rfl ?_; simp only [argT]; have hD : (0 : Nat) = 0 := rfl
    repeat' first | (refine SW.seq_k fun K hK => ?_) | (refine SW.block ?_) | ((first | refine SW.region ?_ | refine SW.cond ?_ | refine SW.skip ?_ | (refine allF_i fun b hb => ?_; replace hD := And.intro hb hD; clear hb; try simp only [fresh_cons, fresh_nil, and_true, ne_eq, neF] at hD)); try simp only [go_sem, hD, h50i]) | (apply hK; clear hK K)
    obtain ⟨xb, rfl⟩ : ∃ x, x = b := ⟨_, rfl⟩
    obtain ⟨I, hI⟩ : ∃ I : Nat → St → Prop, ∀ k S, I k S ↔ (∃ (i : Nat) , k = db.length - i ∧ i ≤ db.length ∧ R = chkF db (db.length - i) i ∧ S = ⟨[(1, .op xb 0), (3, I64 i)], [(xb, .svs [TL db])]⟩) := ⟨fun k S => _, fun _ _ => Iff.rfl⟩
    refine SW.loop' I (db.length) ((hI _ _).2 ⟨0, rfl, Nat.zero_le _, hR, rfl⟩) (by repeat' (first | exact rfl | exact trivial | constructor)) ?_
    intro k S hIn
    obtain ⟨i, rfl, hi, hC, rfl⟩ := (hI _ _).1 hIn
    clear hIn
    have ie : ((i : Nat) : Int).toNat = i := Int.toNat_natCast _
    have i0 : (0 : Int) ≤ ((i : Nat) : Int) := by omega
    clear hR
    by_cases hlt : i < db.length
    · have hli : ((i : Nat) : Int) < (((db.length) : Nat) : Int) := by omega
      have w1 : IntKind.i64.wrap ((i : Int) + 1) = ((i + 1 : Nat) : Int) := by rw [i64_wrap (by omega) (by omega)]; omega
      rw [show db.length - i = (db.length - (i + 1)) + 1 by omega, chkF] at hC
      have fi : tF db i = tC (db.getD i t0) := rfl
      have iz : (((i : Nat) : Int) - 0).toNat = i := by omega
      have il : ((i : Nat) : Int) ≤ ((db.length : Nat) : Int) := by omega
      have c1 := valid_tr (db.getD i t0) (hok _ (getD_mem' t0 hlt))
      have c2 := table_r (db.getD i t0).name (db.take i) i (by omega) (by rw [List.length_take]; omega) (tF db) (fun j hj => tF_take hj)
      generalize db.getD i t0 = t at *
      generalize tabI t.name 0 (db.take i) = q at *
      generalize validS t = v at *
      obtain ⟨tn, ta, tr⟩ := t
      simp only at c2
      by_cases hv : v = 0
      · rw [if_neg (fun x => x hv)] at hC
        by_cases hq : 0 ≤ q
        · rw [if_pos hq] at hC
          subst hC
          repeat' first | (refine SW.seq_k fun K hK => ?_) | (refine SW.block ?_) | ((first | refine SW.region ?_ | refine SW.regionZ (id := 9) (Checked.mixed Tryz.checked) Go.Ab.zC3_2 (by kernel_rfl) ?_ | refine SW.cond ?_ | refine SW.skip ?_ | refine SW.ret ?_ | refine Call.of_pure (c1) ?_ | refine ⟨_, c2, ?_⟩); try simp only [Go.Ab.zC3_2, go_sem, hD, hli, ie, i0, w1, fi, iz, il, hv, hq, true_implies]) | (apply hK; clear hK K)
          refine ret_pure ?_; simp only [resL_tmp, resL_nil, tupOf, go_sem, hD]
        · rw [if_neg hq] at hC
          repeat' first | (refine SW.seq_k fun K hK => ?_) | (refine SW.block ?_) | ((first | refine SW.region ?_ | refine SW.regionZ (id := 9) (Checked.mixed Tryz.checked) Go.Ab.zC3_2 (by kernel_rfl) ?_ | refine SW.cond ?_ | refine SW.skip ?_ | refine Call.of_pure (c1) ?_ | refine ⟨_, c2, ?_⟩); try simp only [Go.Ab.zC3_2, go_sem, hD, hli, ie, i0, w1, fi, iz, il, hv, hq, true_implies]) | (apply hK; clear hK K)
          refine Rnd.sub (db.length - (i + 1)) (by omega) ((hI _ _).2 ⟨i + 1, rfl, by omega, hC, rfl⟩) (by repeat' (first | exact rfl | exact trivial | constructor))
      · rw [if_pos hv] at hC
        subst hC
        repeat' first | (refine SW.seq_k fun K hK => ?_) | (refine SW.block ?_) | ((first | refine SW.region ?_ | refine SW.cond ?_ | refine SW.skip ?_ | refine SW.ret ?_ | refine Call.of_pure (c1) ?_); try simp only [go_sem, hD, hli, ie, i0, w1, fi, iz, il, hv, true_implies]) | (apply hK; clear hK K)
        refine ret_pure ?_; simp only [resL_tmp, resL_nil, tupOf, go_sem, hD]
    · have hli : ¬ ((i : Nat) : Int) < (((db.length) : Nat) : Int) := by omega
      rw [show db.length - i = 0 by omega] at hC
      have hC2 : R = 0 := hC
      subst hC2
      repeat' first | (refine SW.seq_k fun K hK => ?_) | ((first | refine SW.region ?_ | refine SW.cond ?_ | refine SW.exit ?_ | refine SW.ret ?_); try simp only [go_sem, hD, hli]) | (apply hK; clear hK K) | (clear hK K; apply hK; clear hK K)
      refine ret_pure ?_; simp only [resL_tmp, resL_nil, tupOf, go_sem, hD]
theorem valid_ip (db : List Tb) (d : Dp) (hdb : db.length ≤ 9223372036854775807) (hd : OkD d) : PCall Tryz.prog 105 [DB db, DV d] (I64 (if ¬ chkS db = 0 then chkS db else fitsS db d)) := by
  have c1 := check_p db hdb
  have c2 := fits_p db d hdb hd
  generalize chkS db = v at *
  generalize fitsS db d = u at *
  by_cases hv : v = 0
  · rw [if_neg (fun x => x hv)]
    refine Call.enter' (N := 14) (rs := [.tmp 4]) Tryz.func105 rfl rfl rfl (by decide) rfl ?_; simp only [argT]; have hD : (0 : Nat) = 0 := rfl
    repeat' first | (refine SW.seq_k fun K hK => ?_) | ((first | refine SW.region ?_ | refine SW.cond ?_ | refine SW.skip ?_ | refine SW.ret ?_ | refine Call.of_pure (c1) ?_ | refine Call.of_pure (c2) ?_ | (refine allF_i fun b hb => ?_; replace hD := And.intro hb hD; clear hb; try simp only [fresh_cons, fresh_nil, and_true, ne_eq, neF] at hD)); try simp only [go_sem, hD, hv]) | (apply hK; clear hK K)
    refine ret_pure ?_; simp only [resL_tmp, resL_nil, tupOf, go_sem, hD]
  · rw [if_pos hv]
    refine Call.enter' (N := 14) (rs := [.tmp 4]) Tryz.func105 rfl rfl rfl (by decide) rfl ?_; simp only [argT]; have hD : (0 : Nat) = 0 := rfl
    repeat' first | (refine SW.seq_k fun K hK => ?_) | ((first | refine SW.region ?_ | refine SW.cond ?_ | refine SW.ret ?_ | refine Call.of_pure (c1) ?_ | (refine allF_i fun b hb => ?_; replace hD := And.intro hb hD; clear hb; try simp only [fresh_cons, fresh_nil, and_true, ne_eq, neF] at hD)); try simp only [go_sem, hD, hv]) | (apply hK; clear hK K)
    refine ret_pure ?_; simp only [resL_tmp, resL_nil, tupOf, go_sem, hD]
theorem valid_ir (db : List Tb) (d : Dp) (hdb : db.length ≤ 9223372036854775807) (hok : OkDb db) (hd : OkD d) : PCall Tryz.prog 28 [DB db, DV d] (I64 (if ¬ chkS db = 0 then chkS db else fitsS db d)) := by
  have c1 := check_r db hdb hok
  have c2 := fits_r db d hdb hd
  generalize chkS db = v at *
  generalize fitsS db d = u at *
  by_cases hv : v = 0
  · rw [if_neg (fun x => x hv)]
    refine Call.enter' (N := 14) (rs := [.tmp 4]) Tryz.func28 rfl rfl rfl (by decide) rfl ?_; simp only [argT]; have hD : (0 : Nat) = 0 := rfl
    repeat' first | (refine SW.seq_k fun K hK => ?_) | ((first | refine SW.region ?_ | refine SW.cond ?_ | refine SW.skip ?_ | refine SW.ret ?_ | refine Call.of_pure (c1) ?_ | refine Call.of_pure (c2) ?_ | (refine allF_i fun b hb => ?_; replace hD := And.intro hb hD; clear hb; try simp only [fresh_cons, fresh_nil, and_true, ne_eq, neF] at hD)); try simp only [go_sem, hD, hv]) | (apply hK; clear hK K)
    refine ret_pure ?_; simp only [resL_tmp, resL_nil, tupOf, go_sem, hD]
  · rw [if_pos hv]
    refine Call.enter' (N := 14) (rs := [.tmp 4]) Tryz.func28 rfl rfl rfl (by decide) rfl ?_; simp only [argT]; have hD : (0 : Nat) = 0 := rfl
    repeat' first | (refine SW.seq_k fun K hK => ?_) | ((first | refine SW.region ?_ | refine SW.cond ?_ | refine SW.ret ?_ | refine Call.of_pure (c1) ?_ | (refine allF_i fun b hb => ?_; replace hD := And.intro hb hD; clear hb; try simp only [fresh_cons, fresh_nil, and_true, ne_eq, neF] at hD)); try simp only [go_sem, hD, hv]) | (apply hK; clear hK K)
    refine ret_pure ?_; simp only [resL_tmp, resL_nil, tupOf, go_sem, hD]
end Go.Proofs.YtpidncgibgiidaaGreat
namespace Go.Ab.A15
open Go Go.Ab Go.Ab.A34
abbrev SN : SV := .sc (.slice none 0 0)
end Go.Ab.A15
namespace Go.Proofs.YtpidncgibgiidaaGreat
open Go Go.Ab Go.Ab.A34 Go.Ab.A15
variable [Gl] [Tabs]
end Go.Proofs.YtpidncgibgiidaaGreat
namespace Go.Ab.A15
end Go.Ab.A15
namespace Go.Ab.A15
open Go Go.Ab Go.Ab.A34
theorem same_s (a b : ByteArray) : sameC .s (.string a) (.string b) = some (decide (a = b)) := by
  show some (a.data == b.data) = some (decide (a = b))
  congr 1
  rw [Bool.eq_iff_iff, beq_iff_eq, decide_eq_true_iff]
  exact ⟨fun h => ba_ext (by rw [h]), fun h => by rw [h]⟩
end Go.Ab.A15
namespace Go.Proofs.YtpidncgibgiidaaGreat
open Go Go.Ab Go.Ab.A34 Go.Ab.A15
variable [Gl] [Tabs]
end Go.Proofs.YtpidncgibgiidaaGreat
namespace Go.Ab
open Go
end Go.Ab
namespace Go.Ab.A15
open Go Go.Ab Go.Ab.A34
theorem list_eq {a c : List Int} (hl : a.length = c.length) (h : ∀ j, j < a.length → a.getD j 0 = c.getD j 0) : a = c := by
  refine List.ext_getElem hl fun i h1 h2 => ?_
  have := h i h1
  simpa [List.getD_eq_getElem?_getD, h1, h2] using this
theorem fC_lt {α : Type} {enc : α → List SV} {k : Nat} (hk : ∀ x, (enc x).length = k) {l : List α} {i j : Nat} (hi : i < l.length) (hj : j < k) : i * k + j < (fC enc l).length := by
  rw [← fC_len hk]
  have : (i + 1) * k ≤ l.length * k := Nat.mul_le_mul_right k hi
  rw [Nat.add_mul, Nat.one_mul] at this
  omega
end Go.Ab.A15
def Go.Ab.zC6_1 : Go.Ab.OZ := (.one 0 [0, 2, 3, 8] (.one 1 [1, 2, 3, 8] (.one 2 [2, 3, 8] (.one 3 [3, 8] (.one 4 [4, 6, 7, 8] (.one 5 [5, 6, 7, 8] (.one 6 [6, 7, 8] (.one 7 [7, 8] (.one 8 [8] .done)))))))))
namespace Go.Proofs.YtpidncgibgiidaaGreat
open Go Go.Ab Go.Ab.A34 Go.Ab.A15
variable [Gl] [Tabs]
theorem equal_i (a c : List Int) (ha : a.length ≤ 1000000000) (hc : c.length ≤ 1000000000) (n : Nat) (hn : c.length = n) (f : Nat → List SV) (hf : ∀ i, i < n → f i = [I64 (c.getD i 0)]) : PCall Tryz.prog 97 [IL a, .fl n 1 f] (SB (decide (a = c))) := by
  subst hn
  obtain ⟨X, hX⟩ : ∃ X, X = decide (a = c) := ⟨_, rfl⟩
  rw [← hX]
  have h0 : ¬ a.length = c.length → X = false := fun h => by rw [hX, decide_eq_false fun e => h (by rw [e])]
  have h1 : a.length = c.length → (∀ j, j < a.length → a.getD j 0 = c.getD j 0) → X = true := fun hl h => by rw [hX, decide_eq_true (list_eq hl h)]
  have h2 : ∀ j, ¬ a.getD j 0 = c.getD j 0 → X = false := fun j h => by rw [hX, decide_eq_false fun e => h (by rw [e])]
  clear hX
  by_cases hl : a.length = c.length
  · have hlq : ((a.length : Nat) : Int) = ((c.length : Nat) : Int) := by omega
    refine Call.enter' (N := 26) (rs := [.tmp 4]) Tryz.func97 rfl rfl rfl (by decide) rfl ?_; simp only [argT]; have hD : (0 : Nat) = 0 := rfl
    repeat' first | (refine SW.seq_k fun K hK => ?_) | (refine SW.block ?_) | ((first | refine SW.region ?_ | refine SW.cond ?_ | refine SW.skip ?_); try simp only [go_sem, hD, hlq]) | (apply hK; clear hK K)
    obtain ⟨I, hI⟩ : ∃ I : Nat → St → Prop, ∀ k S, I k S ↔ (∃ (i : Nat) , k = a.length - i ∧ i ≤ a.length ∧ (∀ j, j < i → a.getD j 0 = c.getD j 0) ∧ S = ⟨[(0, IL a), (1, .fl c.length 1 f), (11, IL a), (12, I64 a.length), (13, I64 i)], []⟩) := ⟨fun k S => _, fun _ _ => Iff.rfl⟩
    refine SW.loop' I (a.length) ((hI _ _).2 ⟨0, rfl, Nat.zero_le _, (fun j hj => absurd hj (by omega)), rfl⟩) (by repeat' (first | exact rfl | exact trivial | exact int_eq (by omega) | constructor)) ?_
    intro k S hIn
    obtain ⟨i, rfl, hi, hL, rfl⟩ := (hI _ _).1 hIn
    clear hIn
    have ie : ((i : Nat) : Int).toNat = i := Int.toNat_natCast _
    have i0 : (0 : Int) ≤ ((i : Nat) : Int) := by omega
    by_cases hlt : i < a.length
    · have hli : ((i : Nat) : Int) < (((a.length) : Nat) : Int) := by omega
      have w1 : IntKind.i64.wrap ((i : Int) + 1) = ((i + 1 : Nat) : Int) := by rw [i64_wrap (by omega) (by omega)]; omega
      have hlc : ((i : Nat) : Int) < ((c.length : Nat) : Int) := by omega
      have fi : iF a i = [I64 (a.getD i 0)] := rfl
      have gi := hf i (by omega)
      have h2i := h2 i
      have hn1 : a.getD i 0 = c.getD i 0 → ∀ j, j < i + 1 → a.getD j 0 = c.getD j 0 := fun h j hj => by
        rcases Nat.lt_or_ge j i with h3 | h3
        · exact hL j h3
        · obtain rfl : j = i := by omega
          exact h
      generalize a.getD i 0 = u at *
      generalize c.getD i 0 = v at *
      by_cases huv : u = v
      · have hn2 := hn1 huv
        repeat' first | (refine SW.seq_k fun K hK => ?_) | (refine SW.block ?_) | ((first | refine SW.region ?_ | refine SW.regionZ (id := 6) (Checked.mixed Tryz.checked) Go.Ab.zC6_1 (by kernel_rfl) ?_ | refine SW.cond ?_ | refine SW.skip ?_); try simp only [Go.Ab.zC6_1, go_sem, hD, hli, hlc, ie, i0, w1, fi, gi, huv]) | (apply hK; clear hK K)
        refine Rnd.sub (a.length - (i + 1)) (by omega) ((hI _ _).2 ⟨i + 1, rfl, by omega, hn2, rfl⟩) (by repeat' (first | exact rfl | exact trivial | constructor))
      · have hx := h2i huv
        subst hx
        repeat' first | (refine SW.seq_k fun K hK => ?_) | (refine SW.block ?_) | ((first | refine SW.region ?_ | refine SW.regionZ (id := 6) (Checked.mixed Tryz.checked) Go.Ab.zC6_1 (by kernel_rfl) ?_ | refine SW.cond ?_ | refine SW.skip ?_ | refine SW.ret ?_); try simp only [Go.Ab.zC6_1, go_sem, hD, hli, hlc, ie, i0, w1, fi, gi, huv]) | (apply hK; clear hK K)
        refine ret_pure ?_; simp only [resL_tmp, resL_nil, tupOf, go_sem, hD]
    · have hli : ¬ ((i : Nat) : Int) < (((a.length) : Nat) : Int) := by omega
      have hx := h1 hl fun j hj => hL j (by omega)
      subst hx
      have nl : ¬ ((c.length : Nat) : Int) < ((c.length : Nat) : Int) := by omega
      repeat' first | (refine SW.seq_k fun K hK => ?_) | ((first | refine SW.region ?_ | refine SW.cond ?_ | refine SW.exit ?_ | refine SW.ret ?_); try simp only [go_sem, hD, hli, nl]) | (apply hK; clear hK K) | (clear hK K; apply hK; clear hK K)
      refine ret_pure ?_; simp only [resL_tmp, resL_nil, tupOf, go_sem, hD]
  · have hlq : ¬ ((a.length : Nat) : Int) = ((c.length : Nat) : Int) := by omega
    have hx := h0 hl
    subst hx
    refine Call.enter' (N := 26) (rs := [.tmp 4]) Tryz.func97 rfl rfl rfl (by decide) rfl ?_; simp only [argT]; have hD : (0 : Nat) = 0 := rfl
    repeat' first | (refine SW.seq_k fun K hK => ?_) | ((first | refine SW.region ?_ | refine SW.cond ?_ | refine SW.ret ?_); try simp only [go_sem, hD, hlq]) | (apply hK; clear hK K)
    refine ret_pure ?_; simp only [resL_tmp, resL_nil, tupOf, go_sem, hD]
end Go.Proofs.YtpidncgibgiidaaGreat
namespace Go.Ab.A15
open Go Go.Ab Go.Ab.A34
theorem Ivs.st {l : List Dp} {g : Dp} {out : List Sn} (h : Ivs l g out) : ∀ j, j < out.length → (out.getD j s0).st ≤ j := by
  intro j
  induction j using Nat.strongRecOn with
  | ind j ih =>
    intro hj
    rcases Nat.eq_zero_or_pos j with rfl | h0
    · rw [h.rt]; exact Nat.le_refl 0
    · obtain ⟨b, k, hb, _, _, _, hn⟩ := h.nx j h0 hj
      obtain ⟨_, _, _, _, e5, _⟩ := nextS_bf hn
      have := ih b hb (by omega)
      omega
end Go.Ab.A15
namespace Go.Proofs.YtpidncgibgiidaaGreat
open Go Go.Ab Go.Ab.A34 Go.Ab.A15
variable [Gl] [Tabs]
end Go.Proofs.YtpidncgibgiidaaGreat
namespace Go.Ab.A15
open Go Go.Ab Go.Ab.A34
end Go.Ab.A15
namespace Go.Proofs.YtpidncgibgiidaaGreat
open Go Go.Ab Go.Ab.A34 Go.Ab.A15
variable [Gl] [Tabs]
end Go.Proofs.YtpidncgibgiidaaGreat
