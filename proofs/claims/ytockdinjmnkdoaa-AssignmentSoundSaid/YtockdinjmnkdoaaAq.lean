/- How the steps are computed: one rule for each form of operation. -/
import Derived.Test.YtockdinjmnkdoaaAp
namespace Go.Ab
open Go.RowKit

/-! ### data as values -/
abbrev I64 (n : Int) : SV := .sc (.int .i64 n)
abbrev SB (b : Bool) : SV := .sc (.bool b)
/-- A slice of numbers that is only read. -/
def ints (k : IntKind) (l : List Int) : SV := .fl l.length 1 (fun i => [.sc (.int k (l.getD i 0))])
/-- A slice of Bools that is only read. -/
def bools (l : List Bool) : SV := .fl l.length 1 (fun i => [.sc (.bool (l.getD i false))])
/-- A slice of slices of numbers that is only read. -/
def mat (k : IntKind) (m : List (List Int)) : SV := .fl m.length 1 (fun i => [ints k (m.getD i [])])

section
variable {P : Program} {N : Nat} {K : St → Prop} {S : St} {ops r : List Oper} {o : Oper} {d : Option Tmp} {ty : TypeId} {ps : String} {af : Array Edge} {g : Option (Nat × Bool)}

theorem vcOps_nil : vcOps P N ops [] K S = K S := rfl
theorem vcOps_plain {op : Op} : vcOps P N ops (⟨d, op, ty, ps, af, none⟩ :: r) K S = stepK P N ⟨d, op, ty, ps, af, none⟩ (vcOps P N ops r K) S := rfl
theorem vcOps_guard {op : Op} {j : Nat} {want : Bool} : vcOps P N ops (⟨d, op, ty, ps, af, some (j, want)⟩ :: r) K S =
    guardK (gdst ops j) want S (stepK P N ⟨d, op, ty, ps, af, some (j, want)⟩ (vcOps P N ops r K)) (fun S => dstOk N d ∧ vcOps P N ops r K (S.put d (.sc undef))) := rfl
theorem vcD_nil : vcD P N ops [] K S = K S := rfl
theorem vcD_plain {op : Op} : vcD P N ops (⟨d, op, ty, ps, af, none⟩ :: r) K S = stepD P N ⟨d, op, ty, ps, af, none⟩ (vcD P N ops r K) S := rfl
theorem vcD_guard {op : Op} {j : Nat} {want : Bool} : vcD P N ops (⟨d, op, ty, ps, af, some (j, want)⟩ :: r) K S =
    guardK (gdst ops j) want S (stepD P N ⟨d, op, ty, ps, af, some (j, want)⟩ (vcD P N ops r K)) (fun S => dstOk N d ∧ vcD P N ops r K (S.put d (.sc undef))) := rfl

theorem guardK_some {t : Tmp} {want : Bool} {A B : St → Prop} : guardK (some t) want S A B = guardB (look S.t t) t want S A B := rfl
theorem guardB_yes {b : Bool} {t : Tmp} {A B : St → Prop} : guardB (.sc (.bool b)) t true S A B = if b = true then A (S.put (some t) (.sc (.bool true))) else B (S.put (some t) (.sc (.bool false))) := rfl
theorem guardB_no {b : Bool} {t : Tmp} {A B : St → Prop} : guardB (.sc (.bool b)) t false S A B = if b = true then B (S.put (some t) (.sc (.bool true))) else A (S.put (some t) (.sc (.bool false))) := rfl

theorem guardB_undef {want : Bool} {t : Tmp} {A B : St → Prop} : guardB (.sc undef) t want S A B = B S := rfl
theorem gdst_zero {o : Oper} : gdst (o :: r) 0 = o.dst := rfl
theorem gdst_succ {o : Oper} {j : Nat} : gdst (o :: r) (j + 1) = gdst r j := by simp [gdst]

/-- An operation's way of standing: the common part. -/
theorem sK {op : Op} {R : VRes} (h : valOp P op S.ev S.h = R) : stepK P N ⟨d, op, ty, ps, af, g⟩ K S = (dstOk N d ∧ resK R d (effK P op d K S) K S) := by rw [← h]; rfl
theorem sD {op : Op} {R : VRes} (hs : stableOp op = true) (h : valOp P op S.ev S.h = R) : stepD P N ⟨d, op, ty, ps, af, g⟩ K S = (dstOk N d ∧ resD R d (effD P op d K S) K S) := by
  rw [← h]; simp only [stepD, hs, cond_true]
theorem sU {op : Op} (hs : stableOp op = false) : stepD P N ⟨d, op, ty, ps, af, g⟩ K S = stepK P N ⟨d, op, ty, ps, af, g⟩ K S := by
  simp only [stepD, hs, cond_false]

theorem stepK_move {x : Operand} : stepK P N ⟨d, .move x, ty, ps, af, g⟩ K S = (dstOk N d ∧ K (S.put d (S.ev x))) := by rw [sK rfl]; simp [valOp, resK]
theorem stepK_assign {x : Operand} : stepK P N ⟨d, .assign x, ty, ps, af, g⟩ K S = (dstOk N d ∧ K (S.put d (S.ev x))) := by rw [sK rfl]; simp [valOp, resK]
theorem stepK_pick {c x y : Operand} : stepK P N ⟨d, .pick c x y, ty, ps, af, g⟩ K S = (dstOk N d ∧ resK (pickSV (S.ev c) (S.ev x) (S.ev y)) d False K S) := by rw [sK rfl]; rfl
theorem stepK_bin {op : BinOp} {t t' : TypeId} {x y : Operand} : stepK P N ⟨d, .binOp op t x y t', ty, ps, af, g⟩ K S = (dstOk N d ∧ resK (binSV P op t (S.ev x) (S.ev y)) d False K S) := by rw [sK rfl]; rfl
theorem stepK_un {op : UnOp} {t : TypeId} {x : Operand} : stepK P N ⟨d, .unOp op t x, ty, ps, af, g⟩ K S = (dstOk N d ∧ resK (unSV op (S.ev x)) d False K S) := by rw [sK rfl]; rfl
theorem stepK_load {t : TypeId} {x : Operand} : stepK P N ⟨d, .load t x, ty, ps, af, g⟩ K S = (dstOk N d ∧ resK (loadSV (tk P t) (S.ev x) S.h) d False K S) := by rw [sK rfl]; rfl
theorem stepK_indexAddr {t : TypeId} {x y : Operand} : stepK P N ⟨d, .indexAddr t x y, ty, ps, af, g⟩ K S = (dstOk N d ∧ resK (indexAddrSV (slk P t) (ark P t) (S.ev x) (S.ev y)) d False K S) := by rw [sK rfl]; rfl
theorem stepK_index {t : TypeId} {x y : Operand} : stepK P N ⟨d, .index t x y, ty, ps, af, g⟩ K S = (dstOk N d ∧ resK (indexSV (isStr P t) (S.ev x) (S.ev y)) d False K S) := by rw [sK rfl]; rfl
theorem stepK_fieldAddr {t : TypeId} {x : Operand} {f : Nat} : stepK P N ⟨d, .fieldAddr t x f, ty, ps, af, g⟩ K S = (dstOk N d ∧ resK (fieldAddrSV (fdk P t f) (S.ev x)) d False K S) := by rw [sK rfl]; rfl
theorem stepK_field {t : TypeId} {x : Operand} {f : Nat} : stepK P N ⟨d, .field t x f, ty, ps, af, g⟩ K S = (dstOk N d ∧ resK (fieldSV (fdk P t f) (S.ev x)) d False K S) := by rw [sK rfl]; rfl
theorem stepK_extract {x : Operand} {i : Nat} : stepK P N ⟨d, .extract x i, ty, ps, af, g⟩ K S = (dstOk N d ∧ resK (tupSV (S.ev x) i) d False K S) := by rw [sK rfl]; rfl
theorem stepK_nilCheck {x : Operand} : stepK P N ⟨d, .nilCheck x, ty, ps, af, g⟩ K S = (dstOk N d ∧ resK (nilSV (S.ev x)) d False K S) := by rw [sK rfl]; rfl
theorem stepK_slice {t : TypeId} {x : Operand} {lo hi mx : Option Operand} : stepK P N ⟨d, .slice t x lo hi mx, ty, ps, af, g⟩ K S = (dstOk N d ∧ resK (sliceSV (isStr P t) (slk P t) (S.ev x) (lo.map S.ev) (hi.map S.ev) (mx.map S.ev)) d False K S) := by rw [sK rfl]; rfl
theorem stepK_convert {s t : TypeId} {x : Operand} : stepK P N ⟨d, .convert s t x, ty, ps, af, g⟩ K S = (dstOk N d ∧ resK (bif (P.underlying s).isSome then convSV (ik P t) (isStr P t) (S.ev x) else .bad) d False K S) := by rw [sK rfl]; rfl
theorem stepK_box {t : TypeId} {x : Operand} : stepK P N ⟨d, .box t x, ty, ps, af, g⟩ K S = (dstOk N d ∧ resK (boxSV (S.ev x)) d False K S) := by rw [sK rfl]; rfl
theorem stepK_alloc {t : TypeId} : stepK P N ⟨d, .alloc t, ty, ps, af, g⟩ K S = (dstOk N d ∧ resK (allocSV (zk P t)) d False K S) := by rw [sK rfl]; rfl
theorem stepK_build {t : TypeId} {xs : Array (Nat × Operand)} : stepK P N ⟨d, .build t xs, ty, ps, af, g⟩ K S = (dstOk N d ∧ resK (buildSV (flk P t) (ark P t) (zk P t) (xs.toList.map fun p => (p.1, S.ev p.2))) d False K S) := by rw [sK rfl]; rfl
theorem stepK_buildSlice {t : TypeId} {n : Nat} {xs : Array (Nat × Operand)} : stepK P N ⟨d, .buildSlice t n xs, ty, ps, af, g⟩ K S = (dstOk N d ∧ resK (buildSliceSV (slk P t) (elemZ P t) n (xs.toList.map fun p => (p.1, S.ev p.2))) d False K S) := by rw [sK rfl]; rfl
theorem stepK_makeSlice {t : TypeId} {x y : Operand} : stepK P N ⟨d, .makeSlice t x y, ty, ps, af, g⟩ K S = (dstOk N d ∧ resK (makeSV (slk P t) (elemZ P t) (S.ev x) (S.ev y)) d False K S) := by rw [sK rfl]; rfl
theorem stepK_makeFunc {f : Fn} {xs ys : Array Operand} : stepK P N ⟨d, .makeFunc f xs ys, ty, ps, af, g⟩ K S = (dstOk N d ∧ K (S.put d (.fn f (xs.toList.map S.ev) (ys.toList.map S.ev)))) := by rw [sK rfl]; simp [valOp, resK]
theorem stepK_len {t : TypeId} {x : Operand} : stepK P N ⟨d, .call ⟨.builtin .len, ⟨[x]⟩, ⟨[t]⟩⟩, ty, ps, af, g⟩ K S = (dstOk N d ∧ resK (lenSV (isStr P t) (slk P t) (ark P t) (S.ev x)) d False K S) := by rw [sK rfl]; rfl
theorem stepK_min {ts : Array TypeId} {x y : Operand} : stepK P N ⟨d, .call ⟨.builtin .min, ⟨[x, y]⟩, ts⟩, ty, ps, af, g⟩ K S = (dstOk N d ∧ resK (minSV (S.ev x) (S.ev y)) d False K S) := by rw [sK rfl]; rfl
theorem stepK_max {ts : Array TypeId} {x y : Operand} : stepK P N ⟨d, .call ⟨.builtin .max, ⟨[x, y]⟩, ts⟩, ty, ps, af, g⟩ K S = (dstOk N d ∧ resK (maxSV (S.ev x) (S.ev y)) d False K S) := by rw [sK rfl]; rfl
theorem stepK_store {t : TypeId} {x y : Operand} : stepK P N ⟨d, .store t x y, ty, ps, af, g⟩ K S = (dstOk N d ∧ storeK (tk P t) (S.ev x) (svCells (S.ev y)) d K S) := by rw [sK rfl]; rfl
theorem stepK_call {f : Operand} {xs : Array Operand} {ts : Array TypeId} : stepK P N ⟨d, .call ⟨.value f, xs, ts⟩, ty, ps, af, g⟩ K S = (dstOk N d ∧ callK P (S.ev f) (xs.toList.map S.ev) d K S) := by rw [sK rfl]; rfl
theorem stepK_append {s x : Operand} {st xt : TypeId} : stepK P N ⟨d, .call ⟨.builtin .append, ⟨[s, x]⟩, ⟨[st, xt]⟩⟩, ty, ps, af, g⟩ K S = (dstOk N d ∧ bif notInt P xt then appK (slk P st) (elemZ P st) true (S.ev s) (S.ev x) d K S else bif (ik P xt).isSome then appZK (slk P st) (elemZ P st) (S.ev s) (S.ev x) d K S else False) := by rw [sK rfl]; rfl
theorem stepK_cap {t : TypeId} {x : Operand} : stepK P N ⟨d, .call ⟨.builtin .cap, ⟨[x]⟩, ⟨[t]⟩⟩, ty, ps, af, g⟩ K S = (dstOk N d ∧ resK (capSV (slk P t) (S.ev x)) d False K S) := by rw [sK rfl]; rfl
theorem appZK_nil {e size bytes : Nat} {z : List Value} {n : Int} : appZK (some (e, size, bytes)) (some z) (.sc (.slice none 0 0)) (.sc (.int .i64 n)) d K S = (z.length = size ∧ 0 < size ∧ 0 < n ∧ n * bytes ≤ 140737488355328 ∧ n ≤ 140737488355328 ∧
      allF S.h fun b => K ((⟨S.t, (b, zeros z n.toNat) :: S.h⟩ : St).put d (.os b 0 n.toNat size))) := rfl
theorem cap_nil {L : TypeId × Nat × Nat} {n c : Nat} : capSV (some L) (.sc (.slice none n c)) = .ok True (.sc (.int .i64 c)) := rfl

theorem resDK {R : VRes} (h : ∀ pre k mk, R ≠ .new pre k mk) : resD R d False K S = resK R d False K S := by
  cases R with
  | bad => rfl
  | ok pre v => rfl
  | new pre k mk => exact absurd rfl (h pre k mk)

theorem stepD_move {x : Operand} : stepD P N ⟨d, .move x, ty, ps, af, g⟩ K S = (dstOk N d ∧ K (S.put d (S.ev x))) := by rw [sD rfl rfl]; simp [valOp, resD]
theorem stepD_assign {x : Operand} : stepD P N ⟨d, .assign x, ty, ps, af, g⟩ K S = (dstOk N d ∧ K (S.put d (S.ev x))) := by rw [sD rfl rfl]; simp [valOp, resD]
theorem stepD_pick {c x y : Operand} : stepD P N ⟨d, .pick c x y, ty, ps, af, g⟩ K S = (dstOk N d ∧ resD (pickSV (S.ev c) (S.ev x) (S.ev y)) d False K S) := by rw [sD rfl rfl]; rfl
theorem stepD_bin {op : BinOp} {t t' : TypeId} {x y : Operand} : stepD P N ⟨d, .binOp op t x y t', ty, ps, af, g⟩ K S = (dstOk N d ∧ resD (binSV P op t (S.ev x) (S.ev y)) d False K S) := by rw [sD rfl rfl]; rfl
theorem stepD_un {op : UnOp} {t : TypeId} {x : Operand} : stepD P N ⟨d, .unOp op t x, ty, ps, af, g⟩ K S = (dstOk N d ∧ resD (unSV op (S.ev x)) d False K S) := by rw [sD rfl rfl]; rfl
theorem stepD_load {t : TypeId} {x : Operand} : stepD P N ⟨d, .load t x, ty, ps, af, g⟩ K S = (dstOk N d ∧ resD (loadSV (tk P t) (S.ev x) S.h) d False K S) := by rw [sD rfl rfl]; rfl
theorem stepD_indexAddr {t : TypeId} {x y : Operand} : stepD P N ⟨d, .indexAddr t x y, ty, ps, af, g⟩ K S = (dstOk N d ∧ resD (indexAddrSV (slk P t) (ark P t) (S.ev x) (S.ev y)) d False K S) := by rw [sD rfl rfl]; rfl
theorem stepD_index {t : TypeId} {x y : Operand} : stepD P N ⟨d, .index t x y, ty, ps, af, g⟩ K S = (dstOk N d ∧ resD (indexSV (isStr P t) (S.ev x) (S.ev y)) d False K S) := by rw [sD rfl rfl]; rfl
theorem stepD_fieldAddr {t : TypeId} {x : Operand} {f : Nat} : stepD P N ⟨d, .fieldAddr t x f, ty, ps, af, g⟩ K S = (dstOk N d ∧ resD (fieldAddrSV (fdk P t f) (S.ev x)) d False K S) := by rw [sD rfl rfl]; rfl
theorem stepD_field {t : TypeId} {x : Operand} {f : Nat} : stepD P N ⟨d, .field t x f, ty, ps, af, g⟩ K S = (dstOk N d ∧ resD (fieldSV (fdk P t f) (S.ev x)) d False K S) := by rw [sD rfl rfl]; rfl
theorem stepD_extract {x : Operand} {i : Nat} : stepD P N ⟨d, .extract x i, ty, ps, af, g⟩ K S = (dstOk N d ∧ resD (tupSV (S.ev x) i) d False K S) := by rw [sD rfl rfl]; rfl
theorem stepD_nilCheck {x : Operand} : stepD P N ⟨d, .nilCheck x, ty, ps, af, g⟩ K S = (dstOk N d ∧ resD (nilSV (S.ev x)) d False K S) := by rw [sD rfl rfl]; rfl
theorem stepD_slice {t : TypeId} {x : Operand} {lo hi mx : Option Operand} : stepD P N ⟨d, .slice t x lo hi mx, ty, ps, af, g⟩ K S = (dstOk N d ∧ resD (sliceSV (isStr P t) (slk P t) (S.ev x) (lo.map S.ev) (hi.map S.ev) (mx.map S.ev)) d False K S) := by rw [sD rfl rfl]; rfl
theorem stepD_convert {s t : TypeId} {x : Operand} : stepD P N ⟨d, .convert s t x, ty, ps, af, g⟩ K S = (dstOk N d ∧ resD (bif (P.underlying s).isSome then convSV (ik P t) (isStr P t) (S.ev x) else .bad) d False K S) := by rw [sD rfl rfl]; rfl
theorem stepD_build {t : TypeId} {xs : Array (Nat × Operand)} : stepD P N ⟨d, .build t xs, ty, ps, af, g⟩ K S = (dstOk N d ∧ resD (buildSV (flk P t) (ark P t) (zk P t) (xs.toList.map fun p => (p.1, S.ev p.2))) d False K S) := by rw [sD rfl rfl]; rfl
theorem stepD_makeFunc {f : Fn} {xs ys : Array Operand} : stepD P N ⟨d, .makeFunc f xs ys, ty, ps, af, g⟩ K S = (dstOk N d ∧ K (S.put d (.fn f (xs.toList.map S.ev) (ys.toList.map S.ev)))) := by rw [sD rfl rfl]; simp [valOp, resD]
theorem stepD_len {t : TypeId} {x : Operand} : stepD P N ⟨d, .call ⟨.builtin .len, ⟨[x]⟩, ⟨[t]⟩⟩, ty, ps, af, g⟩ K S = (dstOk N d ∧ resD (lenSV (isStr P t) (slk P t) (ark P t) (S.ev x)) d False K S) := by rw [sD rfl rfl]; rfl
theorem stepD_min {ts : Array TypeId} {x y : Operand} : stepD P N ⟨d, .call ⟨.builtin .min, ⟨[x, y]⟩, ts⟩, ty, ps, af, g⟩ K S = (dstOk N d ∧ resD (minSV (S.ev x) (S.ev y)) d False K S) := by rw [sD rfl rfl]; rfl
theorem stepD_max {ts : Array TypeId} {x y : Operand} : stepD P N ⟨d, .call ⟨.builtin .max, ⟨[x, y]⟩, ts⟩, ty, ps, af, g⟩ K S = (dstOk N d ∧ resD (maxSV (S.ev x) (S.ev y)) d False K S) := by rw [sD rfl rfl]; rfl
theorem stepD_call {f : Operand} {xs : Array Operand} {ts : Array TypeId} : stepD P N ⟨d, .call ⟨.value f, xs, ts⟩, ty, ps, af, g⟩ K S = (dstOk N d ∧ pcallK P (S.ev f) (xs.toList.map S.ev) d K S) := by rw [sD rfl rfl]; rfl
theorem stepD_store {t : TypeId} {x y : Operand} : stepD P N ⟨d, .store t x y, ty, ps, af, g⟩ K S = (dstOk N d ∧ storeK (tk P t) (S.ev x) (svCells (S.ev y)) d K S) := by rw [sU rfl, stepK_store]
theorem stepD_append {s x : Operand} {st xt : TypeId} : stepD P N ⟨d, .call ⟨.builtin .append, ⟨[s, x]⟩, ⟨[st, xt]⟩⟩, ty, ps, af, g⟩ K S = (dstOk N d ∧ bif notInt P xt then appK (slk P st) (elemZ P st) true (S.ev s) (S.ev x) d K S else bif (ik P xt).isSome then appZK (slk P st) (elemZ P st) (S.ev s) (S.ev x) d K S else False) := by rw [sU rfl, stepK_append]
theorem stepD_box {t : TypeId} {x : Operand} : stepD P N ⟨d, .box t x, ty, ps, af, g⟩ K S = (dstOk N d ∧ resK (boxSV (S.ev x)) d False K S) := by rw [sU rfl, stepK_box]
theorem stepD_buildSlice {t : TypeId} {n : Nat} {xs : Array (Nat × Operand)} : stepD P N ⟨d, .buildSlice t n xs, ty, ps, af, g⟩ K S = (dstOk N d ∧ resK (buildSliceSV (slk P t) (elemZ P t) n (xs.toList.map fun p => (p.1, S.ev p.2))) d False K S) := by rw [sU rfl, stepK_buildSlice]
theorem stepD_makeSlice {t : TypeId} {x y : Operand} : stepD P N ⟨d, .makeSlice t x y, ty, ps, af, g⟩ K S = (dstOk N d ∧ resK (makeSV (slk P t) (elemZ P t) (S.ev x) (S.ev y)) d False K S) := by rw [sU rfl, stepK_makeSlice]

theorem resK_ok {pre : Prop} {v : SV} {E : Prop} : resK (.ok pre v) d E K S = (pre ∧ K (S.put d v)) := rfl
theorem resK_new {pre : Prop} {k : Blk} {mk : Nat → SV} {E : Prop} : resK (.new pre k mk) d E K S = (pre ∧ allF S.h fun b => K ((⟨S.t, (b, k) :: S.h⟩ : St).put d (mk b))) := rfl
theorem resD_ok {pre : Prop} {v : SV} {E : Prop} : resD (.ok pre v) d E K S = (pre ∧ K (S.put d v)) := rfl

theorem dstOk_some {i : Tmp} : dstOk N (some i) = (i < N) := rfl
theorem dstOk_none : dstOk N none = True := rfl
theorem put_some {t : List (Nat × SV)} {h : Heap} {i : Tmp} {v : SV} : (St.mk t h).put (some i) v = ⟨(i, v) :: t, h⟩ := rfl
theorem put_none {v : SV} : S.put none v = S := rfl
theorem ev_tmp {t : List (Nat × SV)} {h : Heap} {i : Tmp} : (St.mk t h).ev (.tmp i) = look t i := rfl
theorem ev_const {v : Value} : S.ev (.const v) = .sc v := rfl
theorem ev_func {f : FuncId} : S.ev (.func f) = .fn (.func f) [] [] := rfl
theorem look_if {j i : Nat} {v : SV} {t : List (Nat × SV)} : look ((j, v) :: t) i = if j = i then v else look t i := by
  rw [look_cons]
  by_cases h : j = i
  · rw [if_pos h, show Nat.beq j i = true by rw [Nat.beq_eq]; exact h]; rfl
  · rw [if_neg h, show Nat.beq j i = false by rw [← Bool.not_eq_true, Nat.beq_eq]; exact h]; rfl
theorem look_nil {i : Nat} : look [] i = .any := rfl
theorem find_cons {c b : Nat} {k : Blk} {h : Heap} : Heap.find ((c, k) :: h) b = if c = b then some k else Heap.find h b := rfl
theorem upd_cons {c b : Nat} {k k' : Blk} {h : Heap} : Heap.upd ((c, k') :: h) b k = if c = b then (c, k) :: h else (c, k') :: Heap.upd h b k := rfl
theorem ren_cons {c b b' : Nat} {k k' : Blk} {h : Heap} : Heap.ren ((c, k') :: h) b b' k = if c = b then (b', k) :: h else (c, k') :: Heap.ren h b b' k := rfl
theorem del_cons {c b : Nat} {k' : Blk} {h : Heap} : Heap.del ((c, k') :: h) b = if c = b then h else (c, k') :: Heap.del h b := rfl
theorem fresh_cons {c b : Nat} {k : Blk} {h : Heap} : fresh ((c, k) :: h) b = ((c ≠ b ∧ b ≠ c) ∧ fresh h b) := rfl
theorem fresh_nil {b : Nat} : fresh [] b = True := rfl

theorem thn_normal {Q : Exit → St → Prop} : thn K Q .normal S = K S := rfl
theorem thn_exit {Q : Exit → St → Prop} {i : Nat} : thn K Q (.exit i) S = Q (.exit i) S := rfl
theorem thn_ret {Q : Exit → St → Prop} : thn K Q .ret S = Q .ret S := rfl
theorem inB_normal {Q : Exit → St → Prop} {i : Nat} : inB i Q .normal S = Q .normal S := rfl
theorem inB_ret {Q : Exit → St → Prop} {i : Nat} : inB i Q .ret S = Q .ret S := rfl
theorem inB_exit {Q : Exit → St → Prop} {i j : Nat} : inB i Q (.exit j) S = if j = i then Q .normal S else Q (.exit j) S := by
  show (bif Nat.beq j i then _ else _) = _
  by_cases h : j = i
  · rw [if_pos h, show Nat.beq j i = true by rw [Nat.beq_eq]; exact h]; rfl
  · rw [if_neg h, show Nat.beq j i = false by rw [← Bool.not_eq_true, Nat.beq_eq]; exact h]; rfl
theorem condK_bool {b : Bool} {A B : Prop} : condK (.sc (.bool b)) A B = if b = true then A else B := rfl

/-- Some of what is known is kept. -/
theorem St.le_keep {S S' : St} (hh : S'.h = S.h) (ht : ∀ i, look S'.t i = .any ∨ look S'.t i = look S.t i) : S.le S' := fun M w0 D N a w r =>
  ⟨r.defers, r.n, fun i => by
    rcases ht i with e | e
    · rw [e]; exact .any _
    · rw [e, hh]; exact r.t i, by rw [hh]; exact r.own, r.frm, by rw [hh]; exact r.new⟩

def sub (S : St) (l : List (Nat × SV)) : Prop := match l with
  | [] => True
  | (i, v) :: r => look S.t i = v ∧ sub S r

theorem look_sub {S : St} : ∀ {l : List (Nat × SV)}, sub S l → ∀ i, look l i = .any ∨ look l i = look S.t i
  | [], _, i => .inl rfl
  | (j, v) :: r, h, i => by
    rw [look_if]
    by_cases hj : j = i
    · rw [if_pos hj]; subst hj; exact .inr h.1.symm
    · rw [if_neg hj]; exact look_sub h.2 i

theorem St.le_sub {t l : List (Nat × SV)} {h : Heap} (hs : sub ⟨t, h⟩ l) : (St.mk t h).le ⟨l, h⟩ := St.le_keep rfl (look_sub hs)
theorem sub_cons {S : St} {i : Nat} {v : SV} {l : List (Nat × SV)} : sub S ((i, v) :: l) = (look S.t i = v ∧ sub S l) := rfl
theorem sub_nil {S : St} : sub S [] = True := rfl

theorem idx_ints {e s b : Nat} {A : Option (Nat × Nat)} {k k' : IntKind} {l : List Int} {n : Int} : indexAddrSV (some (e, s, b)) A (ints k l) (.sc (.int k' n)) = .ok (0 ≤ n ∧ n < l.length ∧ 1 = s) (.fp [.sc (.int k (l.getD n.toNat 0))]) := rfl
theorem idx_bools {e s b : Nat} {A : Option (Nat × Nat)} {k' : IntKind} {l : List Bool} {n : Int} : indexAddrSV (some (e, s, b)) A (bools l) (.sc (.int k' n)) = .ok (0 ≤ n ∧ n < l.length ∧ 1 = s) (.fp [.sc (.bool (l.getD n.toNat false))]) := rfl
theorem idx_mat {e s b : Nat} {A : Option (Nat × Nat)} {k k' : IntKind} {l : List (List Int)} {n : Int} : indexAddrSV (some (e, s, b)) A (mat k l) (.sc (.int k' n)) = .ok (0 ≤ n ∧ n < l.length ∧ 1 = s) (.fp [ints k (l.getD n.toNat [])]) := rfl
theorem len_ints {st : Bool} {L : TypeId × Nat × Nat} {A : Option (Nat × Nat)} {k : IntKind} {l : List Int} : lenSV st (some L) A (ints k l) = .ok True (.sc (.int .i64 l.length)) := rfl
theorem len_bools {st : Bool} {L : TypeId × Nat × Nat} {A : Option (Nat × Nat)} {l : List Bool} : lenSV st (some L) A (bools l) = .ok True (.sc (.int .i64 l.length)) := rfl
theorem len_mat {st : Bool} {L : TypeId × Nat × Nat} {A : Option (Nat × Nat)} {k : IntKind} {l : List (List Int)} : lenSV st (some L) A (mat k l) = .ok True (.sc (.int .i64 l.length)) := rfl
theorem cells_ints {k : IntKind} {l : List Int} : svCells (ints k l) = some [ints k l] := rfl
theorem cells_bools {l : List Bool} : svCells (bools l) = some [bools l] := rfl
theorem cells_mat {k : IntKind} {l : List (List Int)} : svCells (mat k l) = some [mat k l] := rfl
theorem single_ints {k : IntKind} {l : List Int} : single (ints k l) = true := rfl
theorem single_bools {l : List Bool} : single (bools l) = true := rfl
theorem single_mat {k : IntKind} {l : List (List Int)} : single (mat k l) = true := rfl
theorem idx_fl {e s b m sz : Nat} {f : Nat → List SV} {A : Option (Nat × Nat)} {k' : IntKind} {n : Int} : indexAddrSV (some (e, s, b)) A (.fl m sz f) (.sc (.int k' n)) = .ok (0 ≤ n ∧ n < m ∧ sz = s) (.fp (f n.toNat)) := rfl
theorem idx_os {e s b c off len sz : Nat} {A : Option (Nat × Nat)} {k' : IntKind} {n : Int} : indexAddrSV (some (e, s, b)) A (.os c off len sz) (.sc (.int k' n)) = .ok (0 ≤ n ∧ n < len ∧ sz = s) (.op c (off + n.toNat * s)) := rfl
theorem idx_op {L : Option (TypeId × Nat × Nat)} {c off len s : Nat} {k' : IntKind} {n : Int} : indexAddrSV L (some (len, s)) (.op c off) (.sc (.int k' n)) = .ok (0 ≤ n ∧ n < len) (.op c (off + n.toNat * s)) := rfl
theorem idx_fp {L : Option (TypeId × Nat × Nat)} {cs : List SV} {len s : Nat} {k' : IntKind} {n : Int} : indexAddrSV L (some (len, s)) (.fp cs) (.sc (.int k' n)) = .ok (0 ≤ n ∧ n < len ∧ cs.length = len * s) (.fp ((cs.drop (n.toNat * s)).take s)) := rfl
theorem len_fl {st : Bool} {L : TypeId × Nat × Nat} {A : Option (Nat × Nat)} {n sz : Nat} {f : Nat → List SV} : lenSV st (some L) A (.fl n sz f) = .ok True (.sc (.int .i64 n)) := rfl
theorem len_os {st : Bool} {L : TypeId × Nat × Nat} {A : Option (Nat × Nat)} {b off n sz : Nat} : lenSV st (some L) A (.os b off n sz) = .ok True (.sc (.int .i64 n)) := rfl
theorem len_nil {st : Bool} {L : TypeId × Nat × Nat} {A : Option (Nat × Nat)} {a : Option Addr} {n c : Nat} : lenSV st (some L) A (.sc (.slice a n c)) = .ok True (.sc (.int .i64 n)) := rfl
theorem len_str {st : Bool} {L : Option (TypeId × Nat × Nat)} {A : Option (Nat × Nat)} {s : ByteArray} : lenSV st L A (.sc (.string s)) = .ok (st = true) (.sc (.int .i64 s.size)) := rfl
theorem len_op {st : Bool} {L : Option (TypeId × Nat × Nat)} {n s b o : Nat} : lenSV st L (some (n, s)) (.op b o) = .ok True (.sc (.int .i64 n)) := rfl
theorem len_agg {st : Bool} {L : Option (TypeId × Nat × Nat)} {n s : Nat} {cs : List SV} : lenSV st L (some (n, s)) (.agg cs) = .ok True (.sc (.int .i64 n)) := rfl
theorem len_fp {st : Bool} {L : Option (TypeId × Nat × Nat)} {n s : Nat} {cs : List SV} : lenSV st L (some (n, s)) (.fp cs) = .ok True (.sc (.int .i64 n)) := rfl
theorem single_int {k : IntKind} {n : Int} : single (.sc (.int k n)) = true := rfl
theorem single_bool {b : Bool} : single (.sc (.bool b)) = true := rfl
theorem single_str {s : ByteArray} : single (.sc (.string s)) = true := rfl
theorem single_slice {a : Option Addr} {n c : Nat} : single (.sc (.slice a n c)) = true := rfl
theorem single_fl {n sz : Nat} {f : Nat → List SV} : single (.fl n sz f) = true := rfl
theorem single_fp {cs : List SV} : single (.fp cs) = true := rfl
theorem single_os {b off n sz : Nat} : single (.os b off n sz) = true := rfl
theorem single_op {b off : Nat} : single (.op b off) = true := rfl
theorem single_fn {f : Fn} {c d : List SV} : single (.fn f c d) = true := rfl
theorem cells_agg {cs : List SV} : svCells (.agg cs) = bif cs.all single then some cs else none := rfl
theorem cells_int {k : IntKind} {n : Int} : svCells (.sc (.int k n)) = some [.sc (.int k n)] := rfl
theorem cells_bool {b : Bool} : svCells (.sc (.bool b)) = some [.sc (.bool b)] := rfl
theorem cells_str {s : ByteArray} : svCells (.sc (.string s)) = some [.sc (.string s)] := rfl
theorem cells_slice {a : Option Addr} {n c : Nat} : svCells (.sc (.slice a n c)) = some [.sc (.slice a n c)] := rfl
theorem cells_fl {n sz : Nat} {f : Nat → List SV} : svCells (.fl n sz f) = some [.fl n sz f] := rfl
theorem cells_fp {cs : List SV} : svCells (.fp cs) = some [.fp cs] := rfl
theorem cells_os {b off n sz : Nat} : svCells (.os b off n sz) = some [.os b off n sz] := rfl
theorem cells_op {b off : Nat} : svCells (.op b off) = some [.op b off] := rfl
theorem cells_fn {f : Fn} {c d : List SV} : svCells (.fn f c d) = some [.fn f c d] := rfl
theorem src_os {b off n sz : Nat} {h : Heap} : srcCells (.os b off n sz) h = match h.find b with | some k => some (n, getN k off (n * sz)) | none => none := rfl
theorem src_nil {h : Heap} : srcCells (.sc (.slice none 0 0)) h = some (0, []) := rfl
theorem src_fl {n sz : Nat} {f : Nat → List SV} {h : Heap} : srcCells (.fl n sz f) h = some (n, flCells f n) := rfl
theorem src_ints {k : IntKind} {l : List Int} {h : Heap} : srcCells (ints k l) h = some (l.length, l.map fun n => .sc (.int k n)) := by
  simp only [srcCells, ints]
  congr 2
  unfold flCells
  have : ∀ l : List Int, (List.range l.length).flatMap (fun i => [SV.sc (.int k (l.getD i 0))]) = l.map fun n => .sc (.int k n) := by
    intro l
    induction l with
    | nil => rfl
    | cons x r ih => rw [List.length_cons, List.range_succ_eq_map, List.flatMap_cons, List.flatMap_map]; simp only [List.getD_cons_zero, List.getD_cons_succ, List.map_cons, ih]; rfl
  exact this l
theorem srcOk_os {s b off n sz : Nat} {h : Heap} : srcOk s (.os b off n sz) h = match h.find b with | some k => sz = s ∧ off + n * sz ≤ k.len | none => False := rfl
theorem srcOk_nil {s : Nat} {h : Heap} : srcOk s (.sc (.slice none 0 0)) h = True := rfl
theorem srcOk_fl {s n sz : Nat} {f : Nat → List SV} {h : Heap} : srcOk s (.fl n sz f) h = (sz = s) := rfl
theorem srcOk_ints {s : Nat} {k : IntKind} {l : List Int} {h : Heap} : srcOk s (ints k l) h = (1 = s) := rfl
theorem appB_svs {l cs : List SV} : appB (.svs l) cs = .svs (l ++ cs) := rfl
theorem appB_ints {k : IntKind} {l : List Int} {n : Int} : appB (.ints k l) [.sc (.int k n)] = .ints k (l ++ [n]) := by simp [appB]
theorem appB_bools {l : List Bool} {b : Bool} : appB (.bools l) [.sc (.bool b)] = .bools (l ++ [b]) := rfl
theorem all_ints {k : IntKind} {l : List Int} : (l.map fun n => SV.sc (.int k n)).all single = true := by simp [single]
theorem allF_congr {h h' : Heap} {F : Nat → Prop} (hh : h = h') : allF h F = allF h' F := by rw [hh]
theorem Call_congr {f : FuncId} {args args' : List SV} {h h' : Heap} {Q : SV → Heap → Prop} (ha : args = args') (hh : h = h') : Call P f args h Q = Call P f args' h' Q := by rw [ha, hh]
theorem ifI {c : Prop} [Decidable c] {A B : Prop} (h1 : c → A) (h2 : ¬ c → B) : if c then A else B := by
  by_cases h : c
  · rw [if_pos h]; exact h1 h
  · rw [if_neg h]; exact h2 h
theorem int_eq {k : IntKind} {a b : Int} (h : a = b) : SV.sc (.int k a) = SV.sc (.int k b) := by rw [h]
theorem bool_eq {a b : Bool} (h : a = b) : SV.sc (.bool a) = SV.sc (.bool b) := by rw [h]

end
attribute [congr] allF_congr Call_congr
attribute [go_sem] Option.isSome_none Option.isSome_some Option.getD_some Option.getD_none List.set_cons_zero List.set_cons_succ List.set_nil Int.ofNat_eq_natCast Bool.not_eq_true' decide_eq_false_iff_not Bool.and_eq_true Bool.or_eq_true Bool.not_eq_eq_eq_not guardB_undef idx_fl idx_os idx_op idx_fp len_fl len_os len_nil len_str len_op len_agg len_fp single_int single_bool single_str single_slice single_fl single_fp single_os single_op single_fn cells_agg cells_int cells_bool cells_str cells_slice cells_fl cells_fp cells_os cells_op cells_fn src_os src_nil src_fl src_ints srcOk_os srcOk_nil srcOk_fl srcOk_ints idx_ints idx_bools idx_mat len_ints len_bools len_mat cells_ints cells_bools cells_mat single_ints single_bools single_mat vcOps_nil vcOps_plain vcOps_guard vcD_nil vcD_plain vcD_guard guardK_some guardB_yes guardB_no gdst_zero gdst_succ stepK_alloc stepK_move stepK_assign stepK_pick stepK_bin stepK_un stepK_load stepK_indexAddr stepK_index stepK_fieldAddr stepK_field stepK_extract stepK_nilCheck stepK_slice stepK_convert stepK_build stepK_makeFunc stepK_len stepK_min stepK_max stepK_call stepK_store stepK_append stepK_cap appZK_nil cap_nil stepK_box stepK_buildSlice stepK_makeSlice stepD_move stepD_assign stepD_pick stepD_bin stepD_un stepD_load stepD_indexAddr stepD_index stepD_fieldAddr stepD_field stepD_extract stepD_nilCheck stepD_slice stepD_convert stepD_build stepD_makeFunc stepD_len stepD_min stepD_max stepD_call stepD_store stepD_append stepD_box stepD_buildSlice stepD_makeSlice resK_ok resK_new resD_ok dstOk_some dstOk_none put_some put_none ev_tmp ev_const ev_func look_if look_nil find_cons upd_cons ren_cons del_cons fresh_cons fresh_nil pickSV binSV binII binSS binBB unSV loadSV  indexSV fieldAddrSV fieldSV tupSV nilSV sliceSV bnd convSV boxSV allocSV  minSV maxSV makeSV zeros getN storeK callK pcallK   Blk.len Blk.get Blk.set setN      newB appB_svs appB_ints appB_bools all_ints List.length_append List.length_map buildSliceSV fillSV setAll zfill buildSV List.map_cons List.map_nil List.nil_append List.cons_append List.append_nil List.getD_cons_zero List.getD_cons_succ List.length_cons List.length_nil List.all_cons List.all_nil Option.map_some Option.map_none Bool.and_true Bool.true_and Bool.and_false Bool.false_and cond_true cond_false decide_eq_true_eq Nat.beq_eq Bool.not_eq_true Bool.not_eq_false Bool.not_true Bool.not_false true_and and_true eq_self ne_eq not_true_eq_false not_false_eq_true Nat.zero_add Nat.add_zero Nat.mul_one Nat.one_mul Int.toNat_natCast Int.natCast_nonneg gt_iff_lt Nat.lt_add_one if_true if_false Bool.false_eq_true List.size_toArray Nat.lt_irrefl Nat.succ_eq_add_one Nat.not_lt_zero Nat.le_refl thn_normal thn_exit thn_ret inB_normal inB_ret inB_exit condK_bool
end Go.Ab
