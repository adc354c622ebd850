/- The abstract layer, part Z3. -/
import Derived.Test.YtpidncgibgiidaaGreatZ2
import Derived.WalkKit
import Derived.ProofKit
import Derived.OpenShut
import Derived.ShutString
import Derived.ChangeOld
import Derived.Below
import GoSem.ClaimJoined
set_option linter.unusedVariables false
set_option linter.unusedSectionVars false
set_option linter.unusedSimpArgs false
/-! Aq: How the steps are computed: one rule for each form of operation. -/
namespace Go.Ab
open Go.RowKit
/-! ### data as values -/
abbrev I64 (n : Int) : SV := .sc (.int .i64 n)
abbrev SB (b : Bool) : SV := .sc (.bool b)
def ints (k : IntKind) (l : List Int) : SV := .fl l.length 1 (fun i => [.sc (.int k (l.getD i 0))])
def bools (l : List Bool) : SV := .fl l.length 1 (fun i => [.sc (.bool (l.getD i false))])
def mat (k : IntKind) (m : List (List Int)) : SV := .fl m.length 1 (fun i => [ints k (m.getD i [])])
section
variable {P : Program} {N : Nat} {K : St → Prop} {S : St} {ops r : List Oper} {o : Oper} {d : Option Tmp} {ty : TypeId} {ps : String} {af : Array Edge} {g : Option (Nat × Bool)}
theorem vcOps_nil [Gl] : vcOps P N ops [] K S = K S := propext ⟨fun h => h, fun h => h⟩
theorem vcOps_plain [Gl] {op : Op} : vcOps P N ops (⟨d, op, ty, ps, af, none⟩ :: r) K S = stepK P N ⟨d, op, ty, ps, af, none⟩ (vcOps P N ops r K) S := propext ⟨fun h => h, fun h => h⟩
theorem vcOps_guard [Gl] {op : Op} {j : Nat} {want : Bool} : vcOps P N ops (⟨d, op, ty, ps, af, some (j, want)⟩ :: r) K S =
    guardK (gdst ops j) want S (stepK P N ⟨d, op, ty, ps, af, some (j, want)⟩ (vcOps P N ops r K)) (fun S => dstOk N d ∧ vcOps P N ops r K (S.put d (.sc undef))) := propext ⟨fun h => h, fun h => h⟩
theorem vcD_nil [Gl] : vcD P N ops [] K S = K S := propext ⟨fun h => h, fun h => h⟩
theorem vcD_plain [Gl] {op : Op} : vcD P N ops (⟨d, op, ty, ps, af, none⟩ :: r) K S = stepD P N ⟨d, op, ty, ps, af, none⟩ (vcD P N ops r K) S := propext ⟨fun h => h, fun h => h⟩
theorem vcD_guard [Gl] {op : Op} {j : Nat} {want : Bool} : vcD P N ops (⟨d, op, ty, ps, af, some (j, want)⟩ :: r) K S =
    guardK (gdst ops j) want S (stepD P N ⟨d, op, ty, ps, af, some (j, want)⟩ (vcD P N ops r K)) (fun S => dstOk N d ∧ vcD P N ops r K (S.put d (.sc undef))) := propext ⟨fun h => h, fun h => h⟩
theorem guardK_some {t : Tmp} {want : Bool} {A B : St → Prop} : guardK (some t) want S A B = guardB (look S.t t) t want S A B := propext ⟨fun h => h, fun h => h⟩
theorem guardB_yes {b : Bool} {t : Tmp} {A B : St → Prop} : guardB (.sc (.bool b)) t true S A B = if b = true then A (S.put (some t) (.sc (.bool true))) else B (S.put (some t) (.sc (.bool false))) := propext ⟨fun h => h, fun h => h⟩
theorem guardB_no {b : Bool} {t : Tmp} {A B : St → Prop} : guardB (.sc (.bool b)) t false S A B = if b = true then B (S.put (some t) (.sc (.bool true))) else A (S.put (some t) (.sc (.bool false))) := propext ⟨fun h => h, fun h => h⟩
theorem guardB_undef {want : Bool} {t : Tmp} {A B : St → Prop} : guardB (.sc undef) t want S A B = B S := propext ⟨fun h => h, fun h => h⟩
theorem gdst_zero {o : Oper} : gdst (o :: r) 0 = o.dst := rfl
theorem gdst_succ {o : Oper} {j : Nat} : gdst (o :: r) (j + 1) = gdst r j := by simp [gdst]
theorem sK [Gl] {op : Op} {R : VRes} (h : valOp P op S.ev S.h = R) : stepK P N ⟨d, op, ty, ps, af, g⟩ K S = (dstOk N d ∧ resK R d (effK P op d K S) K S) := by rw [← h]; rfl
theorem sD [Gl] {op : Op} {R : VRes} (hs : stableOp op = true) (h : valOp P op S.ev S.h = R) : stepD P N ⟨d, op, ty, ps, af, g⟩ K S = (dstOk N d ∧ resD R d (effD P op d K S) K S) := by
  rw [← h]; simp only [stepD, hs, cond_true]
theorem sU [Gl] {op : Op} (hs : stableOp op = false) : stepD P N ⟨d, op, ty, ps, af, g⟩ K S = stepK P N ⟨d, op, ty, ps, af, g⟩ K S := by
  simp only [stepD, hs, cond_false]
theorem stepK_lookup [Gl] {t : TypeId} {x y : Operand} {ok : Bool} : stepK P N ⟨d, .lookup t x y ok, ty, ps, af, g⟩ K S = (dstOk N d ∧ resK (lookSV (mtk P t) ok (S.ev x) (S.ev y) S.h) d False K S) := by rw [sK rfl]; rfl
theorem stepK_makeMap [Gl] {t : TypeId} {r : Option Operand} : stepK P N ⟨d, .makeMap t r, ty, ps, af, g⟩ K S = (dstOk N d ∧ mkmK (isMp P t) (r.map S.ev) d K S) := by rw [sK rfl]; rfl
theorem stepK_mapUpdate [Gl] {t : TypeId} {m k x : Operand} : stepK P N ⟨d, .mapUpdate t m k x, ty, ps, af, g⟩ K S = (dstOk N d ∧ mputK (mtk P t) (S.ev m) (S.ev k) (S.ev x) d K S) := by rw [sK rfl]; rfl
theorem stepK_move [Gl] {x : Operand} : stepK P N ⟨d, .move x, ty, ps, af, g⟩ K S = (dstOk N d ∧ K (S.put d (S.ev x))) := by rw [sK rfl]; simp [valOp, resK]
theorem stepK_assign [Gl] {x : Operand} : stepK P N ⟨d, .assign x, ty, ps, af, g⟩ K S = (dstOk N d ∧ K (S.put d (S.ev x))) := by rw [sK rfl]; simp [valOp, resK]
theorem stepK_pick [Gl] {c x y : Operand} : stepK P N ⟨d, .pick c x y, ty, ps, af, g⟩ K S = (dstOk N d ∧ resK (pickSV (S.ev c) (S.ev x) (S.ev y)) d False K S) := by rw [sK rfl]; rfl
theorem stepK_bin [Gl] {op : BinOp} {t t' : TypeId} {x y : Operand} : stepK P N ⟨d, .binOp op t x y t', ty, ps, af, g⟩ K S = (dstOk N d ∧ resK (binSV P op t (isC x || isC y) (S.ev x) (S.ev y)) d False K S) := by rw [sK rfl]; rfl
theorem stepK_un [Gl] {op : UnOp} {t : TypeId} {x : Operand} : stepK P N ⟨d, .unOp op t x, ty, ps, af, g⟩ K S = (dstOk N d ∧ resK (unSV op (S.ev x)) d False K S) := by rw [sK rfl]; rfl
theorem stepK_load [Gl] {t : TypeId} {x : Operand} : stepK P N ⟨d, .load t x, ty, ps, af, g⟩ K S = (dstOk N d ∧ resK (loadSV (tk P t) (S.ev x) S.h) d False K S) := by rw [sK rfl]; rfl
theorem stepK_indexAddr [Gl] {t : TypeId} {x y : Operand} : stepK P N ⟨d, .indexAddr t x y, ty, ps, af, g⟩ K S = (dstOk N d ∧ resK (indexAddrSV (slk P t) (ark P t) (S.ev x) (S.ev y)) d False K S) := by rw [sK rfl]; rfl
theorem stepK_index [Gl] {t : TypeId} {x y : Operand} : stepK P N ⟨d, .index t x y, ty, ps, af, g⟩ K S = (dstOk N d ∧ resK (indexSV (isStr P t) (arn P t) (S.ev x) (S.ev y)) d False K S) := by rw [sK rfl]; rfl
theorem stepK_fieldAddr [Gl] {t : TypeId} {x : Operand} {f : Nat} : stepK P N ⟨d, .fieldAddr t x f, ty, ps, af, g⟩ K S = (dstOk N d ∧ resK (fieldAddrSV (fdk P t f) (S.ev x)) d False K S) := by rw [sK rfl]; rfl
theorem stepK_field [Gl] {t : TypeId} {x : Operand} {f : Nat} : stepK P N ⟨d, .field t x f, ty, ps, af, g⟩ K S = (dstOk N d ∧ resK (fieldSV (fdk P t f) (S.ev x)) d False K S) := by rw [sK rfl]; rfl
theorem stepK_extract [Gl] {x : Operand} {i : Nat} : stepK P N ⟨d, .extract x i, ty, ps, af, g⟩ K S = (dstOk N d ∧ resK (tupSV (S.ev x) i) d False K S) := by rw [sK rfl]; rfl
theorem stepK_nilCheck [Gl] {x : Operand} : stepK P N ⟨d, .nilCheck x, ty, ps, af, g⟩ K S = (dstOk N d ∧ resK (nilSV (S.ev x)) d False K S) := by rw [sK rfl]; rfl
theorem stepK_slice [Gl] {t : TypeId} {x : Operand} {lo hi mx : Option Operand} : stepK P N ⟨d, .slice t x lo hi mx, ty, ps, af, g⟩ K S = (dstOk N d ∧ resK (sliceX (ark P t) (isStr P t) (slk P t) (S.ev x) (lo.map S.ev) (hi.map S.ev) (mx.map S.ev) S.h) d False K S) := by rw [sK rfl]; rfl
theorem stepK_convert [Gl] {s t : TypeId} {x : Operand} : stepK P N ⟨d, .convert s t x, ty, ps, af, g⟩ K S = (dstOk N d ∧ resK (bif (P.underlying s).isSome then convX (bsl P s) (ik P t) (isStr P t) (S.ev x) S.h else .bad) d (strK P s t (S.ev x) d K S) K S) := by rw [sK rfl]; rfl
theorem stepK_box [Gl] {t : TypeId} {x : Operand} : stepK P N ⟨d, .box t x, ty, ps, af, g⟩ K S = (dstOk N d ∧ resK (boxSV (S.ev x)) d False K S) := by rw [sK rfl]; rfl
theorem stepK_alloc [Gl] {t : TypeId} : stepK P N ⟨d, .alloc t, ty, ps, af, g⟩ K S = (dstOk N d ∧ resK (allocSV t (bldk P t) (zk P t)) d False K S) := by rw [sK rfl]; rfl
theorem stepK_build [Gl] {t : TypeId} {xs : Array (Nat × Operand)} : stepK P N ⟨d, .build t xs, ty, ps, af, g⟩ K S = (dstOk N d ∧ resK (buildSV (flk P t) (ark P t) (zk P t) (xs.toList.map fun p => (p.1, S.ev p.2))) d False K S) := by rw [sK rfl]; rfl
theorem stepK_buildSlice [Gl] {t : TypeId} {n : Nat} {xs : Array (Nat × Operand)} : stepK P N ⟨d, .buildSlice t n xs, ty, ps, af, g⟩ K S = (dstOk N d ∧ resK (buildSliceSV (slk P t) (elemZ P t) n (xs.toList.map fun p => (p.1, S.ev p.2))) d False K S) := by rw [sK rfl]; rfl
theorem stepK_makeFunc [Gl] {f : Fn} {xs ys : Array Operand} : stepK P N ⟨d, .makeFunc f xs ys, ty, ps, af, g⟩ K S = (dstOk N d ∧ K (S.put d (.fn f (xs.toList.map S.ev) (ys.toList.map S.ev)))) := by rw [sK rfl]; simp [valOp, resK]
theorem stepK_len [Gl] {t : TypeId} {x : Operand} : stepK P N ⟨d, .call ⟨.builtin .len, ⟨[x]⟩, ⟨[t]⟩⟩, ty, ps, af, g⟩ K S = (dstOk N d ∧ resK (lenSV (isStr P t) (slk P t) (ark P t) (S.ev x)) d False K S) := by rw [sK rfl]; rfl
theorem stepK_min [Gl] {ts : Array TypeId} {x y : Operand} : stepK P N ⟨d, .call ⟨.builtin .min, ⟨[x, y]⟩, ts⟩, ty, ps, af, g⟩ K S = (dstOk N d ∧ resK (minSV (S.ev x) (S.ev y)) d False K S) := by rw [sK rfl]; rfl
theorem stepK_store [Gl] {t : TypeId} {x y : Operand} : stepK P N ⟨d, .store t x y, ty, ps, af, g⟩ K S = (dstOk N d ∧ storeK (tk P t) (S.ev x) (svCells (S.ev y)) d K S) := by rw [sK rfl]; rfl
theorem stepK_call [Gl] {f : Operand} {xs : Array Operand} {ts : Array TypeId} : stepK P N ⟨d, .call ⟨.value f, xs, ts⟩, ty, ps, af, g⟩ K S = (dstOk N d ∧ callK P (S.ev f) (xs.toList.map S.ev) d K S) := by rw [sK rfl]; rfl
theorem appX_false {L : Option (TypeId × Nat × Nat)} {Z : Option (List Value)} {s x : SV} {d : Option Tmp} {K : St → Prop} {S : St} (h : sameB s x = false) : appX L Z s x d K S = appK L Z true s x d K S := by unfold appX; rw [h]; exact propext ⟨fun h => h, fun h => h⟩
theorem appX_fl {L : Option (TypeId × Nat × Nat)} {Z : Option (List Value)} {s : SV} {n sz : Nat} {f : Nat → List SV} {d : Option Tmp} {K : St → Prop} {S : St} : appX L Z s (.fl n sz f) d K S = appK L Z true s (.fl n sz f) d K S := appX_false (by cases s <;> rfl)
theorem appX_sc {L : Option (TypeId × Nat × Nat)} {Z : Option (List Value)} {s : SV} {v : Value} {d : Option Tmp} {K : St → Prop} {S : St} : appX L Z s (.sc v) d K S = appK L Z true s (.sc v) d K S := appX_false (by cases s <;> rfl)
theorem appX_os0 {L : Option (TypeId × Nat × Nat)} {Z : Option (List Value)} {s : SV} {c n sz : Nat} {d : Option Tmp} {K : St → Prop} {S : St} : appX L Z s (.os c 0 n sz) d K S = appK L Z true s (.os c 0 n sz) d K S := appX_false (by cases s <;> simp [sameB])
theorem stepK_append [Gl] {s x : Operand} {st xt : TypeId} : stepK P N ⟨d, .call ⟨.builtin .append, ⟨[s, x]⟩, ⟨[st, xt]⟩⟩, ty, ps, af, g⟩ K S = (dstOk N d ∧ bif notInt P xt then appX (slk P st) (elemZ P st) (S.ev s) (S.ev x) d K S else bif (ik P xt).isSome then appZK (slk P st) (elemZ P st) (S.ev s) (S.ev x) d K S else False) := by rw [sK rfl]; rfl
theorem stepK_cap [Gl] {t : TypeId} {x : Operand} : stepK P N ⟨d, .call ⟨.builtin .cap, ⟨[x]⟩, ⟨[t]⟩⟩, ty, ps, af, g⟩ K S = (dstOk N d ∧ resK (capSV (slk P t) (S.ev x)) d False K S) := by rw [sK rfl]; rfl
theorem appZK_nil {e size bytes : Nat} {z : List Value} {n : Int} : appZK (some (e, size, bytes)) (some z) (.sc (.slice none 0 0)) (.sc (.int .i64 n)) d K S = (z.length = size ∧ 0 < size ∧ 0 < n ∧ n * bytes ≤ 140737488355328 ∧ n ≤ 140737488355328 ∧
      allF S.h fun b => K ((⟨S.t, (b, zeros z n.toNat) :: S.h⟩ : St).put d (.os b 0 n.toNat size))) := rfl
theorem cap_nil {L : TypeId × Nat × Nat} {n c : Nat} : capSV (some L) (.sc (.slice none n c)) = .ok True (.sc (.int .i64 c)) := rfl
theorem stepD_move [Gl] {x : Operand} : stepD P N ⟨d, .move x, ty, ps, af, g⟩ K S = (dstOk N d ∧ K (S.put d (S.ev x))) := by rw [sD rfl rfl]; simp [valOp, resD]
theorem stepD_assign [Gl] {x : Operand} : stepD P N ⟨d, .assign x, ty, ps, af, g⟩ K S = (dstOk N d ∧ K (S.put d (S.ev x))) := by rw [sD rfl rfl]; simp [valOp, resD]
theorem stepD_pick [Gl] {c x y : Operand} : stepD P N ⟨d, .pick c x y, ty, ps, af, g⟩ K S = (dstOk N d ∧ resD (pickSV (S.ev c) (S.ev x) (S.ev y)) d False K S) := by rw [sD rfl rfl]; rfl
theorem stepD_bin [Gl] {op : BinOp} {t t' : TypeId} {x y : Operand} : stepD P N ⟨d, .binOp op t x y t', ty, ps, af, g⟩ K S = (dstOk N d ∧ resD (binSV P op t (isC x || isC y) (S.ev x) (S.ev y)) d False K S) := by rw [sD rfl rfl]; rfl
theorem stepD_un [Gl] {op : UnOp} {t : TypeId} {x : Operand} : stepD P N ⟨d, .unOp op t x, ty, ps, af, g⟩ K S = (dstOk N d ∧ resD (unSV op (S.ev x)) d False K S) := by rw [sD rfl rfl]; rfl
theorem stepD_load [Gl] {t : TypeId} {x : Operand} : stepD P N ⟨d, .load t x, ty, ps, af, g⟩ K S = (dstOk N d ∧ resD (loadSV (tk P t) (S.ev x) S.h) d False K S) := by rw [sD rfl rfl]; rfl
theorem stepD_indexAddr [Gl] {t : TypeId} {x y : Operand} : stepD P N ⟨d, .indexAddr t x y, ty, ps, af, g⟩ K S = (dstOk N d ∧ resD (indexAddrSV (slk P t) (ark P t) (S.ev x) (S.ev y)) d False K S) := by rw [sD rfl rfl]; rfl
theorem stepD_index [Gl] {t : TypeId} {x y : Operand} : stepD P N ⟨d, .index t x y, ty, ps, af, g⟩ K S = (dstOk N d ∧ resD (indexSV (isStr P t) (arn P t) (S.ev x) (S.ev y)) d False K S) := by rw [sD rfl rfl]; rfl
theorem stepD_fieldAddr [Gl] {t : TypeId} {x : Operand} {f : Nat} : stepD P N ⟨d, .fieldAddr t x f, ty, ps, af, g⟩ K S = (dstOk N d ∧ resD (fieldAddrSV (fdk P t f) (S.ev x)) d False K S) := by rw [sD rfl rfl]; rfl
theorem stepD_extract [Gl] {x : Operand} {i : Nat} : stepD P N ⟨d, .extract x i, ty, ps, af, g⟩ K S = (dstOk N d ∧ resD (tupSV (S.ev x) i) d False K S) := by rw [sD rfl rfl]; rfl
theorem stepD_nilCheck [Gl] {x : Operand} : stepD P N ⟨d, .nilCheck x, ty, ps, af, g⟩ K S = (dstOk N d ∧ resD (nilSV (S.ev x)) d False K S) := by rw [sD rfl rfl]; rfl
theorem stepD_slice [Gl] {t : TypeId} {x : Operand} {lo hi mx : Option Operand} : stepD P N ⟨d, .slice t x lo hi mx, ty, ps, af, g⟩ K S = (dstOk N d ∧ resD (sliceX (ark P t) (isStr P t) (slk P t) (S.ev x) (lo.map S.ev) (hi.map S.ev) (mx.map S.ev) S.h) d False K S) := by rw [sD rfl rfl]; rfl
theorem stepD_convert [Gl] {s t : TypeId} {x : Operand} : stepD P N ⟨d, .convert s t x, ty, ps, af, g⟩ K S = (dstOk N d ∧ resD (bif (P.underlying s).isSome then convX (bsl P s) (ik P t) (isStr P t) (S.ev x) S.h else .bad) d False K S) := by rw [sD rfl rfl]; rfl
theorem stepD_build [Gl] {t : TypeId} {xs : Array (Nat × Operand)} : stepD P N ⟨d, .build t xs, ty, ps, af, g⟩ K S = (dstOk N d ∧ resD (buildSV (flk P t) (ark P t) (zk P t) (xs.toList.map fun p => (p.1, S.ev p.2))) d False K S) := by rw [sD rfl rfl]; rfl
theorem stepD_len [Gl] {t : TypeId} {x : Operand} : stepD P N ⟨d, .call ⟨.builtin .len, ⟨[x]⟩, ⟨[t]⟩⟩, ty, ps, af, g⟩ K S = (dstOk N d ∧ resD (lenSV (isStr P t) (slk P t) (ark P t) (S.ev x)) d False K S) := by rw [sD rfl rfl]; rfl
theorem stepD_call [Gl] {f : Operand} {xs : Array Operand} {ts : Array TypeId} : stepD P N ⟨d, .call ⟨.value f, xs, ts⟩, ty, ps, af, g⟩ K S = (dstOk N d ∧ pcallK P (S.ev f) (xs.toList.map S.ev) d K S) := by rw [sD rfl rfl]; rfl
theorem stepD_store [Gl] {t : TypeId} {x y : Operand} : stepD P N ⟨d, .store t x y, ty, ps, af, g⟩ K S = (dstOk N d ∧ storeK (tk P t) (S.ev x) (svCells (S.ev y)) d K S) := by rw [sU rfl, stepK_store]
theorem stepD_append [Gl] {s x : Operand} {st xt : TypeId} : stepD P N ⟨d, .call ⟨.builtin .append, ⟨[s, x]⟩, ⟨[st, xt]⟩⟩, ty, ps, af, g⟩ K S = (dstOk N d ∧ bif notInt P xt then appX (slk P st) (elemZ P st) (S.ev s) (S.ev x) d K S else bif (ik P xt).isSome then appZK (slk P st) (elemZ P st) (S.ev s) (S.ev x) d K S else False) := by rw [sU rfl, stepK_append]
theorem stepD_buildSlice [Gl] {t : TypeId} {n : Nat} {xs : Array (Nat × Operand)} : stepD P N ⟨d, .buildSlice t n xs, ty, ps, af, g⟩ K S = (dstOk N d ∧ resK (buildSliceSV (slk P t) (elemZ P t) n (xs.toList.map fun p => (p.1, S.ev p.2))) d False K S) := by rw [sU rfl, stepK_buildSlice]
theorem isC_t {i : Tmp} : isC (.tmp i) = false := rfl
theorem isC_c {v : Value} : isC (.const v) = true := rfl
theorem isC_f {f : FuncId} : isC (.func f) = false := rfl
theorem isC_g {g : Nat} : isC (.global g) = false := rfl
theorem binSV_int {op : BinOp} {ty : TypeId} {c : Bool} {k k' : IntKind} {a b : Int} : binSV P op ty c (.sc (.int k a)) (.sc (.int k' b)) = binII op k a k' b := rfl
theorem binSV_str {op : BinOp} {ty : TypeId} {c : Bool} {a b : ByteArray} : binSV P op ty c (.sc (.string a)) (.sc (.string b)) = binSS op a b := rfl
theorem binSV_bool {op : BinOp} {ty : TypeId} {c : Bool} {a b : Bool} : binSV P op ty c (.sc (.bool a)) (.sc (.bool b)) = binBB (isBool P ty) op a b := rfl
theorem binSV_agg {op : BinOp} {ty : TypeId} {c : Bool} {xs ys : List SV} : binSV P op ty c (.agg xs) (.agg ys) = binAA (eqk P ty) op xs ys := rfl
theorem binSV_nn {op : BinOp} {ty : TypeId} {c : Bool} : binSV P op ty c (.sc .nilIface) (.sc .nilIface) = binNil (isIf P ty) op c true := rfl
theorem binSV_ni {op : BinOp} {ty : TypeId} {c : Bool} {a : TypeId} {v : Value} : binSV P op ty c (.sc .nilIface) (.sc (.iface a v)) = binNil (isIf P ty) op true false := rfl
theorem binSV_in {op : BinOp} {ty : TypeId} {c : Bool} {a : TypeId} {v : Value} : binSV P op ty c (.sc (.iface a v)) (.sc .nilIface) = binNil (isIf P ty) op true false := rfl
theorem binAA_eql {ks : List CK} {xs ys : List SV} : binAA (some ks) .eql xs ys = (match eqC ks xs ys with | some (p, r) => .ok p (.sc (.bool r)) | none => .bad) := rfl
theorem binAA_neq {ks : List CK} {xs ys : List SV} : binAA (some ks) .neq xs ys = (match eqC ks xs ys with | some (p, r) => .ok p (.sc (.bool (!r))) | none => .bad) := rfl
theorem eqC_nil : eqC [] [] [] = some (True, true) := rfl
theorem eqC_cons {k : CK} {ks : List CK} {x y : SV} {xs ys : List SV} : eqC (k :: ks) (x :: xs) (y :: ys) = and2 (eq1 k x y) (eqC ks xs ys) := rfl
theorem eq1_i {k k' : IntKind} {a b : Int} : eq1 .i (.sc (.int k a)) (.sc (.int k' b)) = some (k = k', decide (a = b)) := rfl
theorem eq1_b {a b : Bool} : eq1 .b (.sc (.bool a)) (.sc (.bool b)) = some (True, a == b) := rfl
theorem eq1_s {a b : ByteArray} : eq1 .s (.sc (.string a)) (.sc (.string b)) = some (True, a.toList == b.toList) := rfl
theorem and2_ok {p q : Prop} {r s : Bool} : and2 (some (p, r)) (some (q, s)) = some (p ∧ q, r && s) := rfl
theorem binNil_eql {i c r : Bool} : binNil i .eql c r = .ok (i = true ∧ c = true) (.sc (.bool r)) := rfl
theorem binNil_neq {i c r : Bool} : binNil i .neq c r = .ok (i = true ∧ c = true) (.sc (.bool (!r))) := rfl
theorem resK_ok {pre : Prop} {v : SV} {E : Prop} : resK (.ok pre v) d E K S = (pre ∧ K (S.put d v)) := propext ⟨fun h => h, fun h => h⟩
theorem resK_new {pre : Prop} {k : Blk} {mk : Nat → SV} {E : Prop} : resK (.new pre k mk) d E K S = (pre ∧ allF S.h fun b => K ((⟨S.t, (b, k) :: S.h⟩ : St).put d (mk b))) := propext ⟨fun h => h, fun h => h⟩
theorem resD_ok {pre : Prop} {v : SV} {E : Prop} : resD (.ok pre v) d E K S = (pre ∧ K (S.put d v)) := propext ⟨fun h => h, fun h => h⟩
theorem dstOk_some {i : Tmp} : dstOk N (some i) = (i < N) := rfl
theorem dstOk_none : dstOk N none = True := rfl
theorem put_some {t : List (Nat × SV)} {h : Heap} {i : Tmp} {v : SV} : (St.mk t h).put (some i) v = ⟨(i, v) :: t, h⟩ := rfl
theorem put_none {v : SV} : S.put none v = S := rfl
theorem ev_tmp [Gl] {t : List (Nat × SV)} {h : Heap} {i : Tmp} : (St.mk t h).ev (.tmp i) = look t i := rfl
theorem ev_const [Gl] {v : Value} : S.ev (.const v) = .sc v := rfl
theorem ev_func [Gl] {f : FuncId} : S.ev (.func f) = .fn (.func f) [] [] := rfl
theorem look_if {j i : Nat} {v : SV} {t : List (Nat × SV)} : look ((j, v) :: t) i = if j = i then v else look t i := by
  rw [look_cons]
  by_cases h : j = i
  · rw [if_pos h, show Nat.beq j i = true by rw [Nat.beq_eq]; exact h]; rfl
  · rw [if_neg h, show Nat.beq j i = false by rw [← Bool.not_eq_true, Nat.beq_eq]; exact h]; rfl
theorem look_nil {i : Nat} : look [] i = .any := rfl
theorem find_cons {c b : Nat} {k : Blk} {h : Heap} : Heap.find ((c, k) :: h) b = if c = b then some k else Heap.find h b := rfl
theorem upd_cons {c b : Nat} {k k' : Blk} {h : Heap} : Heap.upd ((c, k') :: h) b k = if c = b then (c, k) :: h else (c, k') :: Heap.upd h b k := rfl
theorem ren_cons {c b b' : Nat} {k k' : Blk} {h : Heap} : Heap.ren ((c, k') :: h) b b' k = if c = b then (b', k) :: h else (c, k') :: Heap.ren h b b' k := rfl
theorem del_cons {c b : Nat} {k' : Blk} {h : Heap} : Heap.del ((c, k') :: h) b = if c = b then h else (c, k') :: Heap.del h b := rfl
theorem fresh_cons {c b : Nat} {k : Blk} {h : Heap} : fresh ((c, k) :: h) b = ((c ≠ b ∧ b ≠ c) ∧ fresh h b) := rfl
theorem fresh_nil {b : Nat} : fresh [] b = True := rfl
theorem thn_normal {Q : Exit → St → Prop} : thn K Q .normal S = K S := propext ⟨fun h => h, fun h => h⟩
theorem thn_exit {Q : Exit → St → Prop} {i : Nat} : thn K Q (.exit i) S = Q (.exit i) S := propext ⟨fun h => h, fun h => h⟩
theorem thn_ret {Q : Exit → St → Prop} : thn K Q .ret S = Q .ret S := propext ⟨fun h => h, fun h => h⟩
theorem inB_normal {Q : Exit → St → Prop} {i : Nat} : inB i Q .normal S = Q .normal S := propext ⟨fun h => h, fun h => h⟩
theorem inB_ret {Q : Exit → St → Prop} {i : Nat} : inB i Q .ret S = Q .ret S := propext ⟨fun h => h, fun h => h⟩
theorem inB_exit {Q : Exit → St → Prop} {i j : Nat} : inB i Q (.exit j) S = if j = i then Q .normal S else Q (.exit j) S := by
  show (bif Nat.beq j i then _ else _) = _
  by_cases h : j = i
  · rw [if_pos h, show Nat.beq j i = true by rw [Nat.beq_eq]; exact h]; rfl
  · rw [if_neg h, show Nat.beq j i = false by rw [← Bool.not_eq_true, Nat.beq_eq]; exact h]; rfl
theorem condK_bool {b : Bool} {A B : Prop} : condK (.sc (.bool b)) A B = if b = true then A else B := propext ⟨fun h => h, fun h => h⟩
theorem St.le_keep [Gl] {S S' : St} (hh : S'.h = S.h) (ht : ∀ i, look S'.t i = .any ∨ look S'.t i = look S.t i) : S.le S' := fun M w0 D N a w r =>
  ⟨r.defers, r.n, fun i => by
    rcases ht i with e | e
    · rw [e]; exact .any _
    · rw [e, hh]; exact r.t i, by rw [hh]; exact r.own, r.frm, by rw [hh]; exact r.new⟩
def sub (S : St) (l : List (Nat × SV)) : Prop := match l with
  | [] => True
  | (i, v) :: r => look S.t i = v ∧ sub S r
theorem look_sub [Gl] {S : St} : ∀ {l : List (Nat × SV)}, sub S l → ∀ i, look l i = .any ∨ look l i = look S.t i
  | [], _, i => .inl rfl
  | (j, v) :: r, h, i => by
    rw [look_if]
    by_cases hj : j = i
    · rw [if_pos hj]; subst hj; exact .inr h.1.symm
    · rw [if_neg hj]; exact look_sub h.2 i
theorem St.le_sub [Gl] {t l : List (Nat × SV)} {h : Heap} (hs : sub ⟨t, h⟩ l) : (St.mk t h).le ⟨l, h⟩ := St.le_keep rfl (look_sub hs)
theorem idx_ints {e s b : Nat} {A : Option (Nat × Nat)} {k k' : IntKind} {l : List Int} {n : Int} : indexAddrSV (some (e, s, b)) A (ints k l) (.sc (.int k' n)) = .ok (0 ≤ n ∧ n < l.length ∧ 1 = s) (.fp [.sc (.int k (l.getD n.toNat 0))]) := rfl
theorem idx_bools {e s b : Nat} {A : Option (Nat × Nat)} {k' : IntKind} {l : List Bool} {n : Int} : indexAddrSV (some (e, s, b)) A (bools l) (.sc (.int k' n)) = .ok (0 ≤ n ∧ n < l.length ∧ 1 = s) (.fp [.sc (.bool (l.getD n.toNat false))]) := rfl
theorem idx_mat {e s b : Nat} {A : Option (Nat × Nat)} {k k' : IntKind} {l : List (List Int)} {n : Int} : indexAddrSV (some (e, s, b)) A (mat k l) (.sc (.int k' n)) = .ok (0 ≤ n ∧ n < l.length ∧ 1 = s) (.fp [ints k (l.getD n.toNat [])]) := rfl
theorem len_ints {st : Bool} {L : TypeId × Nat × Nat} {A : Option (Nat × Nat)} {k : IntKind} {l : List Int} : lenSV st (some L) A (ints k l) = .ok True (.sc (.int .i64 l.length)) := rfl
theorem len_bools {st : Bool} {L : TypeId × Nat × Nat} {A : Option (Nat × Nat)} {l : List Bool} : lenSV st (some L) A (bools l) = .ok True (.sc (.int .i64 l.length)) := rfl
theorem len_mat {st : Bool} {L : TypeId × Nat × Nat} {A : Option (Nat × Nat)} {k : IntKind} {l : List (List Int)} : lenSV st (some L) A (mat k l) = .ok True (.sc (.int .i64 l.length)) := rfl
theorem cells_ints {k : IntKind} {l : List Int} : svCells (ints k l) = some [ints k l] := rfl
theorem cells_bools {l : List Bool} : svCells (bools l) = some [bools l] := rfl
theorem cells_mat {k : IntKind} {l : List (List Int)} : svCells (mat k l) = some [mat k l] := rfl
theorem single_ints {k : IntKind} {l : List Int} : single (ints k l) = true := rfl
theorem single_bools {l : List Bool} : single (bools l) = true := rfl
theorem single_mat {k : IntKind} {l : List (List Int)} : single (mat k l) = true := rfl
theorem idx_fl {e s b m sz : Nat} {f : Nat → List SV} {A : Option (Nat × Nat)} {k' : IntKind} {n : Int} : indexAddrSV (some (e, s, b)) A (.fl m sz f) (.sc (.int k' n)) = .ok (0 ≤ n ∧ n < m ∧ sz = s) (.fp (f n.toNat)) := rfl
theorem idx_os {e s b c off len sz : Nat} {A : Option (Nat × Nat)} {k' : IntKind} {n : Int} : indexAddrSV (some (e, s, b)) A (.os c off len sz) (.sc (.int k' n)) = .ok (0 ≤ n ∧ n < len ∧ sz = s) (.op c (off + n.toNat * s)) := rfl
theorem idx_op {L : Option (TypeId × Nat × Nat)} {c off len s : Nat} {k' : IntKind} {n : Int} : indexAddrSV L (some (len, s)) (.op c off) (.sc (.int k' n)) = .ok (0 ≤ n ∧ n < len) (.op c (off + n.toNat * s)) := rfl
theorem idx_fp {L : Option (TypeId × Nat × Nat)} {cs : List SV} {len s : Nat} {k' : IntKind} {n : Int} : indexAddrSV L (some (len, s)) (.fp cs) (.sc (.int k' n)) = .ok (0 ≤ n ∧ n < len ∧ cs.length = len * s) (.fp ((cs.drop (n.toNat * s)).take s)) := rfl
theorem len_fl {st : Bool} {L : TypeId × Nat × Nat} {A : Option (Nat × Nat)} {n sz : Nat} {f : Nat → List SV} : lenSV st (some L) A (.fl n sz f) = .ok True (.sc (.int .i64 n)) := rfl
theorem len_os {st : Bool} {L : TypeId × Nat × Nat} {A : Option (Nat × Nat)} {b off n sz : Nat} : lenSV st (some L) A (.os b off n sz) = .ok True (.sc (.int .i64 n)) := rfl
theorem len_nil {st : Bool} {L : TypeId × Nat × Nat} {A : Option (Nat × Nat)} {a : Option Addr} {n c : Nat} : lenSV st (some L) A (.sc (.slice a n c)) = .ok True (.sc (.int .i64 n)) := rfl
theorem len_str {st : Bool} {L : Option (TypeId × Nat × Nat)} {A : Option (Nat × Nat)} {s : ByteArray} : lenSV st L A (.sc (.string s)) = .ok (st = true) (.sc (.int .i64 s.size)) := rfl
theorem len_op {st : Bool} {L : Option (TypeId × Nat × Nat)} {n s b o : Nat} : lenSV st L (some (n, s)) (.op b o) = .ok True (.sc (.int .i64 n)) := rfl
theorem len_agg {st : Bool} {L : Option (TypeId × Nat × Nat)} {n s : Nat} {cs : List SV} : lenSV st L (some (n, s)) (.agg cs) = .ok True (.sc (.int .i64 n)) := rfl
theorem len_fp {st : Bool} {L : Option (TypeId × Nat × Nat)} {n s : Nat} {cs : List SV} : lenSV st L (some (n, s)) (.fp cs) = .ok True (.sc (.int .i64 n)) := rfl
theorem single_int {k : IntKind} {n : Int} : single (.sc (.int k n)) = true := rfl
theorem single_bool {b : Bool} : single (.sc (.bool b)) = true := rfl
theorem single_str {s : ByteArray} : single (.sc (.string s)) = true := rfl
theorem single_slice {a : Option Addr} {n c : Nat} : single (.sc (.slice a n c)) = true := rfl
theorem single_fl {n sz : Nat} {f : Nat → List SV} : single (.fl n sz f) = true := rfl
theorem single_fp {cs : List SV} : single (.fp cs) = true := rfl
theorem single_os {b off n sz : Nat} : single (.os b off n sz) = true := rfl
theorem single_op {b off : Nat} : single (.op b off) = true := rfl
theorem single_fn {f : Fn} {c d : List SV} : single (.fn f c d) = true := rfl
theorem cells_agg {cs : List SV} : svCells (.agg cs) = bif cs.all single then some cs else none := rfl
theorem cells_int {k : IntKind} {n : Int} : svCells (.sc (.int k n)) = some [.sc (.int k n)] := rfl
theorem cells_bool {b : Bool} : svCells (.sc (.bool b)) = some [.sc (.bool b)] := rfl
theorem cells_str {s : ByteArray} : svCells (.sc (.string s)) = some [.sc (.string s)] := rfl
theorem cells_slice {a : Option Addr} {n c : Nat} : svCells (.sc (.slice a n c)) = some [.sc (.slice a n c)] := rfl
theorem cells_fl {n sz : Nat} {f : Nat → List SV} : svCells (.fl n sz f) = some [.fl n sz f] := rfl
theorem cells_fp {cs : List SV} : svCells (.fp cs) = some [.fp cs] := rfl
theorem cells_os {b off n sz : Nat} : svCells (.os b off n sz) = some [.os b off n sz] := rfl
theorem cells_op {b off : Nat} : svCells (.op b off) = some [.op b off] := rfl
theorem cells_fn {f : Fn} {c d : List SV} : svCells (.fn f c d) = some [.fn f c d] := rfl
theorem src_os {b off n sz : Nat} {h : Heap} : srcCells (.os b off n sz) h = match h.find b with | some k => some (n, getN k off (n * sz)) | none => none := rfl
theorem src_nil {h : Heap} : srcCells (.sc (.slice none 0 0)) h = some (0, []) := rfl
theorem src_fl {n sz : Nat} {f : Nat → List SV} {h : Heap} : srcCells (.fl n sz f) h = some (n, flCells f n) := rfl
theorem srcOk_os {s b off n sz : Nat} {h : Heap} : srcOk s (.os b off n sz) h = match h.find b with | some k => sz = s ∧ off + n * sz ≤ k.len | none => False := rfl
theorem srcOk_nil {s : Nat} {h : Heap} : srcOk s (.sc (.slice none 0 0)) h = True := rfl
theorem srcOk_fl {s n sz : Nat} {f : Nat → List SV} {h : Heap} : srcOk s (.fl n sz f) h = (sz = s) := rfl
theorem srcOk_ints {s : Nat} {k : IntKind} {l : List Int} {h : Heap} : srcOk s (ints k l) h = (1 = s) := rfl
theorem appB_svs {l cs : List SV} : appB (.svs l) cs = .svs (l ++ cs) := rfl
theorem appB_ints {k : IntKind} {l : List Int} {n : Int} : appB (.ints k l) [.sc (.int k n)] = .ints k (l ++ [n]) := by simp [appB]
theorem appB_bools {l : List Bool} {b : Bool} : appB (.bools l) [.sc (.bool b)] = .bools (l ++ [b]) := rfl
theorem allF_congr {h h' : Heap} {F : Nat → Prop} (hh : h = h') : allF h F = allF h' F := by rw [hh]
theorem Call_congr [Gl] {f : FuncId} {args args' : List SV} {h h' : Heap} {Q : SV → Heap → Prop} (ha : args = args') (hh : h = h') : Call P f args h Q = Call P f args' h' Q := by rw [ha, hh]
theorem ifI {c : Prop} [Decidable c] {A B : Prop} (h1 : c → A) (h2 : ¬ c → B) : if c then A else B := by
  by_cases h : c
  · rw [if_pos h]; exact h1 h
  · rw [if_neg h]; exact h2 h
theorem int_eq {k : IntKind} {a b : Int} (h : a = b) : SV.sc (.int k a) = SV.sc (.int k b) := by rw [h]
end
attribute [congr] allF_congr Call_congr
theorem sliceX_none {st : Bool} {L : Option (TypeId × Nat × Nat)} {x : SV} {lo hi mx : Option SV} {h : Heap} : sliceX none st L x lo hi mx h = sliceSV st L x lo hi mx := rfl
theorem sliceX_some {n s : Nat} {st : Bool} {L : Option (TypeId × Nat × Nat)} {x : SV} {lo hi mx : Option SV} {h : Heap} : sliceX (some (n, s)) st L x lo hi mx h = arrSl n s x lo hi mx h := rfl
def arrOp (n s b off : Nat) (k : Option Blk) (l r : Option Int) : VRes := match l, r with
  | some l, some r => match k with
    | some k => .ok (0 ≤ l ∧ l ≤ r ∧ r ≤ n ∧ (l = 0 ∨ l < r) ∧ off + n * s ≤ k.len ∧ k.isM = false) (.os b (off + l.toNat * s) (r - l).toNat s)
    | none => .bad
  | _, _ => .bad
def arrFp (n s : Nat) (cs : List SV) (l r : Option Int) : VRes := match l, r with
  | some l, some r => .ok (0 ≤ l ∧ l ≤ r ∧ r ≤ n ∧ n * s = cs.length) (.fl (r - l).toNat s (fun i => (cs.drop ((l.toNat + i) * s)).take s))
  | _, _ => .bad
def cvtO (k : Option Blk) (off n : Nat) : VRes := match k with
  | some k => cvtK k off n
  | none => .bad
theorem convX_os {bs sd : Bool} {kd : Option IntKind} {b off n sz : Nat} {h : Heap} : convX bs kd sd (.os b off n sz) h = bif bs && sd && Nat.beq sz 1 then cvtO (h.find b) off n else .bad := by
  rfl
theorem convX_nilS {bs sd : Bool} {kd : Option IntKind} {h : Heap} : convX bs kd sd (.sc (.slice none 0 0)) h = .ok (bs = true ∧ sd = true) (.sc (.string ⟨#[]⟩)) := rfl
theorem convX_int {bs sd : Bool} {kd : Option IntKind} {k : IntKind} {n : Int} {h : Heap} : convX bs kd sd (.sc (.int k n)) h = convSV kd sd (.sc (.int k n)) := rfl
theorem convX_str {bs sd : Bool} {kd : Option IntKind} {s : ByteArray} {h : Heap} : convX bs kd sd (.sc (.string s)) h = convSV kd sd (.sc (.string s)) := rfl
theorem binSV_sl0 {P : Program} {op : BinOp} {t : TypeId} {c : Bool} : binSV P op t c (.sc (.slice none 0 0)) (.sc (.slice none 0 0)) = binSl (isSl P t) op true := rfl
theorem binSV_os {P : Program} {op : BinOp} {t : TypeId} {c : Bool} {b off n sz : Nat} : binSV P op t c (.os b off n sz) (.sc (.slice none 0 0)) = binSl (isSl P t) op false := rfl
theorem binSl_eql {i r : Bool} : binSl i .eql r = .ok (i = true) (.sc (.bool r)) := rfl
theorem binSl_neq {i r : Bool} : binSl i .neq r = .ok (i = true) (.sc (.bool (!r))) := rfl
def lookM (c : KK) (z : Value) (ok : Bool) (a : Value) (k : Option Blk) : VRes := match k with
  | some (.mp l) => bif kkOk c a then lookR ok z (mfI c a l 0) else .bad
  | _ => .bad
theorem lookSV_mp {c : KK} {z a : Value} {ok : Bool} {b : Nat} {h : Heap} : lookSV (some (c, z)) ok (.mp b) (.sc a) h = lookM c z ok a (h.find b) := rfl
theorem lookM_mp {c : KK} {z a : Value} {ok : Bool} {l : List (Value × Value)} : lookM c z ok a (some (.mp l)) = bif kkOk c a then lookR ok z (mfI c a l 0) else .bad := rfl
theorem lookR_some {ok : Bool} {z v : Value} {i : Nat} : lookR ok z (some (some (i, v))) = .ok True (bif ok then .tup [.sc v, .sc (.bool true)] else .sc v) := rfl
theorem lookR_none {ok : Bool} {z : Value} : lookR ok z (some none) = .ok True (bif ok then .tup [.sc z, .sc (.bool false)] else .sc z) := rfl
def mputM (c : KK) (b : Nat) (a v : Value) (d : Option Tmp) (K : St → Prop) (S : St) (k : Option Blk) : Prop := match k with
  | some (.mp l) => kkOk c a = true ∧ mputR b l a v (mfI c a l 0) d K S
  | _ => False
theorem mputK_mp {c : KK} {z a v : Value} {b : Nat} {d : Option Tmp} {K : St → Prop} {S : St} : mputK (some (c, z)) (.mp b) (.sc a) (.sc v) d K S = mputM c b a v d K S (S.h.find b) := rfl
theorem mputM_mp {c : KK} {a v : Value} {b : Nat} {d : Option Tmp} {K : St → Prop} {S : St} {l : List (Value × Value)} : mputM c b a v d K S (some (.mp l)) = (kkOk c a = true ∧ mputR b l a v (mfI c a l 0) d K S) := rfl
theorem mputR_some {a v : Value} {b : Nat} {d : Option Tmp} {K : St → Prop} {S : St} {l : List (Value × Value)} {r : Option (Nat × Value)} : mputR b l a v (some r) d K S = K ((⟨S.t, S.h.upd b (.mp (mset a v l r))⟩ : St).put d .any) := rfl
def mdelM (c : KK) (b : Nat) (a : Value) (d : Option Tmp) (K : St → Prop) (S : St) (k : Option Blk) : Prop := match k with
  | some (.mp l) => kkOk c a = true ∧ mdelR b l (mfI c a l 0) d K S
  | _ => False
theorem mdelK_mp {c : KK} {z a : Value} {b : Nat} {d : Option Tmp} {K : St → Prop} {S : St} : mdelK (some (c, z)) (.mp b) (.sc a) d K S = mdelM c b a d K S (S.h.find b) := rfl
theorem mdelM_mp {c : KK} {a : Value} {b : Nat} {d : Option Tmp} {K : St → Prop} {S : St} {l : List (Value × Value)} : mdelM c b a d K S (some (.mp l)) = (kkOk c a = true ∧ mdelR b l (mfI c a l 0) d K S) := rfl
theorem mdelR_some {b : Nat} {d : Option Tmp} {K : St → Prop} {S : St} {l : List (Value × Value)} {r : Option (Nat × Value)} : mdelR b l (some r) d K S = K ((⟨S.t, S.h.upd b (.mp (mdel l r))⟩ : St).put d .any) := rfl
theorem mkmK_n {i : Bool} {d : Option Tmp} {K : St → Prop} {S : St} : mkmK i none d K S = (i = true ∧ allF S.h fun b => K ((⟨S.t, (b, .mp []) :: S.h⟩ : St).put d (.mp b))) := by simp [mkmK, hintOk]
theorem mkmK_i {i : Bool} {k : IntKind} {n : Int} {d : Option Tmp} {K : St → Prop} {S : St} : mkmK i (some (.sc (.int k n))) d K S = (i = true ∧ allF S.h fun b => K ((⟨S.t, (b, .mp []) :: S.h⟩ : St).put d (.mp b))) := by simp [mkmK, hintOk]
theorem single_mp {b : Nat} : single (.mp b) = true := rfl
theorem cells_mp {b : Nat} : svCells (.mp b) = some [.mp b] := rfl
theorem kkOk_i {k k' : IntKind} {n : Int} : kkOk (.i k) (.int k' n) = decide (k' = k) := rfl
theorem kkOk_s {s : ByteArray} : kkOk .s (.string s) = true := rfl
theorem kkOk_b {b : Bool} : kkOk .b (.bool b) = true := rfl
attribute [go_sem] stepK_lookup stepK_makeMap stepK_mapUpdate binSV_sl0 binSV_os binSl_eql binSl_neq lookSV_mp lookM_mp lookR_some lookR_none mputK_mp mputM_mp mputR_some mdelK_mp mdelM_mp mdelR_some mkmK_n mkmK_i single_mp cells_mp kkOk_i kkOk_s kkOk_b Option.map_none Option.map_some Blk.isM
attribute [go_sem] Option.isSome_none Option.isSome_some Option.getD_some Option.getD_none List.set_cons_zero List.set_cons_succ List.set_nil Int.ofNat_eq_natCast Bool.not_eq_true' decide_eq_false_iff_not Bool.and_eq_true Bool.or_eq_true Bool.not_eq_eq_eq_not guardB_undef idx_fl idx_os idx_op idx_fp len_fl len_os len_nil len_str len_op len_agg len_fp single_int single_bool single_str single_slice single_fl single_fp single_os single_op single_fn cells_agg cells_int cells_bool cells_str cells_slice cells_fl cells_fp cells_os cells_op cells_fn src_os src_nil src_fl srcOk_os srcOk_nil srcOk_fl srcOk_ints idx_ints idx_bools idx_mat len_ints len_bools len_mat cells_ints cells_bools cells_mat single_ints single_bools single_mat vcOps_nil vcOps_plain vcOps_guard vcD_nil vcD_plain vcD_guard guardK_some guardB_yes guardB_no gdst_zero gdst_succ stepK_alloc stepK_move stepK_assign stepK_pick stepK_bin stepK_un stepK_load stepK_indexAddr stepK_index stepK_fieldAddr stepK_field stepK_extract stepK_nilCheck stepK_slice stepK_convert stepK_build stepK_makeFunc stepK_len stepK_min stepK_call stepK_store binSV_int binSV_str binSV_bool binSV_agg binSV_nn binSV_ni binSV_in isC_t isC_c isC_f isC_g binAA_eql binAA_neq eqC_nil eqC_cons eq1_i eq1_b eq1_s and2_ok binNil_eql binNil_neq stepK_append appX_fl appX_sc appX_os0 stepK_cap appZK_nil cap_nil stepK_box stepK_buildSlice stepD_move stepD_assign stepD_pick stepD_bin stepD_un stepD_load stepD_indexAddr stepD_index stepD_fieldAddr stepD_extract stepD_nilCheck stepD_slice stepD_convert stepD_build stepD_len stepD_call stepD_store stepD_append stepD_buildSlice resK_ok resK_new resD_ok dstOk_some dstOk_none put_some put_none ev_tmp ev_const ev_func look_if look_nil find_cons upd_cons ren_cons del_cons fresh_cons fresh_nil pickSV binSV binII binSS binBB unSV loadSV indexSV indexAr ntOf appNtK appOtK fieldAddrSV fieldSV tupSV nilSV sliceX_none sliceX_some arrOp arrFp cvtO convX_os convX_nilS convX_int convX_str cvtK sliceSV bnd convSV boxSV allocSV minSV maxSV makeSV zeros getN storeK callK strK strBytes ifcK pcallK Blk.len Blk.get Blk.set setN newB appB_svs appB_ints appB_bools List.length_append List.length_map buildSliceSV fillSV setAll zfill buildSV List.map_cons List.map_nil List.nil_append List.cons_append List.append_nil List.getD_cons_zero List.getD_cons_succ List.length_cons List.length_nil List.all_cons List.all_nil Option.map_some Option.map_none Bool.and_true Bool.true_and Bool.and_false Bool.false_and cond_true cond_false decide_eq_true_eq Nat.beq_eq Bool.not_eq_true Bool.not_eq_false Bool.not_true Bool.not_false true_and and_true eq_self ne_eq not_true_eq_false not_false_eq_true Nat.zero_add Nat.add_zero Nat.mul_one Nat.one_mul Int.toNat_natCast Int.natCast_nonneg gt_iff_lt Nat.lt_add_one if_true if_false Bool.false_eq_true List.size_toArray Nat.lt_irrefl Nat.succ_eq_add_one Nat.not_lt_zero Nat.le_refl thn_normal thn_exit thn_ret inB_normal inB_ret inB_exit condK_bool
end Go.Ab
/-! Ar: What is owned may be given up, or be handed on as data that is only read; the frame of a proof. -/
namespace Go.Ab
open Go.RowKit
section
variable {P : Program} {N : Nat} {S : St}
theorem del_nodup {h : Heap} {b : Nat} (hn : (h.map (·.1)).Nodup) : ((h.del b).map (·.1)).Nodup := by
  induction h with
  | nil => exact hn
  | cons x r ih =>
    obtain ⟨c, k⟩ := x
    rw [List.map_cons, List.nodup_cons] at hn
    simp only [Heap.del]
    split
    · exact hn.2
    · rw [List.map_cons, List.nodup_cons]
      refine ⟨fun hm => hn.1 ?_, ih hn.2⟩
      rw [List.mem_map] at hm ⊢
      obtain ⟨x, hx, he⟩ := hm
      exact ⟨x, mem_del hx, he⟩
theorem St.le_sublist [Gl] {t : List (Nat × SV)} {h h' : Heap} (hs : ∀ x ∈ h', x ∈ h) (hn : (h.map (·.1)).Nodup → (h'.map (·.1)).Nodup) : (St.mk t h).le ⟨t, h'⟩ := fun M w0 D N a w r => by
  have hh : ∀ b, h'.has b → h.has b := fun b ⟨k, hk⟩ => ⟨k, hs _ hk⟩
  exact ⟨r.defers, r.n, fun i => (r.t i).mono (env_le (Frm.refl (fun _ => False) w) (fun _ x _ => x.elim) (fun b _ x => x.imp id (hh b))), r.own.sub (hn r.own.nodup) hs, r.frm, fun b hb => r.new b (hh b hb)⟩
theorem St.le_drop [Gl] {t : List (Nat × SV)} {h : Heap} : (St.mk t h).le ⟨t, []⟩ := St.le_sublist (fun _ x => by cases x) (fun _ => by simp)
theorem St.le_del [Gl] {t : List (Nat × SV)} {h : Heap} {b : Nat} : (St.mk t h).le ⟨t, h.del b⟩ := St.le_sublist (fun _ x => mem_del x) del_nodup
theorem St.le_perm [Gl] {t : List (Nat × SV)} {h h' : Heap} (hp : h'.Perm h) : (St.mk t h).le ⟨t, h'⟩ := St.le_sublist (fun _ x => hp.mem_iff.1 x) (fun hn => (hp.map _).nodup_iff.2 hn)
theorem St.le_say [Gl] {t : List (Nat × SV)} {h : Heap} {i : Nat} {v : SV} (hv : ∀ (E : Env) (u : Value), Rep E u (look t i) → Rep E u v) : (St.mk t h).le ⟨(i, v) :: t, h⟩ := fun M w0 D N a w r =>
  ⟨r.defers, r.n, fun j => by
    show Rep _ _ (look ((i, v) :: t) j)
    rw [look_if]
    by_cases hj : i = j
    · subst hj; rw [if_pos rfl]; exact hv _ _ (r.t i)
    · rw [if_neg hj]; exact r.t j, r.own, r.frm, r.new⟩
theorem Rep.fl_congr {E : Env} {u : Value} {n sz : Nat} {f g : Nat → List SV} (h : ∀ i, i < n → f i = g i) (hr : Rep E u (.fl n sz f)) : Rep E u (.fl n sz g) := by
  cases hr with
  | fl0 a cap _ _ => exact .fl0 _ _ _ _
  | fl b off _ cap _ _ val hc hl hs hr => exact .fl b off n cap sz g val hc (fun i hi => by rw [← h i hi]; exact hl i hi) hs (fun i hi j hj => by rw [← h i hi]; exact hr i hi j hj)
theorem Rep.fl_nil {E : Env} {u : Value} {sz : Nat} {f : Nat → List SV} (hr : Rep E u (.sc (.slice none 0 0))) : Rep E u (.fl 0 sz f) := by
  cases hr; exact .fl0 _ _ _ _
theorem St.le_freeze [Gl] {t : List (Nat × SV)} {h : Heap} {i b off len sz : Nat} {k : Blk} (hi : look t i = .os b off len sz) (hk : h.find b = some k) (hle : off + len * sz ≤ k.len) (f : Nat → List SV)
    (hf : ∀ j, j < len → f j = getN k (off + j * sz) sz) : (St.mk t h).le ⟨(i, .fl len sz f) :: t, h.del b⟩ := fun M w0 D N a w r => by
  have hm := Heap.find_mem hk
  have hd := St.le_del (t := t) (h := h) (b := b) M w0 D N a w r
  refine ⟨r.defers, r.n, fun j => ?_, hd.own, r.frm, hd.new⟩
  show Rep _ _ (look ((i, _) :: t) j)
  rw [look_if]
  by_cases hj : i = j
  · subst hj
    rw [if_pos rfl]
    have h1 := r.t i
    rw [hi] at h1
    generalize a.tmps.getD i undef = v at h1
    cases h1 with
    | os _ _ _ cap _ m hc hsz hb =>
      obtain ⟨c, e, hbk, hl, hrep⟩ := r.own.ok b k hm (r.own.notMap hm hsz)
      refine .fl b off len cap sz f (fun p q => c.getD (off + p * sz + q) undef) hc (fun p hp => by rw [hf p hp, length_getN]) (fun p hp q hq => ⟨?_, ?_⟩) (fun p hp q hq => ?_)
      · rintro (x | x)
        · exact r.own.notM b ⟨k, hm⟩ x
        · exact del_not r.own.nodup x
      · have := index_lt (s := sz) hp
        have hlt : off + p * sz + q < c.size := by omega
        simp [World.cell?, hbk, hlt]
      · have := index_lt (s := sz) hp
        rw [hf p hp, getD_getN _ _ _ _ hq]
        exact (hrep _ (by omega)).mono (env_le (Frm.refl (fun _ => False) w) (fun _ x _ => x.elim) (fun b _ x => x.imp id (fun ⟨k', hk'⟩ => ⟨k', mem_del hk'⟩)))
  · rw [if_neg hj]; exact hd.t j
theorem St.le_freezeP [Gl] {t : List (Nat × SV)} {h : Heap} {i b off n : Nat} {k : Blk} (hi : look t i = .op b off) (hk : h.find b = some k) (hle : off + n ≤ k.len) :
    (St.mk t h).le ⟨(i, .fp (getN k off n)) :: t, h.del b⟩ := fun M w0 D N a w r => by
  have hm := Heap.find_mem hk
  have hd := St.le_del (t := t) (h := h) (b := b) M w0 D N a w r
  refine ⟨r.defers, r.n, fun j => ?_, hd.own, r.frm, hd.new⟩
  show Rep _ _ (look ((i, _) :: t) j)
  rw [look_if]
  by_cases hj : i = j
  · subst hj
    rw [if_pos rfl]
    have h1 := r.t i
    rw [hi] at h1
    generalize a.tmps.getD i undef = v at h1
    cases h1 with
    | op _ _ =>
      cases hM : k.isM with
      | true =>
        have h0 : k.len = 0 := by
          cases k with
          | mp l => rfl
          | _ => cases hM
        obtain rfl : n = 0 := by omega
        exact .fp b off _ (fun _ => undef) (fun q hq => absurd hq (by simp [getN])) (fun q hq => absurd hq (by simp [getN]))
      | false =>
      obtain ⟨c, e, hbk, hl, hrep⟩ := r.own.ok b k hm hM
      refine .fp b off _ (fun q => c.getD (off + q) undef) (fun q hq => ⟨?_, ?_⟩) (fun q hq => ?_)
      · rintro (x | x)
        · exact r.own.notM b ⟨k, hm⟩ x
        · exact del_not r.own.nodup x
      · rw [length_getN] at hq
        have hlt : off + q < c.size := by omega
        simp [World.cell?, hbk, hlt]
      · rw [length_getN] at hq
        rw [getD_getN _ _ _ _ hq]
        exact (hrep _ (by omega)).mono (env_le (Frm.refl (fun _ => False) w) (fun _ x _ => x.elim) (fun b _ x => x.imp id (fun ⟨k', hk'⟩ => ⟨k', mem_del hk'⟩)))
  · rw [if_neg hj]; exact hd.t j
theorem St.le_blk [Gl] {t : List (Nat × SV)} {h : Heap} {b : Nat} {k k' : Blk} (hk : h.find b = some k) (he : k'.cells = k.cells) (hkM : k.isM = false) (hkM' : k'.isM = false) : (St.mk t h).le ⟨t, h.upd b k'⟩ := fun M w0 D N a w r =>
  ⟨r.defers, r.n, fun i => by
    show Rep (envOf (hid M (h.upd b k')) w) _ _
    rw [hid_upd]; exact r.t i, r.own.cells (Heap.find_mem hk) he hkM hkM', r.frm, fun c hc => r.new c (has_upd.1 hc)⟩
/-! ### the frame -/
theorem Call.enter' [Gl] {f : FuncId} {fn : Func} {c : Code} {N : Nat} {rs : List ResultVar} {args : List SV} {h : Heap} {Q : SV → Heap → Prop} (hf : P.funcs[f]? = some fn) (hb : fn.body = some c) (hN : fn.ntmps = N) (hrs : fn.results.toList = rs)
    (hn : (fn.name == "runtime.NumGoroutine") = false) (hl : Nat.ble args.length N = true) (hsw : SW P N c (retQ P rs Q) ⟨argT 0 args, h⟩) : Call P f args h Q := by
  subst hN hrs
  exact Call.enter hf hb hn (Nat.le_of_ble_eq_true hl) hsw
theorem retQ_ret [Gl] {rs : List ResultVar} {Q : SV → Heap → Prop} (h : resL P S rs (fun vs => Q (tupOf vs) S.h)) : retQ P rs Q .ret S := ⟨S, St.le.refl _, h⟩
theorem retQ_le [Gl] {rs : List ResultVar} {Q : SV → Heap → Prop} {S' : St} (hl : S.le S') (h : resL P S' rs (fun vs => Q (tupOf vs) S'.h)) : retQ P rs Q .ret S := ⟨S', hl, h⟩
theorem resL_mono [Gl] : ∀ (rs : List ResultVar) {K K' : List SV → Prop}, (∀ vs, K vs → K' vs) → resL P S rs K → resL P S rs K'
  | [], K, K', hk, h => hk _ h
  | r :: rs, K, K', hk, h => by
    unfold resL at *
    split at h
    · exact ⟨h.1, resL_mono rs (fun vs => hk _) h.2⟩
    · exact h
theorem ret_pure [Gl] {rs : List ResultVar} {t : List (Nat × SV)} {h : Heap} {r : SV} (hq : resL P ⟨t, []⟩ rs (fun vs => tupOf vs = r)) : retQ P rs (fun r' h' => r' = r ∧ h' = []) .ret ⟨t, h⟩ :=
  ⟨⟨t, []⟩, St.le_drop, resL_mono rs (fun _ x => ⟨x, rfl⟩) hq⟩
theorem resL_nil {K : List SV → Prop} : resL P S [] K = K [] := propext ⟨fun h => h, fun h => h⟩
theorem resL_tmp {t : Tmp} {rs : List ResultVar} {K : List SV → Prop} : resL P S (.tmp t :: rs) K = resL P S rs (fun vs => K (look S.t t :: vs)) := by simp [resL, resV]
def Rnd [Gl] (I : Nat → St → Prop) (n : Nat) (S' : St) : Prop := ∃ m S'', m < n ∧ S'.le S'' ∧ I m S''
theorem Rnd.sub [Gl] {I : Nat → St → Prop} {n : Nat} {t l : List (Nat × SV)} {h : Heap} (m : Nat) (hm : m < n) (hI : I m ⟨l, h⟩) (hs : Ab.sub ⟨t, h⟩ l) : Rnd I n ⟨t, h⟩ := ⟨m, _, hm, St.le_sub hs, hI⟩
theorem Rnd.le [Gl] {I : Nat → St → Prop} {n : Nat} {S S' : St} (hl : S.le S') (h : Rnd I n S') : Rnd I n S := by
  obtain ⟨m, S'', h1, h2, h3⟩ := h
  exact ⟨m, S'', h1, hl.trans h2, h3⟩
theorem SW.loop' [Gl] {c : Code} {Q : Exit → St → Prop} {t l : List (Nat × SV)} {h : Heap} (I : Nat → St → Prop) (n : Nat) (h0 : I n ⟨l, h⟩) (hle : Ab.sub ⟨t, h⟩ l)
    (round : ∀ n S, I n S → SW P N c (thn (Rnd I n) Q) S) : SW P N (.loop c) Q ⟨t, h⟩ := SW.le (St.le_sub hle) (SW.loop I n h0 round)
end
end Go.Ab
/-! As: Arguments that are handed on as data. -/
namespace Go.Ab
open Go.RowKit
section
variable {P : Program} {N : Nat} {M : Nat → Prop} {h : Heap} {w : World}
theorem freeze_rep [Gl] (own : Owns M h w) {v : Value} {b off len sz : Nat} {k : Blk} (hk : h.find b = some k) (hle : off + len * sz ≤ k.len) (f : Nat → List SV) (hf : ∀ j, j < len → f j = getN k (off + j * sz) sz)
    (hv : Rep (envOf (hid M h) w) v (.os b off len sz)) : Rep (envOf (hid M (h.del b)) w) v (.fl len sz f) := by
  have hm := Heap.find_mem hk
  cases hv with
  | os _ _ _ cap _ m hc hsz hb =>
    obtain ⟨c, e, hbk, hl, hrep⟩ := own.ok b k hm (own.notMap hm hsz)
    refine .fl b off len cap sz f (fun p q => c.getD (off + p * sz + q) undef) hc (fun p hp => by rw [hf p hp, length_getN]) (fun p hp q hq => ⟨?_, ?_⟩) (fun p hp q hq => ?_)
    · rintro (x | x)
      · exact own.notM b ⟨k, hm⟩ x
      · exact del_not own.nodup x
    · have := index_lt (s := sz) hp
      have hlt : off + p * sz + q < c.size := by omega
      simp [World.cell?, hbk, hlt]
    · have := index_lt (s := sz) hp
      rw [hf p hp, getD_getN _ _ _ _ hq]
      exact (hrep _ (by omega)).mono (env_le (Frm.refl (fun _ => False) w) (fun _ x _ => x.elim) (fun b _ x => x.imp id (fun ⟨k', hk'⟩ => ⟨k', mem_del hk'⟩)))
theorem env_del [Gl] (M : Nat → Prop) (h : Heap) (b : Nat) (w : World) : (envOf (hid M h) w).le (envOf (hid M (h.del b)) w) :=
  env_le (Frm.refl (fun _ => False) w) (fun _ x _ => x.elim) (fun b _ x => x.imp id (fun ⟨k', hk'⟩ => ⟨k', mem_del hk'⟩))
theorem has_del {b c : Nat} (hc : (h.del b).has c) : h.has c := by obtain ⟨k, hk⟩ := hc; exact ⟨k, mem_del hk⟩
theorem Call.le [Gl] {f : FuncId} {args args2 : List SV} {h2 : Heap} {Q : SV → Heap → Prop} (hsub : ∀ b, h2.has b → h.has b)
    (hle : ∀ (M : Nat → Prop) (w : World) (vs : Array Value), Owns M h w → Reps (envOf (hid M h) w) vs args → Owns M h2 w ∧ Reps (envOf (hid M h2) w) vs args2) (hc : Call P f args2 h2 Q) : Call P f args h Q := by
  refine ⟨fun M w vs own hr => ?_⟩
  obtain ⟨own2, hr2⟩ := hle M w vs own hr
  refine (hc.out M w vs own2 hr2).mono fun e w' ⟨v, r, h', he, hq, hv, o1, frm, hh⟩ => ⟨v, r, h', he, hq, hv, o1, ?_, fun b hb hlt => hsub b (hh b hb hlt)⟩
  exact ⟨frm.size, fun b hb hn => frm.keep b hb (fun x => hn (hsub b x)), frm.sizes, frm.os, frm.tape, frm.output, frm.drn⟩
theorem getD_set {l : List SV} {i j : Nat} {v : SV} (hi : i < l.length) : (l.set i v).getD j .any = if i = j then v else l.getD j .any := by
  by_cases h : i = j
  · subst h; simp [List.getD_eq_getElem?_getD, hi]
  · simp [List.getD_eq_getElem?_getD, List.getElem?_set_ne h, h]
theorem Call.freeze [Gl] {f : FuncId} {args : List SV} {Q : SV → Heap → Prop} (i : Nat) {b off len sz : Nat} {k : Blk} (g : Nat → List SV) (hi : i < args.length) (ha : args.getD i .any = .os b off len sz) (hk : h.find b = some k) (hle : off + len * sz ≤ k.len)
    (hg : ∀ j, j < len → g j = getN k (off + j * sz) sz) (hc : Call P f (args.set i (.fl len sz g)) (h.del b) Q) : Call P f args h Q := by
  refine Call.le (fun c hc => has_del hc) (fun M w vs own hr => ⟨own.sub (del_nodup own.nodup) (fun x hx => mem_del hx), by simpa using hr.1, fun j hj => ?_⟩) hc
  rw [getD_set hi]
  have h0 := hr.2 j (by simpa using hj)
  by_cases hij : i = j
  · subst hij
    rw [if_pos rfl]
    rw [ha] at h0
    exact freeze_rep own hk hle g hg h0
  · rw [if_neg hij]
    exact h0.mono (env_del M h b w)
theorem getN_one (k : Blk) (o : Nat) : getN k o 1 = [k.get o] := rfl
theorem get_of_cells {blk : Blk} {l : List SV} (hc : blk.cells = l) {j : Nat} (hj : j < l.length) : blk.get j = l.getD j .any := by
  rw [← hc, Blk.get_cells _ _ (by rw [← Blk.length_cells, hc]; exact hj)]
theorem St.le_ints [Gl] {t : List (Nat × SV)} {i b n : Nat} {blk : Blk} (k : IntKind) (l : List Int) (ha : look t i = .os b 0 n 1) (hn : n = l.length) (hk : h.find b = some blk) (hb : blk.cells = l.map fun n => .sc (.int k n)) :
    (St.mk t h).le ⟨(i, ints k l) :: t, h.del b⟩ := by
  subst hn
  refine St.le_freeze ha hk (by rw [← Blk.length_cells, hb]; simp) _ (fun j hj => ?_)
  rw [Nat.zero_add, Nat.mul_one, getN_one, get_of_cells hb (by simpa using hj)]
  simp [List.getD_eq_getElem?_getD, hj]
theorem St.le_nil_ints [Gl] {t : List (Nat × SV)} {i : Nat} (k : IntKind) (ha : look t i = .sc (.slice none 0 0)) : (St.mk t h).le ⟨(i, ints k []) :: t, h⟩ := St.le_say fun E u hr => by rw [ha] at hr; exact Rep.fl_nil hr
theorem Call.nil_ints [Gl] {f : FuncId} {args : List SV} {Q : SV → Heap → Prop} (i : Nat) (k : IntKind) (hi : i < args.length) (ha : args.getD i .any = .sc (.slice none 0 0)) (hc : Call P f (args.set i (ints k [])) h Q) : Call P f args h Q := by
  refine Call.le (fun c hc => hc) (fun M w vs own hr => ⟨own, by simpa using hr.1, fun j hj => ?_⟩) hc
  rw [getD_set hi]
  have h0 := hr.2 j (by simpa using hj)
  by_cases hij : i = j
  · subst hij
    rw [if_pos rfl]
    rw [ha] at h0
    exact Rep.fl_nil h0
  · rw [if_neg hij]; exact h0
end
end Go.Ab
/-! At: A slice that is appended to, nil at first. -/
namespace Go.Ab
open Go.RowKit
def Acc (sz : Nat) (x : SV) (h h0 : Heap) (n : Nat) (cs : List SV) : Prop :=
  (n = 0 ∧ cs = [] ∧ x = .sc (.slice none 0 0) ∧ h = h0) ∨
  (∃ b blk, fresh h0 b ∧ blk.cells = cs ∧ n * sz = cs.length ∧ x = .os b 0 n sz ∧ h = (b, blk) :: h0 ∧ blk.isM = false)
section
variable {P : Program} {N : Nat} {S : St} {K : St → Prop} {t : List (Nat × SV)} {h h0 : Heap}
theorem Acc.nil (sz : Nat) (h : Heap) : Acc sz (.sc (.slice none 0 0)) h h 0 [] := .inl ⟨rfl, rfl, rfl, rfl⟩
theorem del_head {b : Nat} {k : Blk} {h : Heap} : Heap.del ((b, k) :: h) b = h := by simp [Heap.del]
theorem getN_svs [Gl] (c : List SV) : getN (.svs c) 0 c.length = c := by
  refine List.ext_getElem? (fun j => ?_)
  by_cases hj : j < c.length
  · have h1 := getD_getN (.svs c) c.length 0 j hj
    rw [getD_list _ _ _ (by rw [length_getN]; exact hj), Nat.zero_add] at h1
    rw [List.getElem?_eq_getElem (by rw [length_getN]; exact hj), h1, List.getElem?_eq_getElem hj]
    simp [Blk.get, hj]
  · rw [List.getElem?_eq_none (by rw [length_getN]; omega), List.getElem?_eq_none (by omega)]
theorem appK_acc [Gl] {sz : Nat} {x : SV} {n bytes e : Nat} {cs c : List SV} {z : List Value} {d : Tmp} {b2 : Nat} {ni : Bool} (hA : Acc sz x h h0 n cs) (hf : fresh h b2) (hni : ni = true) (hc : c.length = sz) (hs : c.all single = true) (h0' : 0 < sz) (hz : z.length = sz)
    (hb : (n + 1) * bytes ≤ 140737488355328) (hn : n + 1 ≤ 140737488355328)
    (hK : ∀ x' b blk, fresh h0 b → fresh ((b2, .svs c) :: h0) b → fresh h0 b2 → (blk.cells = cs ++ c ∧ blk.isM = false) → (n + 1) * sz = (cs ++ c).length → x' = .os b 0 (n + 1) sz →
      ∀ h', (h' = (b, blk) :: (b2, .svs c) :: h0 ∨ h' = (b2, .svs c) :: (b, blk) :: h0) → K ⟨(d, x') :: t, h'⟩) :
    appK (some (e, sz, bytes)) (some z) ni x (.os b2 0 1 sz) (some d) K ⟨t, (b2, .svs c) :: h⟩ := by
  subst hni
  have hsrc : srcCells (.os b2 0 1 sz) ((b2, .svs c) :: h) = some (1, c) := by
    rw [src_os, find_cons, if_pos rfl]
    simp only [Nat.one_mul]
    rw [← hc, getN_svs]
  have hok : srcOk sz (.os b2 0 1 sz) ((b2, .svs c) :: h) := by
    rw [srcOk_os, find_cons, if_pos rfl]
    exact ⟨rfl, by show 0 + 1 * sz ≤ c.length; omega⟩
  unfold appK
  simp only [hsrc]
  refine ⟨trivial, hok, hs, hz, h0', ?_⟩
  rcases hA with ⟨rfl, rfl, rfl, rfl⟩ | ⟨b, blk, hfb, hcells, hlen, rfl, rfl, hkM⟩
  · simp only
    refine ⟨by simpa using hb, by omega, fun x => by omega, fun _ b hfr => ?_⟩
    exact hK _ b (newB c) hfr.2 hfr hf ⟨by rw [newB_cells]; rfl, isM_newB c⟩ (by rw [List.nil_append]; omega) rfl _ (.inl rfl)
  · simp only
    unfold appOsK
    have hne : b2 ≠ b := fun e => hf.1.2 e
    rw [find_cons, if_neg hne, find_cons, if_pos rfl]
    refine ⟨rfl, rfl, by rw [← Blk.length_cells, hcells]; omega, hb, hn, fun b' hfr => ?_⟩
    show K ⟨(d, .os b' 0 (n + 1) sz) :: t, Heap.ren ((b2, .svs c) :: (b, blk) :: h0) b b' (appB blk c)⟩
    rw [ren_cons, if_neg hne, ren_cons, if_pos rfl]
    rw [del_cons, if_neg hne, del_cons, if_pos rfl] at hfr
    refine hK _ b' (appB blk c) hfr.2 hfr hf.2 ⟨by rw [appB_cells, hcells], isM_appB _ _⟩ ?_ rfl _ (.inr rfl)
    rw [List.length_append, ← hlen, hc, Nat.add_mul, Nat.one_mul]
theorem Acc.after [Gl] {sz : Nat} {x' : SV} {n : Nat} {cs : List SV} {b b2 : Nat} {blk k2 : Blk} {h' : Heap} (hf : fresh h0 b) (hc : blk.cells = cs ∧ blk.isM = false) (hl : n * sz = cs.length) (hx : x' = .os b 0 n sz)
    (hh : h' = (b, blk) :: (b2, k2) :: h0 ∨ h' = (b2, k2) :: (b, blk) :: h0) : ∃ h'', Acc sz x' h'' h0 n cs ∧ ∀ t, (St.mk t h').le ⟨t, h''⟩ := by
  refine ⟨(b, blk) :: h0, .inr ⟨b, blk, hf, hc.1, hl, hx, rfl, hc.2⟩, fun t => St.le_sublist (fun x hx => ?_) (fun hn => ?_)⟩
  · rcases hh with rfl | rfl
    · rcases List.mem_cons.1 hx with hx | hx
      · exact hx ▸ List.mem_cons_self
      · exact List.mem_cons_of_mem _ (List.mem_cons_of_mem _ hx)
    · exact List.mem_cons_of_mem _ hx
  · rcases hh with rfl | rfl
    · simp only [List.map_cons, List.nodup_cons, List.mem_cons, not_or] at hn ⊢
      exact ⟨hn.1.2, hn.2.2⟩
    · simp only [List.map_cons, List.nodup_cons] at hn ⊢
      exact hn.2
theorem Rnd.drop [Gl] {I : Nat → St → Prop} {n : Nat} {t : List (Nat × SV)} {h : Heap} (hr : Rnd I n ⟨t, []⟩) : Rnd I n ⟨t, h⟩ := Rnd.le St.le_drop hr
theorem St.le_acc_ints [Gl] {i : Nat} {x : SV} {k : IntKind} {l : List Int} (hi : look t i = x) (hA : Acc 1 x h h0 l.length (l.map fun n => .sc (.int k n))) : (St.mk t h).le ⟨(i, ints k l) :: t, h0⟩ := by
  rcases hA with ⟨h1, h2, rfl, rfl⟩ | ⟨b, blk, hf, hc, hl, rfl, rfl, hkM⟩
  · obtain rfl : l = [] := List.eq_nil_of_length_eq_zero h1
    exact St.le_nil_ints k hi
  · have := St.le_ints (h := (b, blk) :: h0) k l hi rfl (by rw [find_cons, if_pos rfl]) hc
    rwa [del_head] at this
end
end Go.Ab
/-! Au: A region that draws its order and makes blocks: the order of the text serves every order. -/
namespace Go.Ab
open Go.RowKit
def newOp : Op → Bool
  | .box _ _ => true
  | .alloc _ => true
  | .buildSlice _ _ _ => true
  | .makeSlice _ _ _ => true
  | _ => false
def callOp : Op → Bool
  | .call ⟨.value _, _, _⟩ => true
  | _ => false
def detOp (op : Op) : Bool := !callOp op && (stableOp op || newOp op)
section
variable {P : Program} {M : Nat → Prop} {w0 : World} {D : Nat → Prop} {N : Nat} {h : Heap} {w : World}
theorem valOp_congrN [Gl] {op : Op} (hd : detOp op = true) {ρ ρ' : Operand → SV} (h : Heap) (he : ∀ x ∈ op.operands, ρ x = ρ' x) : valOp P op ρ h = valOp P op ρ' h := by
  unfold detOp at hd
  rw [Bool.and_eq_true, Bool.or_eq_true] at hd
  rcases hd.2 with hs | hn
  · exact valOp_congr hs h he
  · unfold newOp at hn
    split at hn
    all_goals try (cases hn; done)
    all_goals simp only [Op.operands] at he
    · simp_all [valOp]
    · rfl
    · rename_i t n ps
      simp only [valOp]
      have : (ps.toList.map fun (i, x) => (i, ρ x)) = (ps.toList.map fun (i, x) => (i, ρ' x)) := List.map_congr_left fun p hp => by
        obtain ⟨i, x⟩ := p
        have hm : x ∈ ((ps.toList.map (·.2)).toArray : Array Operand) := by
          rw [List.mem_toArray]
          exact List.mem_map.2 ⟨(i, x), hp, rfl⟩
        simp only [he x hm]
      rw [this]
    · simp_all [valOp]
def resN (R : VRes) (d : Option Tmp) (K : (Nat → SV) → Heap → Prop) (T : Nat → SV) (h : Heap) : Prop :=
  match R with
  | .ok pre v => pre ∧ K (putF T d v) h
  | .new pre k mk => pre ∧ ∀ b, fresh h b → K (putF T d (mk b)) ((b, k) :: h)
  | .bad => False
theorem St.le_cut [Gl] {t : List (Nat × SV)} {h : Heap} {b : Nat} {k k' : Blk} (n : Nat) (hk : h.find b = some k) (he : k'.cells = k.cells.take n) (hkM : k.isM = false) (hkM' : k'.isM = false) : (St.mk t h).le ⟨t, h.upd b k'⟩ := fun M w0 D N a w r => by
  have hm := Heap.find_mem hk
  obtain ⟨c, e, hheap, hl, hrp⟩ := r.own.ok b k hm hkM
  have hlen : k'.len ≤ k.len := by rw [← Blk.length_cells, ← Blk.length_cells, he, List.length_take]; omega
  have own' : Owns M (h.upd b k') w := r.own.recell hm hkM' hheap (by omega) (fun j hj => by
    have h1 := hrp j (by omega)
    rw [← Blk.get_cells k' j hj, he, List.getD_eq_getElem?_getD, List.getElem?_take]
    have : j < n := by
      have := hj
      rw [← Blk.length_cells, he, List.length_take] at this
      omega
    rw [if_pos this, ← List.getD_eq_getElem?_getD, Blk.get_cells k j (by omega)]
    exact h1)
  have hh : hid M (h.upd b k') = hid M h := hid_upd
  exact ⟨r.defers, r.n, fun i => by rw [hh]; exact r.t i, own', r.frm, fun c hc hlt => r.new c (has_upd.1 hc) hlt⟩
end
theorem neF {p : Prop} : (¬ p) = (p = False) := by simp
theorem cast0 : ((0 : Nat) : Int) = 0 := rfl
attribute [go_sem] cast0 valOp capSV
end Go.Ab
/-! Bb: Arguments that read as data: what the abstract layer says of them; the frame of a law's proof. -/
namespace Go.Ab
open Go.RowKit Go.ChangeShapes Go.WideShapes Go.ChangeAt
abbrev E0 (w : World) : Env := envOf (fun _ => False) w
def Rd (P : Program) (t : TypeId) {α : Type} (sv : α → List SV) (ok : α → Prop) : Prop :=
  ∀ {H : Type} (enc : TypeId × Value → H) (w : World) (base fuel : Nat) (held : Bool) (cs : List Value) (x : DataW H × List MemPlace), DataW.trod enc P w base (fun _ => true) held fuel t cs = some x →
    ∃ a, ok a ∧ (sv a).length = cs.length ∧ ∀ i, i < cs.length → Rep (E0 w) (cs.getD i undef) ((sv a).getD i .any)
section
variable {P : Program} {t e : TypeId} {α β : Type}
theorem Rd.map {sv : α → List SV} {ok : α → Prop} (h : Rd P t sv ok) {sv' : β → List SV} {ok' : β → Prop} (g : α → β) (h1 : ∀ a, ok a → sv' (g a) = sv a) (h2 : ∀ a, ok a → ok' (g a)) : Rd P t sv' ok' := fun enc w base fuel held cs x hx => by
  obtain ⟨a, o, l, r⟩ := h enc w base fuel held cs x hx
  exact ⟨g a, h2 a o, by rw [h1 a o]; exact l, by rw [h1 a o]; exact r⟩
def fits (k : IntKind) (n : Int) : Prop := (Lit.int k n).wf = true
theorem Rd.int {k : IntKind} (ht : P.underlying t = some (.int k)) : Rd P t (fun n : Int => [.sc (.int k n)]) (fits k) := fun enc w base fuel held cs x hx => by
  obtain ⟨n, rfl, _, hw⟩ := DataW.trod_int ht hx
  exact ⟨n, hw, rfl, fun i hi => by obtain rfl : i = 0 := by simpa using hi
                                    exact .sc _⟩
theorem Rd.bool (ht : P.underlying t = some .bool) : Rd P t (fun b : Bool => [.sc (.bool b)]) (fun _ => True) := fun enc w base fuel held cs x hx => by
  obtain ⟨n, rfl, _⟩ := DataW.trod_bool ht hx
  exact ⟨n, trivial, rfl, fun i hi => by obtain rfl : i = 0 := by simpa using hi
                                         exact .sc _⟩
def flOf [Inhabited α] (c : Nat) (sv : α → List SV) (l : List α) : SV := .fl l.length c (fun i => sv (l.getD i default))
theorem cells?_at {w : World} {base : Nat} {a : Addr} : ∀ {n : Nat} {cs : List Value}, w.cells? base a n = some cs → cs.length = n ∧ ∀ i, i < n → w.cell? (a.add i) = some (cs.getD i undef) := fun {n} {cs} h => by
  unfold World.cells? at h
  split at h
  rotate_left
  · cases h
  have hl := mapM_some_length h
  refine ⟨by simpa using hl, fun i hi => ?_⟩
  have := mapM_some_get h i i (by simp [hi])
  have hlt : i < cs.length := by rw [hl]; simpa using hi
  rw [getD_list _ _ _ hlt]
  rw [List.getElem?_eq_getElem hlt] at this
  exact this
theorem spot_none [Gl] {w : World} {a : Addr} {n : Nat} {cs : List Value} {base : Nat} (h : w.cells? base a n = some cs) (hn : 0 < n) : a.spot = none := by
  have := (cells?_at h).2 0 hn
  exact World.cell?_spot (by simpa [Addr.add] using this)
theorem Rd.slice [Gl] [Inhabited α] {sv : α → List SV} {ok : α → Prop} (ht : P.underlying t = some (.slice e)) (c : Nat) (hc : P.cellsOf e = c) (h0 : 0 < c) (h : Rd P e sv ok) :
    Rd P t (fun l : List α => [flOf c sv l]) (fun l => l.length ≤ maxLen ∧ ∀ a ∈ l, ok a) := fun enc w base fuel held cs x hx => by
  rcases DataW.trod_slice ht hx with ⟨rfl, _⟩ | ⟨a, len, cap, elems, rest, n, _, rfl, _, hb, hl, hm, hlen, hel, _, _⟩
  · refine ⟨[], ⟨Nat.zero_le _, fun a ha => by cases ha⟩, rfl, fun i hi => ?_⟩
    obtain rfl : i = 0 := by simpa using hi
    exact .fl0 _ _ _ _
  · rw [hc] at hel
    have each : ∀ i, ∃ y : α × List Value, i < len → w.cells? base (a.add (i * c)) c = some y.2 ∧ ok y.1 ∧ (sv y.1).length = y.2.length ∧ ∀ j, j < y.2.length → Rep (E0 w) (y.2.getD j undef) ((sv y.1).getD j .any) := fun i => by
      by_cases hi : i < len
      · have h1 := hel i hi
        rw [List.getElem?_eq_getElem (by omega)] at h1
        obtain ⟨cs', h2, h3⟩ := Option.bind_eq_some_iff.1 h1
        obtain ⟨y, o, l, r⟩ := h enc w base n held cs' _ h3
        exact ⟨(y, cs'), fun _ => ⟨h2, o, l, r⟩⟩
      · exact ⟨(default, []), fun hh => absurd hh hi⟩
    obtain ⟨y, hy⟩ := Classical.axiomOfChoice each
    refine ⟨(List.range len).map fun i => (y i).1, ⟨by simp; omega, fun a ha => ?_⟩, rfl, fun i hi => ?_⟩
    · obtain ⟨i, hi, rfl⟩ := List.mem_map.1 ha
      exact (hy i (List.mem_range.1 hi)).2.1
    · obtain rfl : i = 0 := by simpa using hi
      have hget : ∀ i, i < len → ((List.range len).map fun i => (y i).1).getD i default = (y i).1 := fun i hi => by simp [List.getD_eq_getElem?_getD, hi]
      show Rep (E0 w) (.slice (some a) len cap) (flOf c sv _)
      unfold flOf
      simp only [List.length_map, List.length_range]
      by_cases hz : len = 0
      · subst hz; exact .fl0 _ _ _ _
      · have hsp : a.spot = none := by
          have h1 := spot_none (hy 0 (by omega)).1 h0
          simpa [Addr.add] using h1
        obtain ⟨b, off, sp⟩ := a
        simp only at hsp
        subst hsp
        refine .fl b off len cap c _ (fun i j => (y i).2.getD j undef) hl (fun i hi => ?_) (fun i hi j hj => ⟨fun x => x, ?_⟩) (fun i hi j hj => ?_)
        · rw [hget i hi, (hy i hi).2.2.1]
          exact (cells?_at (hy i hi).1).1
        · have := (cells?_at (hy i hi).1).2 j hj
          rw [Addr.add_lit, Addr.add_lit] at this
          exact this
        · rw [hget i hi]
          exact (hy i hi).2.2.2 j (by rw [(cells?_at (hy i hi).1).1]; exact hj)
def total (P : Program) (fs : List Field) : Nat := (fs.map fun f => P.cellsOf f.type).sum
def RdF (P : Program) (fs : List Field) (off : Nat) {α : Type} (sv : α → List SV) (ok : α → Prop) : Prop :=
  ∀ {H : Type} (enc : TypeId × Value → H) (w : World) (base fuel : Nat) (held : Bool) (cs : List Value), (∀ f ∈ fs, ∃ x, DataW.trod enc P w base (fun _ => true) held fuel f.type ((cs.drop f.offset).take (P.cellsOf f.type)) = some x) → off + total P fs ≤ cs.length →
    ∃ a, ok a ∧ (sv a).length = total P fs ∧ ∀ i, i < (sv a).length → Rep (E0 w) (cs.getD (off + i) undef) ((sv a).getD i .any)
theorem RdF.nil (off : Nat) : RdF P [] off (fun _ : Unit => []) (fun _ => True) := fun enc w base fuel held cs _ _ => ⟨(), trivial, rfl, fun i hi => absurd hi (by simp)⟩
theorem RdF.cons {f : Field} {fs : List Field} {off : Nat} {sv : α → List SV} {ok : α → Prop} {sv' : β → List SV} {ok' : β → Prop} (ho : f.offset = off) (n : Nat) (hn : P.cellsOf f.type = n) (h : Rd P f.type sv ok) (hs : RdF P fs (off + n) sv' ok') :
    RdF P (f :: fs) off (fun x : α × β => sv x.1 ++ sv' x.2) (fun x => ok x.1 ∧ ok' x.2) := fun enc w base fuel held cs hx hle => by
  subst hn
  obtain ⟨x, hx0⟩ := hx f List.mem_cons_self
  rw [ho] at hx0
  obtain ⟨a, o, l, r⟩ := h enc w base fuel held _ x hx0
  have htot : total P (f :: fs) = P.cellsOf f.type + total P fs := by simp [total]
  rw [htot] at hle
  obtain ⟨b, o', l', r'⟩ := hs enc w base fuel held cs (fun g hg => hx g (List.mem_cons_of_mem _ hg)) (by omega)
  have l1 : (sv a).length = P.cellsOf f.type := by rw [l]; simp; omega
  refine ⟨(a, b), ⟨o, o'⟩, by simp [l1, l', htot], fun i hi => ?_⟩
  simp only [List.length_append] at hi
  by_cases hia : i < (sv a).length
  · have h1 := r i (by rw [← l]; exact hia)
    rw [List.getD_eq_getElem?_getD, List.getElem?_take_of_lt (by omega), List.getElem?_drop] at h1
    rw [List.getD_eq_getElem?_getD (l := sv a ++ sv' b), List.getElem?_append_left hia, ← List.getD_eq_getElem?_getD, List.getD_eq_getElem?_getD (l := cs)]
    exact h1
  · have h1 := r' (i - (sv a).length) (by omega)
    rw [List.getD_eq_getElem?_getD (l := sv a ++ sv' b), List.getElem?_append_right (by omega), ← List.getD_eq_getElem?_getD]
    rw [show off + P.cellsOf f.type + (i - (sv a).length) = off + i by omega] at h1
    exact h1
theorem Rd.struct {fs : Array Field} {sv : α → List SV} {ok : α → Prop} (ht : P.underlying t = some (.struct fs)) (hc : P.cellsOf t = total P fs.toList) (h : RdF P fs.toList 0 sv ok) : Rd P t sv ok := fun enc w base fuel held cs x hx => by
  obtain ⟨xs, n, _, _, hl, hxl, hall⟩ := DataW.trod_struct ht hx
  obtain ⟨a, o, l, r⟩ := h enc w base n held cs (fun f hf => by
    obtain ⟨i, hi, rfl⟩ := List.mem_iff_getElem.1 hf
    have hi' : i < fs.size := by simpa using hi
    have := hall i fs[i] (by simp [hi'])
    rw [List.getElem?_eq_getElem (by omega)] at this
    exact ⟨_, this⟩) (by omega)
  exact ⟨a, o, by omega, fun i hi => by have := r i (by omega); rwa [Nat.zero_add] at this⟩
theorem getD_flatMap [Gl] {sv : α → List SV} {c : Nat} [Inhabited α] : ∀ (l : List α), (∀ a ∈ l, (sv a).length = c) → (l.flatMap sv).length = l.length * c ∧ ∀ i j, i < l.length → j < c → (l.flatMap sv).getD (i * c + j) .any = (sv (l.getD i default)).getD j .any
  | [], _ => ⟨by simp, fun i j hi _ => absurd hi (by simp)⟩
  | x :: l, h => by
    obtain ⟨h1, h2⟩ := getD_flatMap l (fun a ha => h a (List.mem_cons_of_mem _ ha))
    have hx := h x List.mem_cons_self
    refine ⟨by simp only [List.flatMap_cons, List.length_append, h1, hx, List.length_cons, Nat.succ_mul]; omega, fun i j hi hj => ?_⟩
    rw [List.flatMap_cons]
    cases i with
    | zero => rw [Nat.zero_mul, Nat.zero_add, List.getD_eq_getElem?_getD, List.getElem?_append_left (by omega), ← List.getD_eq_getElem?_getD]; rfl
    | succ i =>
      have : (i + 1) * c + j = c + (i * c + j) := by rw [Nat.succ_mul]; omega
      rw [this, List.getD_eq_getElem?_getD, List.getElem?_append_right (by omega), ← List.getD_eq_getElem?_getD, hx, Nat.add_sub_cancel_left, h2 i j (by simpa using hi) hj]
      simp
theorem Rd.array [Gl] [Inhabited α] {n : Nat} {sv : α → List SV} {ok : α → Prop} (ht : P.underlying t = some (.array n e)) (c : Nat) (hc : P.cellsOf e = c) (hn : P.cellsOf t = n * c) (h0 : 0 < c) (h : Rd P e sv ok) :
    Rd P t (fun l : List α => l.flatMap sv) (fun l => l.length = n ∧ ∀ a ∈ l, ok a) := fun enc w base fuel held cs x hx => by
  obtain ⟨xs, m, _, _, hl, hxl, hall⟩ := DataW.trod_array ht hx
  rw [hc] at hall
  have each : ∀ i, ∃ y : α, i < n → ok y ∧ (sv y).length = c ∧ ∀ j, j < c → Rep (E0 w) (cs.getD (i * c + j) undef) ((sv y).getD j .any) := fun i => by
    by_cases hi : i < n
    · have h1 := hall i hi
      rw [List.getElem?_eq_getElem (by omega)] at h1
      obtain ⟨y, o, l, r⟩ := h enc w base m held _ _ h1
      have hle := Nat.mul_le_mul_right c (Nat.succ_le_of_lt hi)
      rw [Nat.succ_mul] at hle
      have hl1 : ((cs.drop (i * c)).take c).length = c := by simp; omega
      rw [hl1] at l r
      refine ⟨y, fun _ => ⟨o, l, fun j hj => ?_⟩⟩
      have h2 := r j hj
      rw [List.getD_eq_getElem?_getD, List.getElem?_take_of_lt hj, List.getElem?_drop] at h2
      rw [List.getD_eq_getElem?_getD (l := cs)]
      exact h2
    · exact ⟨default, fun hh => absurd hh hi⟩
  obtain ⟨y, hy⟩ := Classical.axiomOfChoice each
  have hmem : ∀ a ∈ (List.range n).map y, ok a ∧ (sv a).length = c := fun a ha => by
    obtain ⟨i, hi, rfl⟩ := List.mem_map.1 ha
    have := hy i (List.mem_range.1 hi)
    exact ⟨this.1, this.2.1⟩
  obtain ⟨f1, f2⟩ := getD_flatMap ((List.range n).map y) (fun a ha => (hmem a ha).2)
  simp only [List.length_map, List.length_range] at f1 f2
  refine ⟨(List.range n).map y, ⟨by simp, fun a ha => (hmem a ha).1⟩, by rw [f1]; omega, fun i hi => ?_⟩
  have hi' : i < n * c := by omega
  have hq : i / c < n := (Nat.div_lt_iff_lt_mul h0).2 hi'
  have hr : i % c < c := Nat.mod_lt _ h0
  have he : i / c * c + i % c = i := by rw [Nat.mul_comm]; exact Nat.div_add_mod i c
  have h3 := f2 (i / c) (i % c) hq hr
  rw [he] at h3
  rw [h3]
  have h4 := (hy (i / c) hq).2.2 (i % c) hr
  rw [he] at h4
  simpa [List.getD_eq_getElem?_getD, hq] using h4
/-! ### arguments -/
theorem arg_one {H : Type} {enc : TypeId × Value → H} {w : World} {base : Nat} {held : Bool} {v : Value} {d : DataW H} {ps : List MemPlace} {sv : α → List SV} {ok : α → Prop} (hv : v.cells = #[v]) (h : Rd P t sv ok)
    (hd : DataW.Trod enc P w base (fun _ => true) held t v d ps) : ∃ a, ok a ∧ (sv a).length = 1 ∧ Rep (E0 w) v ((sv a).getD 0 .any) := by
  obtain ⟨fuel, hx⟩ := hd
  obtain ⟨a, o, l, r⟩ := h enc w base fuel held _ _ hx
  rw [hv] at l r
  exact ⟨a, o, l, r 0 (by simp)⟩
theorem arg_agg {H : Type} {enc : TypeId × Value → H} {w : World} {base : Nat} {held : Bool} {cs : Array Value} {d : DataW H} {ps : List MemPlace} {sv : α → List SV} {ok : α → Prop} (h : Rd P t sv ok)
    (hd : DataW.Trod enc P w base (fun _ => true) held t (.agg cs) d ps) : ∃ a, ok a ∧ Rep (E0 w) (.agg cs) (.agg (sv a)) := by
  obtain ⟨fuel, hx⟩ := hd
  obtain ⟨a, o, l, r⟩ := h enc w base fuel held _ _ hx
  refine ⟨a, o, .agg _ _ (by rw [l]; simp [Value.cells]) (fun j hj => ?_)⟩
  have := r j (by rw [← l]; exact hj)
  rw [getD_toList]
  exact this
end
end Go.Ab
/-! Bc: A slice that is appended to from data that is only read; slices that grow. -/
namespace Go.Ab
open Go.RowKit
section
variable {P : Program} {N : Nat} {S : St} {K : St → Prop} {t : List (Nat × SV)} {h h0 : Heap}
theorem allF_i {F : Nat → Prop} (hF : ∀ b, fresh h b → F b) : allF h F := hF
theorem appK_accS [Gl] {sz : Nat} {x y : SV} {n n2 bytes e : Nat} {cs c : List SV} {z : List Value} {d : Tmp} {ni : Bool} (hA : Acc sz x h h0 n cs) (hni : ni = true) (hsrc : srcCells y h = some (n2, c)) (hok : srcOk sz y h) (hc : c.length = n2 * sz)
    (hs : c.all single = true) (h0' : 0 < sz) (hz : z.length = sz) (hb : (n + n2) * bytes ≤ 140737488355328) (hn : n + n2 ≤ 140737488355328)
    (hK : ∀ x' h', Acc sz x' h' h0 (n + n2) (cs ++ c) → K ⟨(d, x') :: t, h'⟩) : appK (some (e, sz, bytes)) (some z) ni x y (some d) K ⟨t, h⟩ := by
  subst hni
  unfold appK
  simp only [hsrc]
  refine ⟨trivial, hok, hs, hz, h0', ?_⟩
  rcases hA with ⟨rfl, rfl, rfl, rfl⟩ | ⟨b, blk, hfb, hcells, hlen, rfl, rfl, hkM⟩
  · simp only
    rw [Nat.zero_add] at hb hn
    refine ⟨hb, hn, fun x0 => ?_, fun hpos b hfr => ?_⟩
    · subst x0
      have : c = [] := List.eq_nil_of_length_eq_zero (by rw [hc, Nat.zero_mul])
      subst this
      exact hK _ _ (.nil sz h)
    · have := hK (.os b 0 n2 sz) ((b, newB c) :: h) (.inr ⟨b, newB c, hfr, by rw [newB_cells]; rfl, by rw [List.nil_append, Nat.zero_add]; exact hc.symm, by rw [Nat.zero_add], rfl, isM_newB c⟩)
      exact this
  · simp only
    unfold appOsK
    rw [find_cons, if_pos rfl]
    refine ⟨rfl, rfl, by rw [← Blk.length_cells, hcells]; omega, hb, hn, fun b' hfr => ?_⟩
    show K ⟨(d, .os b' 0 (n + n2) sz) :: t, Heap.ren ((b, blk) :: h0) b b' (appB blk c)⟩
    rw [ren_cons, if_pos rfl]
    rw [del_cons, if_pos rfl] at hfr
    exact hK _ _ (.inr ⟨b', appB blk c, hfr, by rw [appB_cells, hcells], by rw [List.length_append, ← hlen, hc, Nat.add_mul], rfl, rfl, isM_appB _ _⟩)
end
end Go.Ab
/-! Bd: Blocks of a function's code by their numbers; a contract of one block cuts a long walk. -/
namespace Go.Ab
open Go
def blks (id : Nat) : Code → List Code
  | .seq a b => blks id a ++ blks id b
  | .cond _ a b => blks id a ++ blks id b
  | .block i c => cond (Nat.beq i id) [.block i c] (blks id c)
  | .loop c => blks id c
  | _ => []
def blk (id : Nat) (f : Func) : Code :=
  match f.body with
  | some c => (blks id c).headD .skip
  | none => .skip
def nrm (R : St → Prop) : Exit → St → Prop
  | .normal, S => R S
  | _, _ => False
theorem SW.cut [Gl] {P : Program} {N : Nat} {c : Code} {Q : Exit → St → Prop} {S : St} (R : St → Prop) (h : SW P N c (nrm R) S) (hk : ∀ S', R S' → Q .normal S') : SW P N c Q S :=
  SW.mono h fun e S' x => by
    cases e with
    | normal => exact hk S' x
    | _ => exact x.elim
theorem nrm_i {R : St → Prop} {S : St} (h : R S) : nrm R .normal S := h
def resC (R : VRes) (F : SV → Prop) : Prop := match R with
  | .ok pre v => pre ∧ F v
  | _ => False
theorem resC_ok {pre : Prop} {v : SV} {F : SV → Prop} : resC (.ok pre v) F = (pre ∧ F v) := propext ⟨fun h => h, fun h => h⟩
theorem resL_cellE {P : Program} {S : St} {x : Tmp} {t : TypeId} {rs : List ResultVar} {K : List SV → Prop} : resL P S (.cell x t :: rs) K = resC (loadSV (tk P t) (look S.t x) S.h) (fun v => resL P S rs (fun vs => K (v :: vs))) := by
  simp only [resL, resV]
  cases loadSV (tk P t) (look S.t x) S.h <;> rfl
theorem ret_cell [Gl] {P : Program} {t : List (Nat × SV)} {h : Heap} {i b n : Nat} {k : Blk} {rs : List ResultVar} {r : SV} (hi : look t i = .op b 0) (hk : h.find b = some k) (hn : n ≤ k.len)
    (hq : resL P ⟨(i, .fp (getN k 0 n)) :: t, []⟩ rs (fun vs => tupOf vs = r)) : retQ P rs (fun r' h' => r' = r ∧ h' = []) .ret ⟨t, h⟩ :=
  retQ_le ((St.le_freezeP hi hk (by omega)).trans St.le_drop) (resL_mono rs (fun _ x => ⟨x, rfl⟩) hq)
attribute [go_sem] eq_self decide_true decide_false and_true true_and List.getElem?_cons_zero List.getElem?_cons_succ setAll List.length_cons List.length_nil List.length_set List.getD_cons_zero List.getD_cons_succ Nat.le_refl Int.le_refl Nat.beq_refl or_self true_or or_true List.drop_zero Int.toNat_natCast
end Go.Ab
