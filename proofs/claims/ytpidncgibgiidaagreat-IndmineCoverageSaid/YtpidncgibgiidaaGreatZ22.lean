/- The abstract layer, part Z22: regions that draw their order, where operations that make blocks may be taken late. -/
import Derived.Test.YtpidncgibgiidaaGreatZ18
set_option linter.unusedVariables false
set_option linter.unusedSectionVars false
set_option linter.unusedSimpArgs false
namespace Go.Ab
open Go.RowKit
section
variable {P : Program} {M : Nat → Prop} {w0 : World} {D : Nat → Prop} {N : Nat}
theorem Rel.perm [Gl] {S : St} {a : Act} {w : World} {h' : Heap} (hp : h'.Perm S.h) (hr : Rel M w0 D N S a w) : Rel M w0 D N ⟨S.t, h'⟩ a w :=
  St.le_sublist (t := S.t) (h := S.h) (fun x hx => hp.mem_iff.1 hx) (fun hn => (hp.map _).nodup_iff.2 hn) M w0 D N a w hr
/-! ### late operations -/
def isApp : Op → Bool
  | .call ⟨.builtin .append, ⟨[_, _]⟩, ⟨[_, _]⟩⟩ => true
  | _ => false
def fstOp (o : Oper) : Bool := o.guard.isNone && (newOp o.op || isApp o.op)
inductive OP where
  | done
  | nil
  | alt (i : Nat) (t r : OP)
  | fre (i : Nat) (W : List Nat) (t : OP)
  | fst (i : Nat) (W : List Nat) (t : OP)
def OP.heads : OP → List Nat
  | .alt i _ r => i :: r.heads
  | _ => []
def freeAllF (ops : List Oper) (oj : Oper) (W : List Nat) (l : Array Bool) : List Oper → Nat → Bool
  | [], _ => true
  | o :: r, j => (hasN W j || l.getD j true || (o.apart ops.toArray oj && newOp o.op && o.guard.isNone)) && freeAllF ops oj W l r (j + 1)
def fstOk (ops : List Oper) (i : Nat) (W : List Nat) (l : Array Bool) : Bool :=
  match ops[i]? with
  | none => false
  | some oi => fstOp oi && (Region.ready .any ops.toArray l).any (Nat.beq i) &&
    W.all (fun m => !l.getD m true && (Nat.beq m i || (match ops[m]? with
      | none => false
      | some om => om.after.any fun e => Region.binds .any e && hasN W e.on))) && freeAllF ops oi W l ops 0
def OP.root (ops : List Oper) (t : OP) (l : Array Bool) : Bool := match t with
  | .done => (Region.ready .any ops.toArray l).isEmpty
  | .nil => false
  | .fre i W _ => freOk ops i W l
  | .fst i W _ => fstOk ops i W l
  | t => Region.ready .any ops.toArray l == t.heads
def OP.chk (ops : List Oper) : OP → Nat → Array Bool → Bool
  | .alt i t r, 0, l => false
  | .alt i t r, f + 1, l => t.root ops (l.setIfInBounds i true) && t.chk ops f (l.setIfInBounds i true) && r.chk ops (f + 1) l
  | .fre i W t, 0, l => false
  | .fre i W t, f + 1, l => t.root ops (l.setIfInBounds i true) && t.chk ops f (l.setIfInBounds i true)
  | .fst i W t, 0, l => false
  | .fst i W t, f + 1, l => t.root ops (l.setIfInBounds i true) && t.chk ops f (l.setIfInBounds i true)
  | _, _, _ => true
end
end Go.Ab
