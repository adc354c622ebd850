/- The abstract layer, part Z7: calls that the model or the kit's shelf answers, and what the proofs of all seats share. -/
import Derived.Test.YtpidncgibgiidaaGreatZ5
import Derived.Test.YtpidncgibgiidaaGreatZ6
import Derived.Laws.Externs
import Derived.Laws.Bits64b
import Derived.Lib.LaidTab
import Derived.Lib.ItoaMem
import Derived.Lib.ItoaLen
import Derived.Lib.SmallJoins
import Derived.Lib.AppendIntMem
import Derived.Lib.ParseIntBTie
set_option linter.unusedSimpArgs false
set_option linter.unusedVariables false
set_option linter.unusedSectionVars false
namespace Go.Ab
open Go Go.RowKit
theorem rep_sc {E : Env} {v a : Value} (h : Rep E v (.sc a)) : v = a := by cases h; rfl
theorem reps2 {E : Env} {vs : Array Value} {a b : Value} (h : Reps E vs [.sc a, .sc b]) : vs = #[a, b] := by
  obtain ⟨h1, h2⟩ := h
  have h0 := h2 0 (by simp)
  have h3 := h2 1 (by simp)
  have hs : vs.size = 2 := by simpa using h1
  apply Array.ext
  · simpa using h1
  · intro i hi hi2
    have : i = 0 ∨ i = 1 := by omega
    rcases this with rfl | rfl
    · have h0' : Rep E vs[0] (.sc a) := by simpa [hi] using h0
      exact rep_sc h0'
    · have h0' : Rep E vs[1] (.sc b) := by simpa [hi] using h3
      exact rep_sc h0'
abbrev U64 (n : Int) : SV := .sc (.int .u64 n)
theorem u64w (n : Int) : IntKind.u64.wrap n = n % 18446744073709551616 := by
  have e : (2 : Int) ^ 64 = 18446744073709551616 := by decide
  show (if (false && decide (n % (2 : Int) ^ 64 ≥ (2 : Int) ^ 63)) = true then n % (2 : Int) ^ 64 - (2 : Int) ^ 64 else n % (2 : Int) ^ 64) = n % 18446744073709551616
  rw [e]; simp
theorem u64n {n : Int} (h0 : 0 ≤ n) (h1 : n < 18446744073709551616) : IntKind.u64.wrap n = n := by rw [u64w]; omega
theorem absw_neg {n : Int} (h0 : -9223372036854775808 ≤ n) (h1 : n < 0) : IntKind.u64.wrap (0 - IntKind.u64.wrap n) = (n.natAbs : Int) := by rw [u64w, u64w]; omega
theorem absw_pos {n : Int} (h0 : 0 ≤ n) (h1 : n ≤ 9223372036854775807) : IntKind.u64.wrap n = (n.natAbs : Int) := by rw [u64w]; omega
theorem bstr_bytes (l : List UInt8) : bstr (l.map fun x => (x.toNat : Int)) = ⟨l.toArray⟩ := by
  unfold bstr
  congr 2
  rw [List.map_map]
  conv => rhs; rw [← List.map_id l]
  refine List.map_congr_left fun x _ => ?_
  simp
section
variable {P : Program}
def ECall [Gl] (P : Program) (f : FuncId) (args : List SV) (Good : SV → Prop) : Prop := Ab.Call P f args [] (fun r h' => Good r ∧ h' = [])
theorem ECall.of_calls [Gl] {f : FuncId} {args : List SV} {Good : SV → Prop} (hbody : Body P f)
    (h : ∀ (w : World) (E : Env) (vs : Array Value), (∀ a v, E.see a v → w.cell? a = some v) → (∀ b m, E.size b m → HasSize w b m) → GlOk E → Reps E vs args →
      Calls P f vs w fun e w' => ∃ v r, e = .returned v ∧ Good r ∧ (∀ E', Rep E' v r) ∧ Below w.heap.size w w' ∧ w.drawn ≤ w'.drawn) : ECall P f args Good := by
  refine ⟨fun M w vs own hr => .inl ⟨hbody, (h w (envOf (hid M []) w) vs (fun a v x => x.2) (fun b m x => x) own.gl hr).mono fun e w' ⟨v, r, he, hg, hv, bel, dr⟩ => ?_⟩⟩
  have frm : Frm (Heap.has []) w w' := ⟨bel.size, fun b hb _ => bel.block b hb, fun b m ⟨c, e, fr, hb, hs⟩ => ⟨c, e, fr, by rw [bel.block b (lt_of_heap hb)]; exact hb, hs⟩, bel.os, bel.tape, bel.output, dr⟩
  have hle : (envOf (hid M []) w).le (envOf (hid M []) w') := env_le frm (fun b hb _ => by obtain ⟨k, hk⟩ := hb; cases hk) (fun _ _ x => x)
  exact ⟨v, r, [], he, ⟨hg, rfl⟩, hv _, ⟨own.nodup, own.notM, fun b hb => Nat.lt_of_lt_of_le (own.lt b hb) bel.size, fun b k hk _ => (by cases hk), fun b l hk => (by cases hk), own.gl.mono hle⟩, frm, fun b ⟨k, hk⟩ => by cases hk⟩
theorem ECall.use [Gl] {f : FuncId} {args : List SV} {Good : SV → Prop} {h : Heap} {Q : SV → Heap → Prop} (hc : ECall P f args Good) (hq : ∀ r, Good r → Q r h) : Ab.Call P f args h Q := by
  refine Call.mono (Call.frame (h1 := []) (h2 := h) hc) fun r h' ⟨h1, e, hg, hn⟩ => ?_
  subst hn
  rw [e]
  exact hq r hg
theorem ECall.mono [Gl] {f : FuncId} {args : List SV} {G G' : SV → Prop} (hc : ECall P f args G) (h : ∀ r, G r → G' r) : ECall P f args G' := Call.mono hc fun r _ hr => ⟨h r hr.1, hr.2⟩
end
abbrev Str (s : ByteArray) : SV := .sc (.string s)
theorem barr_eq {a b : ByteArray} : ((a.toList == b.toList) = true) ↔ a = b := by
  rw [beq_iff_eq, ByteArray.toList_eq, ByteArray.toList_eq]
  constructor
  · intro h
    have h2 : a.data = b.data := Array.toList_inj.1 h
    cases a; cases b
    simp only at h2
    rw [h2]
  · intro h; rw [h]
end Go.Ab
