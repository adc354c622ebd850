/- The abstract layer, part Z7: calls that the model or the kit's shelf answers, and what the proofs of all seats share. -/
import Derived.Test.YtblfodnajpamfaaGreatDoorZ5
import Derived.Test.YtblfodnajpamfaaGreatDoorZ6
import Derived.Laws.Externs
import Derived.Laws.Bits64b
import Derived.Lib.LaidTab
import Derived.Lib.ItoaMem
import Derived.Lib.ItoaLen
import Derived.Lib.SmallJoins
import Derived.Lib.AppendIntMem
import Derived.Lib.ParseIntBTie
set_option linter.unusedSimpArgs false
set_option linter.unusedVariables false
set_option linter.unusedSectionVars false
namespace Go.Ab
open Go Go.RowKit
theorem rep_sc {E : Env} {v a : Value} (h : Rep E v (.sc a)) : v = a := by cases h; rfl
theorem reps1 {E : Env} {vs : Array Value} {a : Value} (h : Reps E vs [.sc a]) : vs = #[a] := by
  obtain ⟨h1, h2⟩ := h
  have h0 := h2 0 (by simp)
  apply Array.ext
  · simpa using h1
  · intro i hi hi2
    have : i = 0 := by simp at hi2; exact hi2
    subst this
    simp only [Array.getD, hi, dif_pos, List.getD_cons_zero] at h0
    simp only [List.getElem_toArray, List.getElem_cons_zero]
    have h0' : Rep E vs[0] (.sc a) := by simpa using h0
    exact rep_sc h0'
theorem tabIs_of [Gl] {P : Program} {w : World} {E : Env} {name : String} {k : IntKind} {zs : List Int} {g : Nat} (hn : P.globalNamed name = some g) (hg : Gl.gl g = .fp (zs.map fun z => .sc (.int k z))) (hs : Gl.sz g = some zs.length)
    (hgl : GlOk E) (hsee : ∀ a v, E.see a v → w.cell? a = some v) (hsz : ∀ b m, E.size b m → HasSize w b m) : Lib.TabIs P w name k zs := by
  obtain ⟨h1, h2⟩ := hgl g
  rw [hg] at h1
  obtain ⟨c, e, fr, hc, hcs, _⟩ := hsz g _ (h2 _ hs)
  unfold Lib.TabIs World.var?
  rw [hn]
  simp only [Option.bind_some, hc]
  congr 1
  cases h1 with
  | fp _ _ _ val hv hr =>
    apply Array.ext
    · simp [hcs]
    · intro i hi hi2
      have hi3 : i < zs.length := by omega
      have h3 := hsee _ _ (hv i (by simpa using hi3))
      have h4 := hr i (by simpa using hi3)
      simp [World.cell?, hc, hi] at h3
      rw [h3]
      have h5 : (zs.map fun z => SV.sc (Value.int k z)).getD i .any = .sc (.int k zs[i]) := by simp [List.getD_eq_getElem?_getD, hi3]
      rw [h5] at h4
      generalize val i = v at h4
      cases h4
      simp
section
variable {P : Program}
def ECall [Gl] (P : Program) (f : FuncId) (args : List SV) (Good : SV → Prop) : Prop := Ab.Call P f args [] (fun r h' => Good r ∧ h' = [])
theorem ECall.of_calls [Gl] {f : FuncId} {args : List SV} {Good : SV → Prop} (hbody : Body P f)
    (h : ∀ (w : World) (E : Env) (vs : Array Value), (∀ a v, E.see a v → w.cell? a = some v) → (∀ b m, E.size b m → HasSize w b m) → GlOk E → Reps E vs args →
      Calls P f vs w fun e w' => ∃ v r, e = .returned v ∧ Good r ∧ (∀ E', Rep E' v r) ∧ Below w.heap.size w w' ∧ w.drawn ≤ w'.drawn) : ECall P f args Good := by
  refine ⟨fun M w vs own hr => .inl ⟨hbody, (h w (envOf (hid M []) w) vs (fun a v x => x.2) (fun b m x => x) own.gl hr).mono fun e w' ⟨v, r, he, hg, hv, bel, dr⟩ => ?_⟩⟩
  have frm : Frm (Heap.has []) w w' := ⟨bel.size, fun b hb _ => bel.block b hb, fun b m ⟨c, e, fr, hb, hs⟩ => ⟨c, e, fr, by rw [bel.block b (lt_of_heap hb)]; exact hb, hs⟩, bel.os, bel.tape, bel.output, dr⟩
  have hle : (envOf (hid M []) w).le (envOf (hid M []) w') := env_le frm (fun b hb _ => by obtain ⟨k, hk⟩ := hb; cases hk) (fun _ _ x => x)
  exact ⟨v, r, [], he, ⟨hg, rfl⟩, hv _, ⟨own.nodup, own.notM, fun b hb => Nat.lt_of_lt_of_le (own.lt b hb) bel.size, fun b k hk _ => (by cases hk), fun b l hk => (by cases hk), own.gl.mono hle⟩, frm, fun b ⟨k, hk⟩ => by cases hk⟩
theorem ECall.use [Gl] {f : FuncId} {args : List SV} {Good : SV → Prop} {h : Heap} {Q : SV → Heap → Prop} (hc : ECall P f args Good) (hq : ∀ r, Good r → Q r h) : Ab.Call P f args h Q := by
  refine Call.mono (Call.frame (h1 := []) (h2 := h) hc) fun r h' ⟨h1, e, hg, hn⟩ => ?_
  subst hn
  rw [e]
  exact hq r hg
theorem ECall.mono [Gl] {f : FuncId} {args : List SV} {G G' : SV → Prop} (hc : ECall P f args G) (h : ∀ r, G r → G' r) : ECall P f args G' := Call.mono hc fun r _ hr => ⟨h r hr.1, hr.2⟩
end
abbrev Str (s : ByteArray) : SV := .sc (.string s)
def itoaS (n : Int) : ByteArray := ⟨(Lib.itoa n).toArray⟩
theorem barr_eq {a b : ByteArray} : ((a.toList == b.toList) = true) ↔ a = b := by
  rw [beq_iff_eq, ByteArray.toList_eq, ByteArray.toList_eq]
  constructor
  · intro h
    have h2 : a.data = b.data := Array.toList_inj.1 h
    cases a; cases b
    simp only at h2
    rw [h2]
  · intro h; rw [h]
end Go.Ab
