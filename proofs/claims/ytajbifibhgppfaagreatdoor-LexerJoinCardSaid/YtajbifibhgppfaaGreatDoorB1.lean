/- Contracts of the library: FormatInt, ParseInt, Compare, HasPrefix. -/
import Derived.Test.YtajbifibhgppfaaGreatDoorTab
import Derived.Test.YtajbifibhgppfaaGreatDoorChecked
import Derived.Test.YtajbifibhgppfaaGreatDoorZ7
import Derived.Test.YtajbifibhgppfaaGreatDoorS1
set_option linter.unusedSimpArgs false
set_option linter.unusedVariables false
set_option linter.unusedSectionVars false
namespace Go.Proofs.YtajbifibhgppfaaGreatDoor
open Go Go.Ab

def In64 (n : Int) : Prop := -9223372036854775808 ≤ n ∧ n ≤ 9223372036854775807

theorem g_tab : Tryz.prog.globalNamed "internal/strconv.uint64pow10" = some 2 := by kernel_rfl
theorem g_es : Tryz.prog.globalNamed "strconv.ErrSyntax" = some 3 := by kernel_rfl
theorem g_er : Tryz.prog.globalNamed "strconv.ErrRange" = some 4 := by kernel_rfl

/-- What the package-level variables hold. -/
class Tabs [Gl] : Prop where
  gt : Gl.gl 2 = .fp (Lib.pow10Tab.map fun z => .sc (.int .u64 z))
  st : Gl.sz 2 = some 20
  gs : ∃ a b, Gl.gl 3 = .fp [.sc (.iface a b)]
  gr : ∃ a b, Gl.gl 4 = .fp [.sc (.iface a b)]

variable [Gl] [Tabs]

theorem fmtInt_c (n : Int) (h : In64 n) : PCall Tryz.prog 49 [I64 n, I64 10] (Str (itoaS n)) :=
  PCall.of_calls ⟨_, Tryz.func49, by kernel_rfl, by kernel_rfl⟩ fun w E vs h3 h4 h5 hr => by
    obtain rfl := reps2 hr
    refine (Tryz.strconv_FormatInt_10 n h.1 h.2 w (tabIs_of g_tab Tabs.gt (by rw [Tabs.st, Lib.pow10Tab_length]) h5 h3 h4)).mono fun e w' ⟨he, k, os, hw⟩ => ⟨_, he, fun _ => .sc _, ?_⟩
    rw [hw]
    exact Lib.below_grow _ w (Nat.le_refl _) k os



theorem hasPrefix_c (a b : ByteArray) : PCall Tryz.prog 42 [Str a, Str b] (SB (Lib.hasPrefix a.data.toList b.data.toList)) :=
  PCall.of_calls ⟨_, Tryz.func42, by kernel_rfl, by kernel_rfl⟩ fun w E vs _ _ _ hr => by
    obtain rfl := reps2 hr
    exact (Tryz.strings_HasPrefix a b w).mono fun e w' ⟨he, hw⟩ => ⟨_, he, fun _ => .sc _, by rw [hw]; exact RowKit.Below.refl _ _⟩

/-- ParseInt: the number, and an error that is nil exactly where the text is one. -/
theorem parseInt_c (s : ByteArray) (hs : s.size ≤ 281474976710656) : ECall Tryz.prog 69 [Str s, I64 10, I64 64] (fun r => ∃ e, r = .tup [I64 (pintV s), .sc e]) :=
  ECall.of_calls ⟨_, Tryz.func69, by kernel_rfl, by kernel_rfl⟩ fun w E vs h3 h4 h5 hr => by
    obtain rfl := reps3 hr
    obtain ⟨a4, b4, e4⟩ := Tabs.gs
    obtain ⟨a5, b5, e5⟩ := Tabs.gr
    have v4 := var_of e4 h5 h3
    have v5 := var_of e5 h5 h3
    unfold pintV
    cases hp : Lib.parseIntB 64 s.data.toList with
    | ok v =>
      refine (Tryz.strconv_ParseInt_10_at64_ok s (by omega) v hp w).mono fun e w' ⟨he, hw⟩ => ⟨_, _, he, ⟨_, rfl⟩, fun _ => rep_tup2 _ _, ?_⟩
      rcases hw with rfl | ⟨t, rfl⟩
      · exact RowKit.Below.refl _ _
      · exact Joins.below_bytesWorld _ _ _ _ (Nat.le_refl _)
    | range => exact (Tryz.strconv_ParseInt_10_at64_range s hs hp _ w v5 (.inr ⟨a5, b5, rfl⟩)).mono fun e w' ⟨N, he, _, _, bel⟩ => ⟨_, _, he, ⟨_, rfl⟩, fun _ => rep_tup2 _ _, bel⟩
    | _ => exact (Any.strconv_ParseInt_10_at64_syntax Tryz.laysC174 s hs hp _ w v4 (.inr ⟨a4, b4, rfl⟩)).mono fun e w' ⟨N, he, _, _, bel⟩ => ⟨_, _, he, ⟨_, rfl⟩, fun _ => rep_tup2 _ _, bel⟩
end Go.Proofs.YtajbifibhgppfaaGreatDoor
