import Derived.Test.YtpidncgibgiidaaGreatPB
set_option linter.unusedSimpArgs false
set_option linter.unusedVariables false
namespace Go.Ab.A15
open Go Go.Ab Go.Ab.A34 Go.Ab.A01
theorem woL_erase (l : List Int) (p : Nat) : woL l p = l.eraseIdx p := (List.eraseIdx_eq_take_drop_succ l p).symm
theorem shQ_shP (a b : Dp) : shQ a b = shP a b := by
  rw [Bool.eq_iff_iff]
  unfold shQ shP shN
  simp only [Bool.and_eq_true, decide_eq_true_eq, List.any_eq_true, mem_rg, List.mem_range]
  constructor
  · rintro ⟨h1, p, ⟨_, h2⟩, h3⟩
    subst h3
    exact ⟨rfl, rfl, h1.symm, p, h2, rfl, rfl⟩
  · rintro ⟨h1, h2, h3, p, h4, h5, h6⟩
    refine ⟨h3.symm, p, ⟨Nat.zero_le _, h4⟩, ?_⟩
    obtain ⟨a1, a2, a3, a4⟩ := a
    unfold woD
    simp only at h1 h2 h5 h6
    rw [h1, h2, h5, h6]
theorem mxP_eq (L : List Dp) : mxP L = maxP L := by
  unfold mxP maxP
  simp only [shQ_shP]
def Hld {α : Type} (z : α) (R : ByteArray → List (List α)) (t u : ByteArray) (a b : List Int) : Prop := ∀ x ∈ R t, ∃ y ∈ R u, Agr z a b x y
def valsAt (db : List Tb) (x : ByteArray) : List (List V3) := (rowsAt db x).map (·.2)
theorem hld_iff {db : List Tb} {d : Dp} : hldB db d = true ↔ vE db d = 0 ∧ Hld v0 (valsAt db) d.f d.t d.l d.r := by
  unfold hldB
  rw [Bool.and_eq_true, decide_eq_true_eq, List.isEmpty_iff, viol_nil]
  refine and_congr_right fun _ => ⟨fun h x hx => ?_, fun h x hx => ?_⟩
  · obtain ⟨r, hr, rfl⟩ := List.mem_map.1 hx
    obtain ⟨y, hy, e⟩ := h r hr
    exact ⟨y.2, List.mem_map.2 ⟨y, hy, rfl⟩, e⟩
  · obtain ⟨z, hz, e⟩ := h x.2 (List.mem_map.2 ⟨x, hx, rfl⟩)
    obtain ⟨y, hy, rfl⟩ := List.mem_map.1 hz
    exact ⟨y, hy, e⟩
theorem mem_all {db : List Tb} (h : Sm db) {d : Dp} : d ∈ allP db 6 0 ↔ CanD d ∧ hldB db d = true := by
  constructor
  · intro hd
    obtain ⟨a1, _, a3, _⟩ := all_mem h hd
    exact ⟨a1, a3⟩
  · rintro ⟨hc, hh⟩
    have F := (vE_fit h.chk).1 (hld_iff.1 hh).1
    obtain ⟨s, hs, es⟩ := List.mem_map.1 F.f
    obtain ⟨t, ht, et⟩ := List.mem_map.1 F.t
    obtain ⟨i, hi, rfl⟩ := List.mem_iff_getElem.1 hs
    obtain ⟨k, hk, rfl⟩ := List.mem_iff_getElem.1 ht
    have gi : db.getD i t0 = db[i] := by simp [List.getD_eq_getElem?_getD, hi]
    have gk : db.getD k t0 = db[k] := by simp [List.getD_eq_getElem?_getD, hk]
    obtain ⟨df, dl, dt, dr⟩ := d
    simp only at es et
    subst es et
    unfold allP rowP
    refine List.mem_flatMap.2 ⟨i, mem_rg.2 ⟨Nat.zero_le _, hi⟩, List.mem_flatMap.2 ⟨k, mem_rg.2 ⟨Nat.zero_le _, hk⟩, ?_⟩⟩
    unfold pairP
    rw [(srtD_perm _).mem_iff, List.mem_map]
    have hq : qB (db.getD i t0) (db.getD k t0) (decide ((i : Int) = (k : Int))) dl dr = true := by
      rw [← qR_iff h.chk hi hk]
      unfold qR
      rw [gi, gk, hh, Bool.and_true]
      simp only [hc, decide_true]
    have hl := q_len (qB_pq _ _ _) hq
    have := h.a3 _ (getD_mem' t0 hi)
    refine ⟨(dl, dr), (mem_ex (qB_pq _ _ _) (qB_nil _ _ _) 6 (dl, dr)).2 ⟨hq, by show dl.length ≤ 6; omega⟩, ?_⟩
    unfold mkD
    rw [gi, gk]
end Go.Ab.A15
