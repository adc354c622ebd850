/- Several texts in one: DJ, DK, DL, DN, W2, W1, DO, DM, W3. -/
import Derived.Test.YtblfodnajpamfaaGreatDoorQ4
import Derived.Test.YtblfodnajpamfaaGreatDoorZ10
import Derived.Test.YtblfodnajpamfaaGreatDoorZ19
import Derived.Test.YtblfodnajpamfaaGreatDoorS2
import Derived.Test.YtblfodnajpamfaaGreatDoorS3
import Derived.Test.YtblfodnajpamfaaGreatDoorZ15
import Derived.Test.YtblfodnajpamfaaGreatDoorQ3
set_option linter.unusedSimpArgs false
set_option linter.unusedVariables false
set_option linter.unusedSectionVars false
set_option maxHeartbeats 4000000
set_option maxRecDepth 20000
namespace Go.Ab
open Go Go.RowKit
theorem SW.nd [Gl] {P : Program} {N : Nat} {c : Code} {Q : Exit → St → Prop} {S : St} (h : (S.h.map (·.1)).Nodup → SW P N c Q S) : SW P N c Q S := ⟨fun M w0 D a w hr => (h hr.own.nodup).run M w0 D a w hr⟩
end Go.Ab
namespace Go.Ab.A15
open Go Go.Ab Go.Ab.A34
theorem him_step {f t i : Nat} {wl wl2 : List Wt} {F : List Int → List Int} (hb : Beg wl wl2) (h : ∀ j, j < i → F ((wl.getD f w0).2.getD j []) ∈ (wl.getD t w0).2) (hil : i < (wl.getD f w0).2.length) (hn : F ((wl.getD f w0).2.getD i []) ∈ (wl2.getD t w0).2) : ∀ j, j < i + 1 → F ((wl2.getD f w0).2.getD j []) ∈ (wl2.getD t w0).2 := fun j hj => by
  obtain ⟨s, hs⟩ := hb f
  have e : (wl2.getD f w0).2.getD j [] = (wl.getD f w0).2.getD j [] := by
    rw [← hs, List.getD_eq_getElem?_getD, List.getElem?_append_left (by omega), ← List.getD_eq_getElem?_getD]
  rw [e]
  rcases Nat.lt_or_eq_of_le (Nat.lt_succ_iff.1 hj) with h1 | h1
  · exact (hb t).subset (h j h1)
  · rw [h1]; exact hn
end Go.Ab.A15
namespace Go.Proofs.YtblfodnajpamfaaGreatDoor
open Go Go.Ab Go.Ab.A34 Go.Ab.A15
variable [Gl] [Tabs]
theorem grow_w (wb rb : Nat) (ts : List Tb) (z : Int) (ws : List Wt) (d : Dp) (f t : Nat) (C : Nat → List Int → Prop)
    (hI0 : WI C ws z) (hN : ts.length = ws.length) (hNN : ws.length ≤ 1000) (hz : z ≤ 100000) (hf : f < ws.length) (ht : t < ws.length) (ef : tabI d.f 0 ts = f) (et : tabI d.t 0 ts = t)
    (hlr : d.l.length = d.r.length) (hrl : d.r.length ≤ 1000) (hrn : d.r.Nodup) (hnt : (ts.getD t t0).attrs.length ≤ 1000) (hra : ∀ a ∈ d.r, 0 ≤ a ∧ a < (ts.getD t t0).attrs.length)
    (hCl : ∀ r, C f r → ∀ a ∈ d.l, 0 ≤ a ∧ a < r.length) (hCn : ∀ s r, C s r → r.length ≤ 1000) (hcl : ∀ r, C f r → C t (imgR (ts.getD t t0).attrs.length d r)) :
    Ab.Call Tryz.prog 49 [.op wb 0, DV d] (WH wb rb (TL ts) z ws) (fun r h' => ∃ ws' z' g, r = SB g ∧ h'.Perm (WH wb rb (TL ts) z' ws') ∧ WI C ws' z' ∧ ws'.length = ws.length ∧ Beg ws ws' ∧
      (g = false → z' = z ∧ ws' = ws ∧ (z ≤ 400 → ∀ r ∈ (ws.getD f w0).2, imgR (ts.getD t t0).attrs.length d r ∈ (ws.getD t w0).2)) ∧ (g = true → z < z') ∧ (z' ≤ z ∨ z' ≤ 401)) := by
  have cf := find_p d.f ts ts.length (by omega) rfl (tF ts) (fun i hi => rfl)
  have ct := find_p d.t ts ts.length (by omega) rfl (tF ts) (fun i hi => rfl)
  rw [ef] at cf
  rw [et] at ct
  have ft : tF ts t = tC (ts.getD t t0) := rfl
  have tts : ((t : Nat) : Int) < ((ts.length : Nat) : Int) := by omega
  have tw : ((t : Nat) : Int) < ((ws.length : Nat) : Int) := by omega
  have fw : ((f : Nat) : Int) < ((ws.length : Nat) : Int) := by omega
  have te : ((t : Nat) : Int).toNat = t := Int.toNat_natCast _
  have fe : ((f : Nat) : Int).toNat = f := Int.toNat_natCast _
  have t0q : (0 : Int) ≤ ((t : Nat) : Int) := by omega
  have f0q : (0 : Int) ≤ ((f : Nat) : Int) := by omega
  obtain ⟨df, dl, dt, dr⟩ := d
  generalize ts.getD t t0 = tt at *
  obtain ⟨tn, ta, tr⟩ := tt
  simp only at cf ct hlr hrl hrn hra hCl hcl hnt ⊢
  refine Call.nd fun hnd => ?_
  have hw1 : ¬ wb = rb := by
    unfold WH at hnd
    simp only [List.map_cons, List.nodup_cons, List.mem_cons, not_or] at hnd
    exact hnd.1.1
  have hw2 : ¬ rb = wb := fun h => hw1 h.symm
  clear hnd
  unfold WH
  refine Call.enter' (N := 89) (rs := [.tmp 4]) Tryz.func49 rfl rfl rfl (by decide) rfl ?_; simp only [argT]; have hD : (0 : Nat) = 0 := rfl
  clear hD
  have hD := And.intro (eq_false hw1) (eq_false hw2)
  refine SW.seq_k fun K0 hK0 => ?_
  refine SW.region ?_
  simp only [go_sem, hD]
  refine allF_i fun db hb => ?_
  simp only [fresh_cons, and_true, ne_eq, neF] at hb
  try simp only [go_sem, hD]
  refine hK0 _ ?_
  clear hK0 K0 hb
  refine Ab.SW.le (St.le_freezeP (i := 3) (n := 4) rfl (by rw [find_cons, if_pos rfl]) (by exact Nat.le_refl 4)) ?_
  rw [del_head]
  simp only [getN, Blk.get]
  repeat' first | (refine SW.seq_k fun K hK => ?_) | (refine SW.block ?_) | ((first | refine SW.region ?_ | refine SW.regionZ (id := 1) (Checked.mixed Tryz.checked) ((.one 0 [0, 1, 2, 3, 6, 13, 14, 15] (.one 1 [1, 2, 3, 6, 13, 14, 15] (.one 2 [2, 3, 6, 13, 14, 15] (.one 3 [3, 6, 13, 14, 15] (.one 4 [4, 5, 6, 13, 14, 15] (.one 5 [5, 6, 13, 14, 15] (.one 6 [6, 13, 14, 15] (.one 7 [7, 8, 9, 10, 13, 14, 15] (.one 8 [8, 9, 10, 13, 14, 15] (.one 9 [9, 10, 13, 14, 15] (.one 10 [10, 13, 14, 15] (.one 11 [11, 12, 13, 14, 15] (.one 12 [12, 13, 14, 15] (.one 13 [13, 14, 15] (.one 14 [14, 15] (.one 15 [15] .done)))))))))))))))) : OZ) (by kernel_rfl) ?_ | refine ⟨_, cf, ?_⟩ | refine ⟨_, ct, ?_⟩); try simp only [go_sem, hD, te, fe, t0q, f0q, tts, true_implies]) | (apply hK; clear hK K)
  have hb0 : ∀ (w' : List Wt) (s : Nat), s < w'.length → (w'.map wc).getD s .any = wc (w'.getD s w0) := fun w' s hs => by simp [List.getD_eq_getElem?_getD, hs]
  obtain ⟨I, hI⟩ : ∃ I : Nat → St → Prop, ∀ k S, I k S ↔ (∃ (i : Nat) (zz : Int) (wl : List Wt) (g : Bool), k = 402 - i ∧ i ≤ 402 ∧ WI C wl zz ∧ wl.length = ws.length ∧ Beg ws wl ∧ i ≤ (wl.getD f w0).2.length ∧ (∀ j, j < i → imgR ta.length ⟨df, dl, dt, dr⟩ ((wl.getD f w0).2.getD j []) ∈ (wl.getD t w0).2) ∧ (g = false → zz = z ∧ wl = ws) ∧ (g = true → z < zz) ∧ (zz ≤ z ∨ zz ≤ 401) ∧ S = ⟨[(0, .op wb 0), (3, .fp (dC ⟨df, dl, dt, dr⟩)), (4, SB false), (5, I64 f), (6, I64 t), (7, SB g), (8, I64 i)], (wb, .svs [TL ts, .os rb 0 wl.length 1, I64 zz]) :: (rb, .svs (wl.map wc)) :: wB wl⟩) := ⟨fun k S => _, fun _ _ => Iff.rfl⟩
  refine SW.loop' I (402) ((hI _ _).2 ⟨0, z, ws, false, rfl, Nat.zero_le _, hI0, rfl, Beg.refl _, Nat.zero_le _, (fun j hj => absurd hj (Nat.not_lt_zero _)), (fun _ => ⟨rfl, rfl⟩), (fun h => by cases h), .inl (Int.le_refl _), rfl⟩) (by repeat' (first | exact rfl | exact trivial | constructor)) ?_
  intro k S hIn
  obtain ⟨i, zz, wl, g, rfl, hi, hWI, hL, hBg, hil, him, hg0, hg1, hzm, rfl⟩ := (hI _ _).1 hIn
  clear hIn
  have ie : ((i : Nat) : Int).toNat = i := Int.toNat_natCast _
  have i0 : (0 : Int) ≤ ((i : Nat) : Int) := by omega
  refine SW.nd fun hnd => ?_
  simp only [List.map_cons, List.nodup_cons, List.mem_cons, not_or] at hnd
  obtain ⟨⟨_, hwb⟩, hrb, hnB⟩ := hnd
  have hcf := hb0 wl f (by omega)
  have hct := hb0 wl t (by omega)
  have hfB := find_wB (s := f) hnB (by omega)
  have hlf := len_tot (ws := wl) (s := f) (by omega)
  have hzt := hWI.z
  have zf : 0 + f * 1 = f := by omega
  have zt : 0 + t * 1 = t := by omega
  have lcs : (wl.map wc).length = wl.length := List.length_map _
  have fl : f < wl.length := by omega
  have fl1 : ((f : Nat) : Int) < ((wl.length : Nat) : Int) := by omega
  have hnf : ∀ e : Wt, e ∈ wl → ¬ e.2 = [] → ¬ e.1 = wb ∧ ¬ e.1 = rb := fun e he h0 => by
    have : e.1 ∈ (wB wl).map (·.1) := by
      unfold wB
      rw [List.map_flatMap, List.mem_flatMap]
      exact ⟨e, he, by unfold wb1; rw [if_neg h0]; simp⟩
    exact ⟨fun h => hwb (by rw [← h]; exact this), fun h => hrb (by rw [← h]; exact this)⟩
  have hfin : (¬ i < (wl.getD f w0).2.length ∨ ¬ zz ≤ 400) → (g = false → zz = z ∧ wl = ws ∧ (z ≤ 400 → ∀ r ∈ (ws.getD f w0).2, imgR ta.length ⟨df, dl, dt, dr⟩ r ∈ (ws.getD t w0).2)) := fun hx hg => by
    obtain ⟨e1, e2⟩ := hg0 hg
    refine ⟨e1, e2, fun h4 r hr => ?_⟩
    rw [← e2] at hr ⊢
    obtain ⟨j, hj, rfl⟩ := List.getElem_of_mem hr
    have := him j (by omega)
    have e5 : (wl.getD f w0).2.getD j [] = (wl.getD f w0).2[j] := by rw [List.getD_eq_getElem?_getD, List.getElem?_eq_getElem hj]; rfl
    rw [e5] at this
    exact this
  by_cases h0 : (wl.getD f w0).2 = []
  · have hw : wc (wl.getD f w0) = SN := if_pos h0
    rw [hw] at hcf
    have hi0 : i = 0 := by rw [h0] at hil; simpa using hil
    subst hi0
    have hp := hfin (.inl (by rw [h0]; simp))
    repeat' first | (refine SW.seq_k fun K hK => ?_) | ((first | refine SW.region ?_ | refine SW.cond ?_ | refine SW.exit ?_ | refine SW.ret ?_); try simp only [go_sem, hD, te, fe, t0q, f0q, hcf, zf, lcs, fl, fl1, true_implies]) | (refine ifI (fun hc => ?_) (fun hc => ?_) <;> first | (exfalso; omega) | skip) | (apply hK; clear hK K) | (clear hK K; apply hK; clear hK K)
    all_goals
      refine retQ_le (fun M w0 D N a w r => r) ?_
      simp only [resL_tmp, resL_nil, tupOf, go_sem, hD]
      exact ⟨wl, zz, g, rfl, List.Perm.refl _, hWI, hL, hBg, hp, hg1, hzm⟩
  · have hwc : wc (wl.getD f w0) = .os (wl.getD f w0).1 0 (wl.getD f w0).2.length 1 := if_neg h0
    rw [hwc] at hcf
    have hfB := hfB h0
    by_cases hlt : i < (wl.getD f w0).2.length ∧ zz ≤ 400
    · obtain ⟨hlt, hz4⟩ := hlt
      have hli : ((i : Nat) : Int) < (((wl.getD f w0).2.length : Nat) : Int) := by omega
      have w1 : IntKind.i64.wrap ((i : Int) + 1) = ((i + 1 : Nat) : Int) := by rw [i64_wrap (by omega) (by omega)]; omega
      have tan : ((ta.length : Nat) : Int).toNat = ta.length := Int.toNat_natCast _
      have ta0 : (0 : Int) ≤ ((ta.length : Nat) : Int) := by omega
      have ta8 : ((ta.length : Nat) : Int) * 8 ≤ 140737488355328 := by omega
      repeat' first | (with_reducible refine And.intro (by omega) ?_) | (refine SW.seq_k fun K hK => ?_) | (refine SW.block ?_) | ((first | refine SW.region ?_ | refine SW.cond ?_ | refine SW.skip ?_ | (refine allF_i fun b hb => ?_; replace hD := And.intro hb hD; clear hb; try simp only [fresh_cons, fresh_nil, and_true, ne_eq, neF] at hD)); try simp only [go_sem, hD, te, fe, t0q, f0q, hcf, zf, lcs, fl, fl1, hli, hz4, ft, tts, tan, ta0, ta8, true_implies]) | (apply hK; clear hK K)
      obtain ⟨nb, rfl⟩ : ∃ x, x = b := ⟨_, rfl⟩
      have hfr : fresh (wB wl) nb := hD.1.2.2
      have hem : wl.getD f w0 ∈ wl := getD_mem' w0 (by omega)
      obtain ⟨nf1, nf2⟩ := hnf _ hem h0
      have hnbf := fresh_ne_find hfr hfB
      have hrC := hWI.c f (by omega) _ (getD_mem' [] hlt)
      obtain ⟨e, he⟩ : ∃ e, e = wl.getD f w0 := ⟨_, rfl⟩
      rw [← he] at hcf hfB hlt hli h0 nf1 nf2 hnbf hrC
      have hri : (wl.getD f w0).2.getD i [] = e.2.getD i [] := by rw [← he]
      have hil2 : i < (wl.getD f w0).2.length := by rw [← he]; exact hlt
      obtain ⟨bf, L⟩ := e
      simp only at hri hcf hfB hlt hli h0 nf1 nf2 hnbf hrC
      have hrl := hCl _ hrC
      have hrn2 := hCn _ _ hrC
      have hlg : (gC L).length = L.length := List.length_map _
      have hlb : L.length ≤ tot wl := by rw [← he] at hlf; exact hlf
      have hgi := gC_get hlt
      have himg := hcl _ hrC
      have hpz := parV_zero ta.length dr (fun k => (L.getD i []).getD (dl.getD k 0).toNat 0)
      have hpi := parV_img (n := ta.length) (d := ⟨df, dl, dt, dr⟩) (r := L.getD i [])
      try simp only at hpi
      have hps := fun m (h : m < dr.length) => parV_succ (n := ta.length) (v := fun k => (L.getD i []).getD (dl.getD k 0).toNat 0) hrn h (hra _ (getD_mem' 0 h))
      have hpl := fun m => parV_len ta.length dr (fun k => (L.getD i []).getD (dl.getD k 0).toNat 0) m
      try simp only at hps
      rw [← hpz]
      have hv : ∀ m, (fun k => (L.getD i []).getD (dl.getD k 0).toNat 0) m = (L.getD i []).getD (dl.getD m 0).toNat 0 := fun m => rfl
      generalize (fun k => (L.getD i []).getD (dl.getD k 0).toNat 0) = v at *
      generalize L.getD i [] = r at *
      have zi : 0 + i * 1 = i := by omega
      have nf3 : ¬ wb = bf := Ne.symm nf1
      have nf4 : ¬ rb = bf := Ne.symm nf2
      have hnbg : ¬ bf = nb := Ne.symm hnbf
      have hD2 := And.intro hD (And.intro (And.intro (eq_false nf1) (eq_false nf3)) (And.intro (And.intro (eq_false nf2) (eq_false nf4)) (And.intro (eq_false hnbf) (eq_false hnbg))))
      clear hD
      have hD := hD2
      have hIO := hI
      have ow1 := w1
      have oi0 := i0
      have oie := ie
      have oli := hli
      clear hI hD2
      obtain ⟨I, hI⟩ : ∃ I : Nat → St → Prop, ∀ k S, I k S ↔ (∃ (m : Nat) , k = dr.length - m ∧ m ≤ dr.length ∧ S = ⟨[(0, .op wb 0), (3, .fp (dC ⟨df, dl, dt, dr⟩)), (4, SB false), (5, I64 f), (6, I64 t), (7, SB g), (8, I64 i), (9, .os nb 0 ta.length 1), (56, IL dr), (57, I64 dr.length), (58, I64 m)], (nb, .ints .i64 (parV ta.length dr v m)) :: (wb, .svs [TL ts, .os rb 0 wl.length 1, I64 zz]) :: (rb, .svs (wl.map wc)) :: wB wl⟩) := ⟨fun k S => _, fun _ _ => Iff.rfl⟩
      refine SW.loop' I (dr.length) ((hI _ _).2 ⟨0, rfl, Nat.zero_le _, rfl⟩) (by repeat' (first | exact rfl | exact trivial | constructor)) ?_
      intro k S hIn
      obtain ⟨m, rfl, hi, rfl⟩ := (hI _ _).1 hIn
      clear hIn
      have ie : ((m : Nat) : Int).toNat = m := Int.toNat_natCast _
      have i0 : (0 : Int) ≤ ((m : Nat) : Int) := by omega
      by_cases hlm : m < dr.length
      · have hli : ((m : Nat) : Int) < (((dr.length) : Nat) : Int) := by omega
        have w1 : IntKind.i64.wrap ((m : Int) + 1) = ((m + 1 : Nat) : Int) := by rw [i64_wrap (by omega) (by omega)]; omega
        have fm : iF dr m = [I64 (dr.getD m 0)] := rfl
        have mdl : ((m : Nat) : Int) < ((dl.length : Nat) : Int) := by omega
        have fdl : iF dl m = [I64 (dl.getD m 0)] := rfl
        have hx := hrl _ (getD_mem' 0 (show m < dl.length by omega))
        have ha := hra _ (getD_mem' 0 hlm)
        have hvm := hv m
        have hpm := hps m hlm
        have hplm := hpl m
        generalize dl.getD m 0 = x at *
        generalize dr.getD m 0 = a at *
        obtain ⟨x0, x1⟩ := hx
        obtain ⟨a0, a1⟩ := ha
        have fr : iF r x.toNat = [I64 (v m)] := by rw [hvm]; rfl
        have za : 0 + a.toNat * 1 = a.toNat := by omega
        have at1 : a.toNat < ta.length := by omega
        repeat' first | (with_reducible refine And.intro (by omega) ?_) | (refine SW.seq_k fun K hK => ?_) | (refine SW.block ?_) | ((first | refine SW.region ?_ | refine SW.regionZ (id := 10) (Checked.mixed Tryz.checked) ((.one 0 [0, 19, 20] (.one 1 [1, 19, 20] (.one 2 [2, 3, 4, 5, 7, 8, 10, 11, 17, 18, 19, 20] (.one 3 [3, 4, 5, 7, 8, 10, 11, 17, 18, 19, 20] (.one 4 [4, 5, 7, 8, 10, 11, 17, 18, 19, 20] (.one 5 [5, 7, 8, 10, 11, 17, 18, 19, 20] (.one 6 [6, 7, 8, 10, 11, 17, 18, 19, 20] (.one 7 [7, 8, 10, 11, 17, 18, 19, 20] (.one 8 [8, 10, 11, 17, 18, 19, 20] (.one 9 [9, 10, 11, 17, 18, 19, 20] (.one 10 [10, 11, 17, 18, 19, 20] (.one 11 [11, 17, 18, 19, 20] (.one 12 [12, 13, 15, 16, 17, 18, 19, 20] (.one 13 [13, 15, 16, 17, 18, 19, 20] (.one 14 [14, 15, 16, 17, 18, 19, 20] (.one 15 [15, 16, 17, 18, 19, 20] (.one 16 [16, 17, 18, 19, 20] (.one 17 [17, 18, 19, 20] (.one 18 [18, 19, 20] (.one 19 [19, 20] (.alt 20 .done .nil))))))))))))))))))))) : OZ) (by kernel_rfl) ?_ | refine SW.cond ?_ | refine SW.skip ?_); try simp only [go_sem, hD, hli, ie, i0, w1, te, fe, t0q, f0q, hcf, zf, lcs, fl, fl1, oli, oi0, oie, fm, mdl, fdl, x0, x1, a0, a1, fr, za, hfB, hgi, hlg, zi, hlt, hplm, at1, true_implies]) | (apply hK; clear hK K)
        all_goals
          rw [hvm, hpm]
          refine Rnd.sub (dr.length - (m + 1)) (by omega) ((hI _ _).2 ⟨m + 1, rfl, by omega, rfl⟩) (by repeat' (first | exact rfl | exact trivial | constructor))
      · have hli : ¬ ((m : Nat) : Int) < (((dr.length) : Nat) : Int) := by omega
        obtain rfl : m = dr.length := by omega
        have hpl2 := hpl dr.length
        rw [hpi] at hpl2 ⊢
        obtain ⟨R, hR⟩ : ∃ R, R = imgR ta.length ⟨df, dl, dt, dr⟩ r := ⟨_, rfl⟩
        rw [← hR] at hpl2 himg ⊢
        have hD := hD.1.2
        refine Ab.SW.le (St.le_ints (i := 9) .i64 R rfl hpl2.symm (by rw [find_cons, if_pos rfl]) rfl) ?_
        rw [del_head]
        obtain ⟨A, e2, D, hwl, hA⟩ := split_at (ws := wl) (t := t) (by omega)
        have hlt2 := len_tot (ws := wl) (s := t) (by omega)
        have hge : wl.getD t w0 = e2 := by rw [hwl, ← hA, mid_get A D e2 e2, if_pos rfl]
        have hct2 := hWI.c t (by omega)
        rw [hge] at hlt2 hct2
        obtain ⟨b2, L2⟩ := e2
        simp only at hlt2 hct2
        have ca := add_w wb rb (TL ts) zz A D b2 L2 R (by omega) (by omega) (by omega) (fun r hr => by have := hCn t r (hct2 r hr); omega) (by rw [← hwl]; omega)
        rw [hA, ← hwl] at ca
        have eWH : WH wb rb (TL ts) zz wl = (wb, .svs [TL ts, .os rb 0 wl.length 1, I64 zz]) :: (rb, .svs (wl.map wc)) :: wB wl := rfl
        rw [eWH] at ca
        repeat' first | ((refine Call.mono ca ?_); (intro r' h' hx); (refine stop_i ?_)) | (refine SW.seq_k fun K hK => ?_) | ((first | refine SW.region ?_ | refine SW.cond ?_ | refine SW.exit ?_); try simp only [go_sem, hD, hli, true_implies]) | (apply hK; clear hK K) | (clear hK K; apply hK; clear hK K)
        refine Stop.mk ?_
        have hii : i + 1 ≤ 402 := by omega
        rcases hx with ⟨hm, rfl, hp⟩ | ⟨hm, rfl, b', hp⟩
        · apply hK
          clear hK K
          refine Ab.SW.le (St.le_perm hp.symm) ?_
          have hst := him_step (F := imgR ta.length ⟨df, dl, dt, dr⟩) (Beg.refl wl) him hil2 (by rw [hri, ← hR, hge]; exact hm)
          repeat' first | ((first | refine SW.region ?_ | refine SW.cond ?_ | refine SW.skip ?_); try simp only [go_sem, hD, ow1, true_implies]) | (apply hK; clear hK K)
          all_goals
            refine Rnd.sub (402 - (i + 1)) (by omega) ((hIO _ _).2 ⟨i + 1, zz, wl, g, rfl, hii, hWI, hL, hBg, hil2, hst, hg0, hg1, hzm, rfl⟩) (by repeat' (first | exact rfl | exact trivial | constructor))
        · have hWI2 := WI.add (C := C) (A := A) (D := D) (e := (b2, L2)) (b := b') (row := R) (by rw [← hwl]; exact hWI) hm (by rw [hA]; exact himg)
          have hB2 : Beg wl (A ++ (b', L2 ++ [R]) :: D) := by rw [hwl]; exact Beg.add A D (b2, L2) b' R
          have hN2 : (A ++ (b', L2 ++ [R]) :: D).length = ws.length := by rw [← hL, hwl]; simp
          have hge2 : (A ++ (b', L2 ++ [R]) :: D).getD t w0 = (b', L2 ++ [R]) := by rw [← hA, mid_get A D (b', L2 ++ [R]) (b', L2 ++ [R]), if_pos rfl]
          have hst := him_step (F := imgR ta.length ⟨df, dl, dt, dr⟩) hB2 him hil2 (by rw [hri, ← hR, hge2]; simp)
          have hil3 : i + 1 ≤ ((A ++ (b', L2 ++ [R]) :: D).getD f w0).2.length := Nat.le_trans hil2 (hB2 f).length_le
          have hz41 : zz + 1 ≤ 401 := by omega
          have hzz : z < zz + 1 := by
            cases g with
            | false => have := (hg0 rfl).1; omega
            | true => have := hg1 rfl; omega
          apply hK
          clear hK K
          refine Ab.SW.le (St.le_perm hp.symm) ?_
          have hBg2 := hBg.trans hB2
          simp only at hWI2
          generalize A ++ (b', L2 ++ [R]) :: D = wl2 at *
          unfold WH
          repeat' first | ((first | refine SW.region ?_ | refine SW.cond ?_); try simp only [go_sem, hD, ow1, true_implies]) | (apply hK; clear hK K)
          all_goals
            refine Rnd.sub (402 - (i + 1)) (by omega) ((hIO _ _).2 ⟨i + 1, zz + 1, wl2, true, rfl, hii, hWI2, hN2, hBg2, hil3, hst, (fun h => by cases h), (fun _ => hzz), .inr hz41, rfl⟩) (by repeat' (first | exact rfl | exact trivial | constructor))
    · by_cases hlt2 : i < (wl.getD f w0).2.length
      · have hz4 : ¬ zz ≤ 400 := fun h => hlt ⟨hlt2, h⟩
        have hp := hfin (.inr hz4)
        have hli : ((i : Nat) : Int) < (((wl.getD f w0).2.length : Nat) : Int) := by omega
        repeat' first | (refine SW.seq_k fun K hK => ?_) | ((first | refine SW.region ?_ | refine SW.cond ?_ | refine SW.exit ?_ | refine SW.ret ?_); try simp only [go_sem, hD, te, fe, t0q, f0q, hcf, zf, lcs, fl, fl1, hli, hz4, true_implies]) | (apply hK; clear hK K) | (clear hK K; apply hK; clear hK K)
        all_goals
          refine retQ_le (fun M w0 D N a w r => r) ?_
          simp only [resL_tmp, resL_nil, tupOf, go_sem, hD]
          exact ⟨wl, zz, g, rfl, List.Perm.refl _, hWI, hL, hBg, hp, hg1, hzm⟩
      · have hp := hfin (.inl hlt2)
        have hli : ¬ ((i : Nat) : Int) < (((wl.getD f w0).2.length : Nat) : Int) := by omega
        repeat' first | (refine SW.seq_k fun K hK => ?_) | ((first | refine SW.region ?_ | refine SW.cond ?_ | refine SW.exit ?_ | refine SW.ret ?_); try simp only [go_sem, hD, te, fe, t0q, f0q, hcf, zf, lcs, fl, fl1, hli, true_implies]) | (apply hK; clear hK K) | (clear hK K; apply hK; clear hK K)
        all_goals
          refine retQ_le (fun M w0 D N a w r => r) ?_
          simp only [resL_tmp, resL_nil, tupOf, go_sem, hD]
          exact ⟨wl, zz, g, rfl, List.Perm.refl _, hWI, hL, hBg, hp, hg1, hzm⟩
end Go.Proofs.YtblfodnajpamfaaGreatDoor
namespace Go.Ab.A15
open Go Go.Ab Go.Ab.A34
theorem cmpI_neg (x y : Int) : cmpI y x = -cmpI x y := by unfold cmpI; split <;> split <;> omega
theorem cmpI_zero {x y : Int} (h : cmpI x y = 0) : x = y := by unfold cmpI at h; split at h <;> first | omega | (split at h <;> omega)
theorem cmpI_lt {x y : Int} : cmpI x y < 0 ↔ x < y := by unfold cmpI; split <;> first | omega | (split <;> omega)
theorem lexI_neg : ∀ x y, lexI y x = -lexI x y
  | [], [] => rfl
  | [], _ :: _ => rfl
  | _ :: _, [] => rfl
  | a :: x, b :: y => by
    unfold lexI
    have h := cmpI_neg a b
    by_cases h0 : cmpI a b = 0
    · rw [if_pos h0, if_pos (by omega), lexI_neg x y]
    · rw [if_neg h0, if_neg (by omega), h]
theorem lexI_zero : ∀ {x y}, lexI x y = 0 → x = y
  | [], [], _ => rfl
  | [], _ :: _, h => by simp [lexI] at h
  | _ :: _, [], h => by simp [lexI] at h
  | a :: x, b :: y, h => by
    unfold lexI at h
    by_cases h0 : cmpI a b = 0
    · rw [if_pos h0] at h
      rw [cmpI_zero h0, lexI_zero h]
    · rw [if_neg h0] at h
      exact absurd h h0
theorem lexI_trans : ∀ {x y z}, lexI x y < 0 → lexI y z < 0 → lexI x z < 0
  | [], [], _, h, _ => by simp [lexI] at h
  | _ :: _, [], _, h, _ => by simp [lexI] at h
  | [], _ :: _, [], _, h => by simp [lexI] at h
  | [], _ :: _, _ :: _, _, _ => by simp [lexI]
  | _ :: _, _ :: _, [], _, h => by simp [lexI] at h
  | a :: x, b :: y, c :: z, h1, h2 => by
    unfold lexI at h1 h2 ⊢
    by_cases e1 : cmpI a b = 0
    · rw [if_pos e1] at h1
      have := cmpI_zero e1
      subst this
      by_cases e2 : cmpI a c = 0
      · rw [if_pos e2] at h2 ⊢
        exact lexI_trans h1 h2
      · rw [if_neg e2] at h2 ⊢
        exact h2
    · rw [if_neg e1] at h1
      have l1 := cmpI_lt.1 h1
      by_cases e2 : cmpI b c = 0
      · have := cmpI_zero e2
        subst this
        rw [if_neg e1]
        exact h1
      · rw [if_neg e2] at h2
        have l2 := cmpI_lt.1 h2
        have l3 : cmpI a c < 0 := cmpI_lt.2 (by omega)
        rw [if_neg (by omega)]
        exact l3
theorem fl_one {E : Env} {v : Value} {n sz : Nat} {f : Nat → List SV} (hr : Rep E v (.fl n sz f)) : v.oneCell' = true := by cases hr <;> rfl
end Go.Ab.A15
namespace Go.Proofs.YtblfodnajpamfaaGreatDoor
open Go Go.Ab Go.Ab.A34 Go.Ab.A15 Go.Sort Go.Shelf Go.RowKit
variable [Gl] [Tabs]
theorem swo_lex : SWO (ltOf lexI) where
  irrefl := fun x => by
    have := lexI_neg x x
    simp only [ltOf, decide_eq_false_iff_not]
    omega
  trans := fun x y z h1 h2 => by
    simp only [ltOf, decide_eq_true_eq] at *
    exact lexI_trans h1 h2
  ntrans := fun x y z h1 h2 => by
    simp only [ltOf, decide_eq_false_iff_not] at *
    intro h3
    have n1 := lexI_neg x y
    have n2 := lexI_neg y z
    rcases Int.lt_or_eq_of_le (show lexI y x ≤ 0 by omega) with h4 | h4
    · have := lexI_trans h4 h3
      omega
    · have := lexI_zero h4
      subst this
      omega
theorem sort_rows (b : Nat) (l : List (List Int)) (hne : l ≠ []) (hnd : l.Nodup) (hl : l.length ≤ 1000000000) (hs : ∀ r ∈ l, r.length ≤ 1000000000) :
    Ab.Call Tryz.prog 77 [.os b 0 l.length 1, .fn (.func 78) [] []] [(b, .svs (gC l))] (fun r h' => r = .tup [] ∧ h' = [(b, .svs (gC (l.mergeSort fun x y => !(ltOf lexI) y x)))]) :=
  Call.sortS (P := Tryz.prog) (ρ := Tryz.sortR_ren) Tryz.sortR ⟨_, Tryz.func77, by kernel_rfl, by kernel_rfl⟩ (fun r => IL r) (fun x E v hr => fl_one hr) lexI swo_lex (fun x y h1 h2 => by
    simp only [ltOf, decide_eq_false_iff_not] at h1 h2
    have := lexI_neg x y
    exact lexI_zero (by omega)) 78 (Go.Proofs.enters_of Tryz.func78 (by kernel_rfl) rfl) b l hne hnd (by omega) (fun x hx y hy => lex_64 x y (hs x hx) (hs y hy))
theorem sort_nil : PCall Tryz.prog 77 [SN, .fn (.func 78) [] []] (.tup []) :=
  Call.sortQ0 (P := Tryz.prog) (ρ := Tryz.sortS_ren) Tryz.sortS ⟨_, Tryz.func77, by kernel_rfl, by kernel_rfl⟩ 78
end Go.Proofs.YtblfodnajpamfaaGreatDoor
namespace Go.Ab.A15
open Go Go.Ab Go.Ab.A34
def ws0 (n : Nat) : List Wt := List.replicate n w0
theorem ws0_wc (n : Nat) : (ws0 n).map wc = zfill [Value.slice none 0 0] n := by
  have h : wc w0 = SN := rfl
  unfold ws0
  rw [List.map_replicate, h]
  induction n with
  | zero => rfl
  | succ n ih => rw [List.replicate_succ, ih]; rfl
theorem ws0_wB (n : Nat) : wB (ws0 n) = [] := by
  unfold wB ws0
  rw [List.flatMap_eq_nil_iff]
  intro e he
  rw [List.eq_of_mem_replicate he]
  rfl
theorem ws0_get (n s : Nat) : (ws0 n).getD s w0 = w0 := by
  unfold ws0
  rcases Nat.lt_or_ge s n with h | h
  · simp [List.getD_eq_getElem?_getD, h]
  · simp [List.getD_eq_getElem?_getD, h]
theorem ws0_len (n : Nat) : (ws0 n).length = n := List.length_replicate
theorem ws0_WI (C : Nat → List Int → Prop) (n : Nat) : WI C (ws0 n) 0 where
  nd := fun s _ => by rw [ws0_get]; exact List.nodup_nil
  c := fun s _ r hr => by rw [ws0_get] at hr; cases hr
  z := by simp [tot, ws0, w0]
end Go.Ab.A15
namespace Go.Proofs.YtblfodnajpamfaaGreatDoor
open Go Go.Ab Go.Ab.A34 Go.Ab.A15
variable [Gl] [Tabs]
theorem refute_yes (db : List Tb) (l : List Dp) (g : Dp) (hf : Few db l g) (h : allS db l g = 0) (hp : 0 ≤ findS g.t g.r 0 (states l g)) : PCall Tryz.prog 18 [DB db, DpL l, DV g] (.tup [.agg [SN], I64 10]) := by
  have c := implies_p db l g hf h
  rw [decide_eq_true hp] at c
  clear hp
  obtain ⟨gf, gl, gt, gr⟩ := g
  refine Call.enter' (N := 96) (rs := [.cell 6 30, .tmp 7]) Tryz.func18 rfl rfl rfl (by decide) rfl ?_; simp only [argT]; have hD : (0 : Nat) = 0 := rfl
  repeat' first | (refine SW.seq_k fun K hK => ?_) | ((first | refine SW.region ?_ | refine SW.cond ?_ | refine SW.skip ?_ | refine SW.ret ?_ | refine Call.of_pure (c) ?_ | (refine allF_i fun b hb => ?_; replace hD := And.intro hb hD; clear hb; try simp only [fresh_cons, fresh_nil, and_true, ne_eq, neF] at hD)); try simp only [go_sem, hD, true_implies]) | (apply hK; clear hK K)
  apply ret_cell (i := 6) (n := 1); exact rfl; (simp only [go_sem, hD]; try rfl); (first | exact Nat.le_refl _ | decide); simp only [resL_tmp, resL_cellE, resC_ok, resL_nil, tupOf, getN, go_sem, hD]
end Go.Proofs.YtblfodnajpamfaaGreatDoor
namespace Go.Ab.A15
open Go Go.Ab Go.Ab.A34 Go.Sort Go.Shelf Go.Proofs
def srtL (l : List (List Int)) : List (List Int) := l.mergeSort fun x y => !(ltOf lexI) y x
theorem srt_perm (l : List (List Int)) : (srtL l).Perm l := List.mergeSort_perm l _
theorem srt_len (l : List (List Int)) : (srtL l).length = l.length := (srt_perm l).length_eq
theorem lex_le_trans (a b c : List Int) (h1 : (!(ltOf lexI) b a) = true) (h2 : (!(ltOf lexI) c b) = true) : (!(ltOf lexI) c a) = true := by
  simp only [ltOf, Bool.not_eq_true', decide_eq_false_iff_not] at *
  intro h3
  have n1 := lexI_neg a b
  rcases Int.lt_or_eq_of_le (show lexI a b ≤ 0 by omega) with h4 | h4
  · exact h2 (lexI_trans h3 h4)
  · have := lexI_zero h4
    subst this
    exact h2 h3
theorem lex_le_total (a b : List Int) : ((!(ltOf lexI) b a) || (!(ltOf lexI) a b)) = true := by
  have n1 := lexI_neg a b
  simp only [ltOf, Bool.or_eq_true, Bool.not_eq_true', decide_eq_false_iff_not]
  omega
theorem srt_pw {l : List (List Int)} (h : l.Nodup) : (srtL l).Pairwise fun x y => lexI x y < 0 := by
  have h1 : (srtL l).Pairwise (fun a b => (!(ltOf lexI) b a) = true) := List.pairwise_mergeSort lex_le_trans lex_le_total l
  have h2 : (srtL l).Pairwise (fun a b => a ≠ b) := (srt_perm l).nodup_iff.2 h
  refine (h1.and h2).imp fun {a b} hx => ?_
  obtain ⟨hx1, hx2⟩ := hx
  simp only [ltOf, Bool.not_eq_true', decide_eq_false_iff_not] at hx1
  have n1 := lexI_neg a b
  rcases Int.lt_or_eq_of_le (show lexI a b ≤ 0 by omega) with h4 | h4
  · exact h4
  · exact absurd (lexI_zero h4) hx2
theorem lex_irr (a : List Int) : ¬ lexI a a < 0 := fun h => by have := lexI_neg a a; omega
theorem pw_eq : ∀ {L M : List (List Int)}, L.Pairwise (fun x y => lexI x y < 0) → M.Pairwise (fun x y => lexI x y < 0) → (∀ x, x ∈ L ↔ x ∈ M) → L = M
  | [], [], _, _, _ => rfl
  | [], b :: M, _, _, h => by have := (h b).2 List.mem_cons_self; cases this
  | a :: L, [], _, _, h => by have := (h a).1 List.mem_cons_self; cases this
  | a :: L, b :: M, h1, h2, h => by
    rw [List.pairwise_cons] at h1 h2
    have hab : a = b := by
      rcases List.mem_cons.1 ((h a).1 List.mem_cons_self) with e | e
      · exact e
      · rcases List.mem_cons.1 ((h b).2 List.mem_cons_self) with e2 | e2
        · exact e2.symm
        · exact absurd (lexI_trans (h1.1 b e2) (h2.1 a e)) (lex_irr a)
    subst hab
    rw [pw_eq h1.2 h2.2 fun x => ⟨fun hx => ?_, fun hx => ?_⟩]
    · rcases List.mem_cons.1 ((h x).1 (List.mem_cons_of_mem _ hx)) with e | e
      · subst e; exact absurd (h1.1 x hx) (lex_irr x)
      · exact e
    · rcases List.mem_cons.1 ((h x).2 (List.mem_cons_of_mem _ hx)) with e | e
      · subst e; exact absurd (h2.1 x hx) (lex_irr x)
      · exact e
theorem srt_eq {L M : List (List Int)} (h1 : L.Nodup) (h2 : M.Nodup) (h : ∀ x, x ∈ L ↔ x ∈ M) : srtL L = srtL M :=
  pw_eq (srt_pw h1) (srt_pw h2) fun x => by rw [(srt_perm L).mem_iff, (srt_perm M).mem_iff, h x]
theorem nodup_sub : ∀ {L M : List (List Int)}, L.Nodup → (∀ x ∈ L, x ∈ M) → L.length ≤ M.length
  | [], M, _, _ => Nat.zero_le _
  | a :: L, M, h1, h => by
    rw [List.nodup_cons] at h1
    have hm := h a List.mem_cons_self
    have hl := List.length_erase_of_mem hm
    have hp : 0 < M.length := List.length_pos_of_mem hm
    have := nodup_sub (M := M.erase a) h1.2 fun x hx => (List.mem_erase_of_ne (fun e => h1.1 (by rw [← e]; exact hx))).2 (h x (List.mem_cons_of_mem _ hx))
    rw [List.length_cons]
    omega
theorem tot_le : ∀ {ws ws' : List Wt}, ws.length = ws'.length → (∀ s, s < ws.length → (ws.getD s w0).2.length ≤ (ws'.getD s w0).2.length) → tot ws ≤ tot ws'
  | [], [], _, _ => Nat.le_refl _
  | [], _ :: _, h, _ => by simp at h
  | _ :: _, [], h, _ => by simp at h
  | a :: ws, b :: ws', h, hs => by
    have h0 := hs 0 (by simp)
    simp only [List.getD_cons_zero] at h0
    have := tot_le (ws := ws) (ws' := ws') (by simpa using h) fun s hs2 => by
      have := hs (s + 1) (by simp; exact hs2)
      simpa only [List.getD_cons_succ] using this
    unfold tot at *
    rw [List.map_cons, List.map_cons, List.sum_cons, List.sum_cons]
    omega
def nvW (n : Int) : V3 := (1, n, ⟨#[]⟩)
def rowW (k : Nat) (r : List Int) : R3 := ((k : Int) + 1, r.map nvW)
def rowsP (L : List (List Int)) (k : Nat) : List R3 := (List.range k).map fun j => rowW j (L.getD j [])
def tabW (t : Tb) (L : List (List Int)) : Tb := ⟨t.name, t.attrs, rowsP (srtL L) (srtL L).length⟩
def refP (ts : List Tb) (ws : List Wt) (i : Nat) : List Tb := (List.range i).map fun j => tabW (ts.getD j t0) (ws.getD j w0).2
def refW (ts : List Tb) (ws : List Wt) : List Tb := refP ts ws ts.length
theorem rowsP_succ (L : List (List Int)) (k : Nat) : rowsP L (k + 1) = rowsP L k ++ [rowW k (L.getD k [])] := by
  unfold rowsP
  rw [List.range_succ, List.map_append]
  rfl
theorem rowsP_len (L : List (List Int)) (k : Nat) : (rowsP L k).length = k := by simp [rowsP]
theorem refP_succ (ts : List Tb) (ws : List Wt) (k : Nat) : refP ts ws (k + 1) = refP ts ws k ++ [tabW (ts.getD k t0) (ws.getD k w0).2] := by
  unfold refP
  rw [List.range_succ, List.map_append]
  rfl
theorem refP_len (ts : List Tb) (ws : List Wt) (k : Nat) : (refP ts ws k).length = k := by simp [refP]
def valP (r : List Int) (m : Nat) : List V3 := (r.take m).map nvW
theorem valP_succ {r : List Int} {m : Nat} (h : m < r.length) : valP r (m + 1) = valP r m ++ [nvW (r.getD m 0)] := by
  unfold valP
  have g : r.getD m 0 = r[m] := by simp [List.getD_eq_getElem?_getD, h]
  rw [List.take_succ_eq_append_getElem h, List.map_append, g]
  rfl
theorem valP_len {r : List Int} {m : Nat} (h : m ≤ r.length) : (valP r m).length = m := by
  unfold valP
  rw [List.length_map, List.length_take]
  omega
theorem valP_all (r : List Int) : valP r r.length = r.map nvW := by unfold valP; rw [List.take_length]
structure GoodW (db : List Tb) (l : List Dp) (g : Dp) (ws : List Wt) (z : Int) : Prop where
  wi : WI (Cl (nmsOf db) (nsOf db) l g) ws z
  len : ws.length = db.length
  first : firstR ((nsOf db).getD (idxN g.f (nmsOf db)) 0) g ∈ (ws.getD (idxN g.f (nmsOf db)) w0).2
  cl : ∀ d ∈ l, Clo (nmsOf db) (nsOf db) (fun t => (ws.getD t w0).2) d
  z : z ≤ 400
theorem GoodW.mem {db : List Tb} {l : List Dp} {g : Dp} {ws : List Wt} {z : Int} (h : GoodW db l g ws z) (s : Nat) (r : List Int) : r ∈ (ws.getD s w0).2 ↔ Cl (nmsOf db) (nsOf db) l g s r := by
  constructor
  · intro hr
    rcases Nat.lt_or_ge s ws.length with hs | hs
    · exact h.wi.c s hs r hr
    · rw [List.getD_eq_getElem?_getD, List.getElem?_eq_none hs] at hr
      cases hr
  · intro hc
    exact hc.in_closed (W := fun t => (ws.getD t w0).2) h.first h.cl
theorem GoodW.nd {db : List Tb} {l : List Dp} {g : Dp} {ws : List Wt} {z : Int} (h : GoodW db l g ws z) (s : Nat) : (ws.getD s w0).2.Nodup := by
  rcases Nat.lt_or_ge s ws.length with hs | hs
  · exact h.wi.nd s hs
  · rw [List.getD_eq_getElem?_getD, List.getElem?_eq_none hs]
    exact List.nodup_nil
theorem GoodW.same {db : List Tb} {l : List Dp} {g : Dp} {ws ws' : List Wt} {z z' : Int} (h : GoodW db l g ws z) (h' : GoodW db l g ws' z') : refW db ws = refW db ws' := by
  refine List.map_congr_left fun i _ => ?_
  unfold tabW
  rw [srt_eq (h.nd i) (h'.nd i) fun x => by rw [h.mem, h'.mem]]
theorem GoodW.small {db : List Tb} {l : List Dp} {g : Dp} {ws ws' : List Wt} {z z' : Int} (h' : GoodW db l g ws' z') (h : WI (Cl (nmsOf db) (nsOf db) l g) ws z) (hl : ws.length = db.length) : z ≤ 400 := by
  have := tot_le (ws := ws) (ws' := ws') (by rw [hl, h'.len]) fun s hs => nodup_sub (h.nd s hs) fun x hx => (h'.mem s x).2 (h.c s hs x hx)
  have e1 := h.z
  have e2 := h'.wi.z
  have e3 := h'.z
  omega
open Classical in
noncomputable def refOut (db : List Tb) (l : List Dp) (g : Dp) : SV := if h : ∃ ws z, GoodW db l g ws z then .tup [DB (refW db (Classical.choose h)), I64 0] else .tup [.agg [SN], I64 3]
theorem refOut_yes {db : List Tb} {l : List Dp} {g : Dp} {ws : List Wt} {z : Int} (h : GoodW db l g ws z) : refOut db l g = .tup [DB (refW db ws), I64 0] := by
  have hx : ∃ ws z, GoodW db l g ws z := ⟨ws, z, h⟩
  unfold refOut
  rw [dif_pos hx]
  obtain ⟨z2, h2⟩ := Classical.choose_spec hx
  rw [h2.same h]
theorem refOut_no {db : List Tb} {l : List Dp} {g : Dp} {ws : List Wt} {z : Int} (h : WI (Cl (nmsOf db) (nsOf db) l g) ws z) (hl : ws.length = db.length) (hz : 400 < z) : refOut db l g = .tup [.agg [SN], I64 3] := by
  unfold refOut
  rw [dif_neg]
  rintro ⟨ws', z', h'⟩
  have := h'.small h hl
  omega
end Go.Ab.A15
namespace Go.Ab.A15
open Go Go.Ab Go.Ab.A34
def exT : List Tb := [⟨⟨#[114]⟩, [⟨#[97]⟩, ⟨#[98]⟩], []⟩, ⟨⟨#[115]⟩, [⟨#[99]⟩, ⟨#[100]⟩], []⟩]
def givD : List Dp := [⟨⟨#[114]⟩, [0, 1], ⟨#[115]⟩, [0, 1]⟩, ⟨⟨#[115]⟩, [1], ⟨#[114]⟩, [0]⟩]
def goalD : Dp := ⟨⟨#[114]⟩, [1], ⟨#[114]⟩, [0]⟩
def backD : Dp := ⟨⟨#[114]⟩, [0], ⟨#[114]⟩, [1]⟩
end Go.Ab.A15
namespace Go.Proofs.YtblfodnajpamfaaGreatDoor
open Go Go.Ab Go.Ab.A34 Go.Ab.A15
variable [Gl] [Tabs]
theorem ex_c : PCall Tryz.prog 35 [] (DB exT) := by
  refine Call.enter' (N := 7) (rs := [.cell 0 30]) Tryz.func35 rfl rfl rfl (by decide) rfl ?_; simp only [argT]; have hD : (0 : Nat) = 0 := rfl
  repeat' first | (refine SW.seq_k fun K hK => ?_) | ((first | refine SW.region ?_ | refine SW.ret ?_ | (refine allF_i fun b hb => ?_; replace hD := And.intro hb hD; clear hb; try simp only [fresh_cons, fresh_nil, and_true, ne_eq, neF] at hD)); try simp only [go_sem, hD]) | (apply hK; clear hK K)
  obtain ⟨T, rfl⟩ : ∃ x, x = b := ⟨_, rfl⟩
  obtain ⟨B2, rfl⟩ : ∃ x, x = b := ⟨_, rfl⟩
  obtain ⟨B1, rfl⟩ : ∃ x, x = b := ⟨_, rfl⟩
  obtain ⟨O, rfl⟩ : ∃ x, x = b := ⟨_, rfl⟩
  refine retQ_le (S' := ⟨[(0, .fp [TL exT])], []⟩) ?_ ?_
  · skip
    refine St.le.trans (St.le_nilC (c := T) (j := 2) (sz := 2) (f := rF []) (by first | (rw [find_cons, if_pos rfl]) | (simp [find_cons, hD]; done) | (simp [find_cons, hD]; rfl)) (by first | decide | simp [Blk.len_svs]) rfl) ?_
    simp only [go_sem, hD]
    refine St.le.trans (St.le_nilC (c := T) (j := 5) (sz := 2) (f := rF []) (by first | (rw [find_cons, if_pos rfl]) | (simp [find_cons, hD]; done) | (simp [find_cons, hD]; rfl)) (by first | decide | simp [Blk.len_svs]) rfl) ?_
    simp only [go_sem, hD]
    refine St.le.trans (St.le_freezeC (c := T) (j := 4) (b := B2) (off := 0) (len := 2) (sz := 1) (by first | (rw [find_cons, if_pos rfl]) | (simp [find_cons, hD]; done) | (simp [find_cons, hD]; rfl)) (by simp [hD]) (by first | decide | simp [Blk.len_svs]) rfl (by first | (rw [find_cons, if_pos rfl]) | (simp [find_cons, hD]; done) | (simp [find_cons, hD]; rfl)) (by first | decide | simp [Blk.len_svs]) (sF [⟨#[99]⟩, ⟨#[100]⟩]) (fun p hp => by
      have h9 : p = 0 ∨ p = 1 := by omega
      rcases h9 with rfl | rfl <;> rfl)) ?_
    simp only [go_sem, hD]
    refine St.le.trans (St.le_freezeC (c := T) (j := 1) (b := B1) (off := 0) (len := 2) (sz := 1) (by first | (rw [find_cons, if_pos rfl]) | (simp [find_cons, hD]; done) | (simp [find_cons, hD]; rfl)) (by simp [hD]) (by first | decide | simp [Blk.len_svs]) rfl (by first | (rw [find_cons, if_pos rfl]) | (simp [find_cons, hD]; done) | (simp [find_cons, hD]; rfl)) (by first | decide | simp [Blk.len_svs]) (sF [⟨#[97]⟩, ⟨#[98]⟩]) (fun p hp => by
      have h9 : p = 0 ∨ p = 1 := by omega
      rcases h9 with rfl | rfl <;> rfl)) ?_
    simp only [go_sem, hD]
    refine St.le.trans (St.le_freezeC (c := O) (j := 0) (b := T) (off := 0) (len := 2) (sz := 3) (by first | (rw [find_cons, if_pos rfl]) | (simp [find_cons, hD]; done) | (simp [find_cons, hD]; rfl)) (by simp [hD]) (by first | decide | simp [Blk.len_svs]) rfl (by first | (rw [find_cons, if_pos rfl]) | (simp [find_cons, hD]; done) | (simp [find_cons, hD]; rfl)) (by first | decide | simp [Blk.len_svs]) (tF exT) (fun p hp => by
      have h9 : p = 0 ∨ p = 1 := by omega
      rcases h9 with rfl | rfl <;> rfl)) ?_
    simp only [go_sem, hD]
    refine St.le.trans (St.le_freezeP (i := 0) (b := O) (off := 0) (n := 1) rfl (by rw [find_cons, if_pos rfl]) (by exact Nat.le_refl 1)) ?_
    simp only [getN, Blk.get, go_sem, hD]
    exact St.le_sub (by repeat' (first | exact rfl | exact trivial | constructor))
  simp only [resL_tmp, resL_cellE, resC_ok, resL_nil, tupOf, getN, go_sem, hD]
  try exact ⟨rfl, rfl⟩
theorem giv_c : PCall Tryz.prog 36 [] (DpL givD) := by
  refine Call.enter' (N := 8) (rs := [.tmp 0]) Tryz.func36 rfl rfl rfl (by decide) rfl ?_; simp only [argT]; have hD : (0 : Nat) = 0 := rfl
  repeat' first | (refine SW.seq_k fun K hK => ?_) | ((first | refine SW.region ?_ | refine SW.ret ?_ | (refine allF_i fun b hb => ?_; replace hD := And.intro hb hD; clear hb; try simp only [fresh_cons, fresh_nil, and_true, ne_eq, neF] at hD)); try simp only [go_sem, hD]) | (apply hK; clear hK K)
  obtain ⟨T, rfl⟩ : ∃ x, x = b := ⟨_, rfl⟩
  obtain ⟨B4, rfl⟩ : ∃ x, x = b := ⟨_, rfl⟩
  obtain ⟨B3, rfl⟩ : ∃ x, x = b := ⟨_, rfl⟩
  obtain ⟨B2, rfl⟩ : ∃ x, x = b := ⟨_, rfl⟩
  obtain ⟨B1, rfl⟩ : ∃ x, x = b := ⟨_, rfl⟩
  refine retQ_le (S' := ⟨[(0, DpL givD)], []⟩) ?_ ?_
  · skip
    refine St.le.trans (St.le_freezeC (c := T) (j := 7) (b := B4) (off := 0) (len := 1) (sz := 1) (by first | (rw [find_cons, if_pos rfl]) | (simp [find_cons, hD]; done) | (simp [find_cons, hD]; rfl)) (by simp [hD]) (by first | decide | simp [Blk.len_svs]) rfl (by first | (rw [find_cons, if_pos rfl]) | (simp [find_cons, hD]; done) | (simp [find_cons, hD]; rfl)) (by first | decide | simp [Blk.len_svs]) (iF [0]) (fun p hp => by
      have h9 : p = 0 := by omega
      rcases h9 with rfl <;> rfl)) ?_
    simp only [go_sem, hD]
    refine St.le.trans (St.le_freezeC (c := T) (j := 5) (b := B3) (off := 0) (len := 1) (sz := 1) (by first | (rw [find_cons, if_pos rfl]) | (simp [find_cons, hD]; done) | (simp [find_cons, hD]; rfl)) (by simp [hD]) (by first | decide | simp [Blk.len_svs]) rfl (by first | (rw [find_cons, if_pos rfl]) | (simp [find_cons, hD]; done) | (simp [find_cons, hD]; rfl)) (by first | decide | simp [Blk.len_svs]) (iF [1]) (fun p hp => by
      have h9 : p = 0 := by omega
      rcases h9 with rfl <;> rfl)) ?_
    simp only [go_sem, hD]
    refine St.le.trans (St.le_freezeC (c := T) (j := 3) (b := B2) (off := 0) (len := 2) (sz := 1) (by first | (rw [find_cons, if_pos rfl]) | (simp [find_cons, hD]; done) | (simp [find_cons, hD]; rfl)) (by simp [hD]) (by first | decide | simp [Blk.len_svs]) rfl (by first | (rw [find_cons, if_pos rfl]) | (simp [find_cons, hD]; done) | (simp [find_cons, hD]; rfl)) (by first | decide | simp [Blk.len_svs]) (iF [0, 1]) (fun p hp => by
      have h9 : p = 0 ∨ p = 1 := by omega
      rcases h9 with rfl | rfl <;> rfl)) ?_
    simp only [go_sem, hD]
    refine St.le.trans (St.le_freezeC (c := T) (j := 1) (b := B1) (off := 0) (len := 2) (sz := 1) (by first | (rw [find_cons, if_pos rfl]) | (simp [find_cons, hD]; done) | (simp [find_cons, hD]; rfl)) (by simp [hD]) (by first | decide | simp [Blk.len_svs]) rfl (by first | (rw [find_cons, if_pos rfl]) | (simp [find_cons, hD]; done) | (simp [find_cons, hD]; rfl)) (by first | decide | simp [Blk.len_svs]) (iF [0, 1]) (fun p hp => by
      have h9 : p = 0 ∨ p = 1 := by omega
      rcases h9 with rfl | rfl <;> rfl)) ?_
    simp only [go_sem, hD]
    refine St.le.trans (St.le_freeze (i := 0) (b := T) (off := 0) (len := 2) (sz := 4) rfl (by first | (rw [find_cons, if_pos rfl]) | (simp [find_cons, hD]; done) | (simp [find_cons, hD]; rfl)) (by first | decide | simp [Blk.len_svs]) (dpF givD) (fun p hp => by
      have h9 : p = 0 ∨ p = 1 := by omega
      rcases h9 with rfl | rfl <;> rfl)) ?_
    simp only [go_sem, hD]
    exact St.le_sub (by repeat' (first | exact rfl | exact trivial | constructor))
  simp only [resL_tmp, resL_nil, tupOf, go_sem, hD]
  try exact ⟨rfl, rfl⟩
end Go.Proofs.YtblfodnajpamfaaGreatDoor
namespace Go.Ab.A15
open Go Go.Ab Go.Ab.A34
theorem ex_all1 : allS exT givD goalD = 0 := by decide +kernel
theorem ex_all2 : allS exT givD backD = 0 := by decide +kernel
theorem ex_find1 : ¬ findS goalD.t goalD.r 0 (states givD goalD) < 0 := by decide +kernel
theorem ex_find2 : findS backD.t backD.r 0 (states givD backD) < 0 := by decide +kernel
theorem ex_len : (proofS givD goalD).length = 2 := by decide +kernel
theorem ex_chk : chkP givD goalD.t goalD.r (proofS givD goalD) goalD.f goalD.l = true := by decide +kernel
theorem ex_okp : OkP (proofS givD goalD) := by
  have h : (proofS givD goalD).all (fun p => decide (p.2.length ≤ 1000000)) = true := by decide +kernel
  exact ⟨by rw [ex_len]; omega, fun p hp => of_decide_eq_true (List.all_eq_true.1 h p hp)⟩
theorem ex_okd (d : Dp) (h : d = goalD ∨ d = backD ∨ d ∈ givD) : OkD d := by
  have : d = goalD ∨ d = backD ∨ d = ⟨⟨#[114]⟩, [0, 1], ⟨#[115]⟩, [0, 1]⟩ ∨ d = ⟨⟨#[115]⟩, [1], ⟨#[114]⟩, [0]⟩ := by
    rcases h with h | h | h
    · exact .inl h
    · exact .inr (.inl h)
    · unfold givD at h
      rcases List.mem_cons.1 h with h | h
      · exact .inr (.inr (.inl h))
      · exact .inr (.inr (.inr (List.mem_singleton.1 h)))
  rcases this with rfl | rfl | rfl | rfl <;> exact ⟨by decide, by decide⟩
theorem ex_few1 : Few exT givD goalD := ⟨by decide, by decide, fun d hd => ex_okd d (.inr (.inr hd)), ex_okd _ (.inl rfl), by decide, by decide⟩
theorem ex_few2 : Few exT givD backD := ⟨by decide, by decide, fun d hd => ex_okd d (.inr (.inr hd)), ex_okd _ (.inr (.inl rfl)), by decide, by decide⟩
def exW : List Wt := [(0, [[1, 0], [0, 0]]), (0, [[1, 0], [0, 0]])]
abbrev exC := Cl (nmsOf exT) (nsOf exT) givD backD
theorem ex_c0 : exC 0 [1, 0] := by
  have h := Cl.first (nm := nmsOf exT) (ns := nsOf exT) (l := givD) (g := backD)
  rwa [show idxN backD.f (nmsOf exT) = 0 by decide +kernel, show firstR ((nsOf exT).getD 0 0) backD = [1, 0] by decide +kernel] at h
theorem ex_c1 {r : List Int} (h : exC 0 r) (e : imgR 2 ⟨⟨#[114]⟩, [0, 1], ⟨#[115]⟩, [0, 1]⟩ r = r) : exC 1 r := by
  have k := Cl.step (nm := nmsOf exT) (ns := nsOf exT) (l := givD) (g := backD) ⟨⟨#[114]⟩, [0, 1], ⟨#[115]⟩, [0, 1]⟩ r List.mem_cons_self (by rw [show idxN (Dp.mk ⟨#[114]⟩ [0, 1] ⟨#[115]⟩ [0, 1]).f (nmsOf exT) = 0 by decide +kernel]; exact h)
  rwa [show idxN (Dp.mk ⟨#[114]⟩ [0, 1] ⟨#[115]⟩ [0, 1]).t (nmsOf exT) = 1 by decide +kernel, show (nsOf exT).getD 1 0 = 2 by decide +kernel, e] at k
theorem ex_c2 {r : List Int} (h : exC 1 r) : exC 0 (imgR 2 ⟨⟨#[115]⟩, [1], ⟨#[114]⟩, [0]⟩ r) := by
  have k := Cl.step (nm := nmsOf exT) (ns := nsOf exT) (l := givD) (g := backD) ⟨⟨#[115]⟩, [1], ⟨#[114]⟩, [0]⟩ r (List.mem_cons_of_mem _ List.mem_cons_self) (by rw [show idxN (Dp.mk ⟨#[115]⟩ [1] ⟨#[114]⟩ [0]).f (nmsOf exT) = 1 by decide +kernel]; exact h)
  rwa [show idxN (Dp.mk ⟨#[115]⟩ [1] ⟨#[114]⟩ [0]).t (nmsOf exT) = 0 by decide +kernel, show (nsOf exT).getD 0 0 = 2 by decide +kernel] at k
theorem ex_c3 : exC 0 [0, 0] := by
  have h := ex_c2 (ex_c1 ex_c0 (by decide +kernel))
  rwa [show imgR 2 ⟨⟨#[115]⟩, [1], ⟨#[114]⟩, [0]⟩ [1, 0] = [0, 0] by decide +kernel] at h
theorem ex_good : GoodW exT givD backD exW 4 where
  wi := {
    nd := fun s hs => by
      have : s = 0 ∨ s = 1 := by have h : s < 2 := hs; omega
      rcases this with rfl | rfl <;> decide +kernel
    c := fun s hs r hr => by
      have : s = 0 ∨ s = 1 := by have h : s < 2 := hs; omega
      have e : (exW.getD s w0).2 = [[1, 0], [0, 0]] := by rcases this with rfl | rfl <;> rfl
      rw [e] at hr
      have h2 : r = [1, 0] ∨ r = [0, 0] := by simpa using hr
      rcases this with rfl | rfl <;> rcases h2 with rfl | rfl
      · exact ex_c0
      · exact ex_c3
      · exact ex_c1 ex_c0 (by decide +kernel)
      · exact ex_c1 ex_c3 (by decide +kernel)
    z := by decide +kernel }
  len := rfl
  first := by decide +kernel
  cl := fun d hd r hr => by
    have h1 : d = ⟨⟨#[114]⟩, [0, 1], ⟨#[115]⟩, [0, 1]⟩ ∨ d = ⟨⟨#[115]⟩, [1], ⟨#[114]⟩, [0]⟩ := by
      unfold givD at hd
      rcases List.mem_cons.1 hd with h | h
      · exact .inl h
      · exact .inr (List.mem_singleton.1 h)
    have e : ∀ u, u = idxN d.f (nmsOf exT) → (exW.getD u w0).2 = [[1, 0], [0, 0]] := fun u hu => by
      rcases h1 with rfl | rfl <;> (rw [hu]; decide +kernel)
    replace hr : r ∈ (exW.getD (idxN d.f (nmsOf exT)) w0).2 := hr
    rw [e _ rfl] at hr
    have h2 : r = [1, 0] ∨ r = [0, 0] := by simpa using hr
    rcases h1 with rfl | rfl <;> rcases h2 with rfl | rfl <;> decide +kernel
  z := by decide
theorem ex_out : refOut exT givD backD = .tup [DB (refW exT exW), I64 0] := refOut_yes ex_good
theorem ex_two : (refW exT exW).length = 2 ∧ ((refW exT exW).getD 0 t0).rows.length = 2 ∧ ((refW exT exW).getD 1 t0).rows.length = 2 := by
  have e : refW exT exW = [tabW (exT.getD 0 t0) (exW.getD 0 w0).2, tabW (exT.getD 1 t0) (exW.getD 1 w0).2] := rfl
  rw [e]
  refine ⟨rfl, ?_, ?_⟩
  · show (rowsP _ (srtL _).length).length = 2
    rw [rowsP_len, srt_len]
    rfl
  · show (rowsP _ (srtL _).length).length = 2
    rw [rowsP_len, srt_len]
    rfl
end Go.Ab.A15
namespace Go.Ab.A15
open Go Go.Ab Go.Ab.A34
def gL (l : List (List Int)) (j : Nat) : List SV := [IL (l.getD j [])]
theorem fl_str (l : List ByteArray) : flCells (sF l) l.length = l.map Str := by
  have e : l = (List.range l.length).map fun i => l.getD i ⟨#[]⟩ := by
    refine List.ext_getElem (by simp) fun i h1 h2 => ?_
    simp [List.getD_eq_getElem?_getD, h1]
  unfold flCells
  conv => rhs; rw [e]
  rw [List.map_map]
  unfold sF
  induction (List.range l.length) with
  | nil => rfl
  | cons x r ih => rw [List.flatMap_cons, List.map_cons, ih]; rfl
theorem str_at {l : List ByteArray} {j : Nat} (h : j < l.length) : sF l j = ((l.map Str).drop j).take 1 := by
  have hl : j < (l.map Str).length := by rw [List.length_map]; exact h
  rw [List.drop_eq_getElem_cons hl, List.take_succ_cons, List.take_zero, List.getElem_map]
  unfold sF
  simp [List.getD_eq_getElem?_getD, h]
theorem wB_drop {ws : List Wt} {i : Nat} (h : i < ws.length) : wB (ws.drop i) = wb1 (ws.getD i w0) ++ wB (ws.drop (i + 1)) := by
  have g : ws.getD i w0 = ws[i] := by simp [List.getD_eq_getElem?_getD, h]
  rw [List.drop_eq_getElem_cons h, g]
  unfold wB
  rw [List.flatMap_cons]
theorem gC_len (l : List (List Int)) : (gC l).length = l.length := List.length_map _
theorem gC_at {l : List (List Int)} {j : Nat} (h : j < l.length) : gL l j = ((gC l).drop j).take 1 := by
  have hl : j < (gC l).length := by rw [gC_len]; exact h
  rw [List.drop_eq_getElem_cons hl, List.take_succ_cons, List.take_zero]
  have := gC_get h
  unfold gL
  rw [← this]
  simp [List.getD_eq_getElem?_getD, gC, h]
theorem St.le_slist [Gl] {t : List (Nat × SV)} {h h' : Heap} (hs : h'.Sublist h) : (St.mk t h).le ⟨t, h'⟩ := St.le_sublist (fun _ hx => hs.subset hx) (fun hn => (hs.map _).nodup hn)
end Go.Ab.A15
namespace Go.Proofs.YtblfodnajpamfaaGreatDoor
open Go Go.Ab Go.Ab.A34 Go.Ab.A15
variable [Gl] [Tabs]
theorem clone_s (l : List ByteArray) (hl : l.length ≤ 1000) : PCall Tryz.prog 76 [SL l] (SL l) := by
  have hfm := fl_str l
  refine Call.enter' (N := 8) (rs := [.tmp 2]) Tryz.func76 rfl rfl rfl (by decide) rfl ?_; simp only [argT]; have hD : (0 : Nat) = 0 := rfl
  refine SW.seq_k fun K0 hK0 => ?_
  refine SW.region ?_
  simp only [go_sem, hD]
  refine hK0 _ ?_
  clear hK0 K0
  refine SW.seq_k fun K hK => ?_
  refine SW.seq_k fun K2 hK2 => ?_
  refine SW.region_nil (i := 0) (j := 3) (k := 4) rfl rfl rfl rfl rfl rfl Tryz.underlying72 rfl (by decide) (by decide) (fun hn => ?_) ?_
  · refine hK2 _ ?_
    clear hK2 K2
    have hl0 : l = [] := List.eq_nil_of_length_eq_zero hn
    subst hl0
    repeat' first | (refine SW.seq_k fun K hK => ?_) | ((first | refine SW.region ?_ | refine SW.cond ?_ | refine SW.ret ?_); try simp only [go_sem, hD]) | (apply hK; clear hK K)
    refine retQ_le (St.le_nil_fl (i := 2) (sz := 1) (f := sF []) rfl) ?_
    simp only [resL_tmp, resL_nil, tupOf, go_sem, hD]
    all_goals first | exact ⟨rfl, rfl⟩ | rfl
  · refine hK2 _ ?_
    clear hK2 K2
    repeat' first | (refine SW.seq_k fun K hK => ?_) | ((first | refine SW.region ?_ | refine SW.cond ?_ | refine SW.skip ?_ | (refine allF_i fun b hb => ?_; replace hD := And.intro hb hD; clear hb; try simp only [fresh_cons, fresh_nil, and_true, ne_eq, neF] at hD) | simp only [appK, appOsK]); try simp only [go_sem, hD]) | (apply hK; clear hK K)
    rw [hfm]
    refine ⟨?_, by omega, by omega, allF_i fun b' hb' => ?_⟩
    · rw [List.all_eq_true]
      intro x hx
      obtain ⟨r, _, rfl⟩ := List.mem_map.1 hx
      rfl
    · apply hK
      clear hK K
      repeat' (refine SW.ret ?_; try simp only [go_sem, hD])
      refine retQ_le (St.le_freeze (i := 2) (b := b') (off := 0) (len := l.length) (sz := 1) (k := .svs (l.map Str)) rfl (by rw [find_cons, if_pos rfl]) (by rw [Blk.len_svs, List.length_map]; omega) (sF l) (fun j hj => by
        rw [getN_take _ _ _ (by rw [Blk.len_svs, List.length_map]; omega), Nat.zero_add, Nat.mul_one]
        exact str_at hj)) ?_
      rw [del_head]
      simp only [resL_tmp, resL_nil, tupOf, go_sem, hD]
      all_goals first | exact ⟨rfl, rfl⟩ | rfl
theorem database_c (wb rb : Nat) (db : List Tb) (z : Int) (ws : List Wt) (hN : ws.length = db.length) (h4 : db.length ≤ 1000) (hat : ∀ t ∈ db, t.attrs.length ≤ 1000)
    (hw : ∀ s, s < ws.length → (ws.getD s w0).2.length ≤ 1000 ∧ (ws.getD s w0).2.Nodup ∧ ∀ r ∈ (ws.getD s w0).2, r.length ≤ 1000) :
    Ab.Call Tryz.prog 50 [.op wb 0] (WH wb rb (TL db) z ws) (fun r h' => r = DB (refW db ws) ∧ h' = []) := by
  refine Call.nd fun hnd => ?_
  have hw1 : ¬ wb = rb := by
    unfold WH at hnd
    simp only [List.map_cons, List.nodup_cons, List.mem_cons, not_or] at hnd
    exact hnd.1.1
  have hw2 : ¬ rb = wb := fun h => hw1 h.symm
  clear hnd
  obtain ⟨F, hF⟩ : ∃ F, F = refP db ws := ⟨_, rfl⟩
  have hFs := refP_succ db ws
  have hFl := refP_len db ws
  have hF0 : F 0 = [] := by rw [hF]; rfl
  have hFe : refW db ws = F db.length := by rw [hF]; rfl
  rw [← hF] at hFs hFl
  rw [hFe]
  clear hF hFe
  unfold WH
  refine Call.enter' (N := 81) (rs := [.cell 2 30]) Tryz.func50 rfl rfl rfl (by decide) rfl ?_; simp only [argT]; have hD : (0 : Nat) = 0 := rfl
  clear hD
  have hD := And.intro (eq_false hw1) (eq_false hw2)
  repeat' first | (refine SW.seq_k fun K hK => ?_) | (refine SW.block ?_) | ((first | refine SW.region ?_ | (refine allF_i fun b hb => ?_; replace hD := And.intro hb hD; clear hb; try simp only [fresh_cons, fresh_nil, and_true, ne_eq, neF] at hD)); try simp only [go_sem, hD, true_implies]) | (apply hK; clear hK K)
  obtain ⟨sb, rfl⟩ : ∃ x, x = b := ⟨_, rfl⟩
  obtain ⟨ob, rfl⟩ : ∃ x, x = b := ⟨_, rfl⟩
  clear hD
  obtain ⟨I, hI⟩ : ∃ I : Nat → St → Prop, ∀ k S, I k S ↔ (∃ (i : Nat) (cs : List SV) (x : SV) (G : Heap), k = db.length - i ∧ i ≤ db.length ∧ cs.length = ws.length ∧ (∀ s, i ≤ s → s < ws.length → cs.getD s .any = wc (ws.getD s w0)) ∧ ((i = 0 ∧ x = SN ∧ G = []) ∨ (0 < i ∧ ∃ g, x = .os g 0 i 3 ∧ G = [(g, .svs (fC tC (F i)))])) ∧ S = ⟨[(0, .op wb 0), (2, .op ob 0), (3, .op sb 0), (15, TL db), (16, I64 db.length), (17, I64 i)], (sb, .svs [x]) :: (ob, .svs [SN]) :: (wb, .svs [TL db, .os rb 0 ws.length 1, I64 z]) :: (rb, .svs cs) :: (G ++ wB (ws.drop i))⟩) := ⟨fun k S => _, fun _ _ => Iff.rfl⟩
  refine SW.loop' I (db.length) ((hI _ _).2 ⟨0, ws.map wc, SN, [], rfl, Nat.zero_le _, List.length_map _, (fun s _ hs => by simp [List.getD_eq_getElem?_getD, hs]), .inl ⟨rfl, rfl, rfl⟩, rfl⟩) (by repeat' (first | exact rfl | exact trivial | constructor)) ?_
  intro k S hIn
  obtain ⟨i, cs, x, G, rfl, hi, hcl, hcs, hG, rfl⟩ := (hI _ _).1 hIn
  clear hIn
  have ie : ((i : Nat) : Int).toNat = i := Int.toNat_natCast _
  have i0 : (0 : Int) ≤ ((i : Nat) : Int) := by omega
  refine SW.nd fun hnd => ?_
  by_cases hlt : i < db.length
  · have hli : ((i : Nat) : Int) < (((db.length) : Nat) : Int) := by omega
    have w1 : IntKind.i64.wrap ((i : Int) + 1) = ((i + 1 : Nat) : Int) := by rw [i64_wrap (by omega) (by omega)]; omega
    have fi : tF db i = tC (db.getD i t0) := rfl
    have hgi := hcs i (Nat.le_refl _) (by omega)
    have hwi := hw i (by omega)
    have hti := hat _ (getD_mem' t0 hlt)
    have hFi := hFs i
    have hdr := wB_drop (show i < ws.length by omega)
    have ict : i < cs.length := by omega
    have iwt : ((i : Nat) : Int) < ((ws.length : Nat) : Int) := by omega
    rw [hdr] at hnd ⊢
    have hcs2 : ∀ v s, i + 1 ≤ s → s < ws.length → (cs.set i v).getD s .any = wc (ws.getD s w0) := fun v s h1 h2 => by
      rw [← hcs s (by omega) h2]
      simp [List.getD_eq_getElem?_getD, List.getElem?_set_ne (show i ≠ s by omega)]
    clear hcs hdr
    generalize db.getD i t0 = t at *
    generalize ws.getD i w0 = e at *
    obtain ⟨tn, ta, tr⟩ := t
    obtain ⟨b0, L0⟩ := e
    simp only at hti hwi hFi
    have c76 := clone_s ta hti
    generalize hTL : wB (ws.drop (i + 1)) = T at *
    simp only [List.map_cons, List.map_append, List.nodup_cons, List.mem_cons, List.mem_append, not_or, List.nodup_append] at hnd
    have e1 : ¬ sb = ob := hnd.1.1
    have e2 : ¬ sb = wb := hnd.1.2.1
    have e3 : ¬ sb = rb := hnd.1.2.2.1
    have e4 : ¬ ob = wb := hnd.2.1.1
    have e5 : ¬ ob = rb := hnd.2.1.2.1
    have hEE := And.intro (And.intro (And.intro (eq_false e1) (eq_false (Ne.symm e1))) (And.intro (eq_false e2) (eq_false (Ne.symm e2)))) (And.intro (And.intro (And.intro (eq_false e3) (eq_false (Ne.symm e3))) (And.intro (eq_false e4) (eq_false (Ne.symm e4)))) (And.intro (And.intro (eq_false e5) (eq_false (Ne.symm e5))) (And.intro (eq_false hw1) (eq_false hw2))))
    have hD := hEE
    have zi : 0 + i * 1 = i := by omega
    have zi3 : 0 + i * 3 = i * 3 := by omega
    repeat' first | (with_reducible refine And.intro (by omega) ?_) | (refine SW.seq_k fun K hK => ?_) | (refine SW.block ?_) | ((first | refine SW.region ?_ | refine SW.regionZ (id := 5) (Checked.mixed Tryz.checked) ((.one 0 [0, 1, 5, 7] (.one 1 [1, 5, 7] (.one 2 [2, 3, 4, 5, 7] (.one 3 [3, 4, 5, 7] (.one 4 [4, 5, 7] (.one 5 [5, 7] (.alt 6 (.alt 7 .done .nil) .nil))))))) : OZ) (by kernel_rfl) ?_ | refine SW.cond ?_ | refine SW.skip ?_ | refine ⟨_, c76, ?_⟩ | (refine allF_i fun b hb => ?_; replace hD := And.intro hb hD; clear hb; try simp only [fresh_cons, fresh_nil, and_true, ne_eq, neF] at hD)); try simp only [go_sem, hD, hli, ie, i0, fi, zi, ict, iwt, hcl, hgi, true_implies]) | (apply hK; clear hK K)
    obtain ⟨tb, rfl⟩ : ∃ x, x = b := ⟨_, rfl⟩
    obtain ⟨b5, rfl⟩ : ∃ x, x = b := ⟨_, rfl⟩
    have key : ∃ C Q', (∀ S, Ab.SW Tryz.prog 81 C Q' S → K S) ∧ Ab.SW Tryz.prog 81 C Q' ⟨[(0, .op wb 0), (2, .op ob 0), (3, .op sb 0), (4, I64 i), (6, .op tb 0), (15, TL db), (16, I64 db.length), (17, I64 i)], (tb, .svs [Str tn, SL ta, SN]) :: (sb, .svs [x]) :: (ob, .svs [SN]) :: (wb, .svs [TL db, .os rb 0 ws.length 1, I64 z]) :: (rb, .svs (cs.set i (.fl (srtL L0).length 1 (gL (srtL L0))))) :: (G ++ T)⟩ := by
      refine ⟨_, _, hK, SW.nd fun hnd3 => ?_⟩
      clear hK K hD
      have hTR := fresh_of_nodup hnd3
      have hD := And.intro hTR hEE
      simp only [fresh_cons, ne_eq, neF] at hD
      have hgs : (cs.set i (.fl (srtL L0).length 1 (gL (srtL L0)))).getD i .any = .fl (srtL L0).length 1 (gL (srtL L0)) := by simp [List.getD_eq_getElem?_getD, ict]
      have ics : i < (cs.set i (.fl (srtL L0).length 1 (gL (srtL L0)))).length := by rw [List.length_set]; exact ict
      have hcsl : (cs.set i (.fl (srtL L0).length 1 (gL (srtL L0)))).length = ws.length := by rw [List.length_set]; exact hcl
      have hcs3 := hcs2 (.fl (srtL L0).length 1 (gL (srtL L0)))
      have hLl := srt_len L0
      have hLr : ∀ r ∈ srtL L0, r.length ≤ 1000 := fun r hr => hwi.2.2 r ((srt_perm L0).mem_iff.1 hr)
      have hL1 := hwi.1
      have hFi2 : F (i + 1) = F i ++ [⟨tn, ta, rowsP (srtL L0) (srtL L0).length⟩] := hFi
      clear hcs2 hwi hFi c76
      generalize srtL L0 = L at *
      generalize cs.set i (.fl L.length 1 (gL L)) = cs' at *
      have hLn : L.length ≤ 1000 := by omega
      obtain ⟨R, hR⟩ : ∃ R : Heap, R = (sb, .svs [x]) :: (ob, .svs [SN]) :: (wb, .svs [TL db, .os rb 0 ws.length 1, I64 z]) :: (rb, .svs cs') :: (G ++ T) := ⟨_, rfl⟩
      repeat' first | (with_reducible refine And.intro (by omega) ?_) | (refine SW.seq_k fun K hK => ?_) | (refine SW.block ?_) | (refine SW.region ?_; try simp only [go_sem, hD, ie, i0, zi, ics, iwt, hcsl, hgs, true_implies]) | (apply hK; clear hK K)
      rw [← hR]
      rw [← hR] at hTR
      clear hD
      have hIO := hI
      have ow1 := w1
      have oie := ie
      have oi0 := i0
      clear hI
      obtain ⟨I, hI⟩ : ∃ I : Nat → St → Prop, ∀ k S, I k S ↔ (∃ (kk : Nat) (h : Heap), k = L.length - kk ∧ kk ≤ L.length ∧ ((kk = 0 ∧ h = (tb, .svs [Str tn, SL ta, SN]) :: R) ∨ (0 < kk ∧ ∃ g2, ¬ g2 = tb ∧ ¬ tb = g2 ∧ fresh R g2 ∧ h = (g2, .svs (fC rC (rowsP L kk))) :: (tb, .svs [Str tn, SL ta, .os g2 0 kk 2]) :: R)) ∧ S = ⟨[(0, .op wb 0), (2, .op ob 0), (3, .op sb 0), (15, TL db), (16, I64 db.length), (17, I64 i), (6, .op tb 0), (42, .fl L.length 1 (gL L)), (43, I64 L.length), (44, I64 kk)], h⟩) := ⟨fun k S => _, fun _ _ => Iff.rfl⟩
      refine SW.loop' I (L.length) ((hI _ _).2 ⟨0, _, rfl, Nat.zero_le _, .inl ⟨rfl, rfl⟩, rfl⟩) (by repeat' (first | exact rfl | exact trivial | constructor)) ?_
      intro k S hIn
      obtain ⟨kk, h, rfl, hi, hB, rfl⟩ := (hI _ _).1 hIn
      clear hIn
      have ie : ((kk : Nat) : Int).toNat = kk := Int.toNat_natCast _
      have i0 : (0 : Int) ≤ ((kk : Nat) : Int) := by omega
      by_cases hlk : kk < L.length
      · have hli : ((kk : Nat) : Int) < (((L.length) : Nat) : Int) := by omega
        have w1 : IntKind.i64.wrap ((kk : Int) + 1) = ((kk + 1 : Nat) : Int) := by rw [i64_wrap (by omega) (by omega)]; omega
        have fk : gL L kk = [IL (L.getD kk [])] := rfl
        have hrr := hLr _ (getD_mem' [] hlk)
        have hsn := rowsP_succ L kk
        have hrl := rowsP_len L kk
        have bk : (kk + 1) * 32 ≤ 140737488355328 := by omega
        have hrw : rowW kk (L.getD kk []) = (((kk + 1 : Nat) : Int), (L.getD kk []).map nvW) := by unfold rowW; congr 1
        generalize L.getD kk [] = r at *
        generalize hP : rowsP L kk = Pk at *
        rcases hB with ⟨hk0, rfl⟩ | ⟨hk0, g2, u1, u2, u3, rfl⟩
        · have hD := And.intro hTR trivial
          repeat' first | (refine SW.seq_k fun K hK => ?_) | (refine SW.block ?_) | ((first | refine SW.region ?_ | refine SW.cond ?_ | refine SW.skip ?_ | (refine allF_i fun b hb => ?_; replace hD := And.intro hb hD; clear hb; try simp only [fresh_cons, fresh_nil, and_true, ne_eq, neF] at hD)); try simp only [go_sem, hD, hli, ie, i0, w1, fk, true_implies]) | (apply hK; clear hK K)
          obtain ⟨vb, rfl⟩ : ∃ x, x = b := ⟨_, rfl⟩
          have hDo := hD
          obtain ⟨X, hX⟩ : ∃ X : Heap, X = (tb, .svs [Str tn, SL ta, SN]) :: R := ⟨_, rfl⟩
          rw [← hX]
          have v0f : fresh X vb := by rw [hX]; simp [fresh_cons, hD]
          clear hD
          obtain ⟨J, hJ⟩ : ∃ J : Nat → St → Prop, ∀ q S, J q S ↔ (∃ (m : Nat) (h : Heap), q = r.length - m ∧ m ≤ r.length ∧ ((m = 0 ∧ h = (vb, .svs [I64 (kk + 1 : Nat), SN]) :: X) ∨ (0 < m ∧ ∃ g3, ¬ g3 = vb ∧ ¬ vb = g3 ∧ fresh X g3 ∧ h = (g3, .svs (vCs (valP r m))) :: (vb, .svs [I64 (kk + 1 : Nat), .os g3 0 m 3]) :: X)) ∧ S = ⟨[(0, .op wb 0), (2, .op ob 0), (3, .op sb 0), (15, TL db), (16, I64 db.length), (17, I64 i), (6, .op tb 0), (42, .fl L.length 1 (gL L)), (43, I64 L.length), (44, I64 kk), (9, .op vb 0), (52, IL r), (53, I64 r.length), (54, I64 m)], h⟩) := ⟨fun q S => _, fun _ _ => Iff.rfl⟩
          refine SW.loop' J r.length ((hJ _ _).2 ⟨0, _, rfl, Nat.zero_le _, .inl ⟨rfl, rfl⟩, rfl⟩) (by repeat' (first | exact rfl | exact trivial | constructor)) ?_
          intro q S hIn
          obtain ⟨m, h, rfl, hm, hV, rfl⟩ := (hJ _ _).1 hIn
          clear hIn
          have me : ((m : Nat) : Int).toNat = m := Int.toNat_natCast _
          have m0 : (0 : Int) ≤ ((m : Nat) : Int) := by omega
          by_cases hmn : m < r.length
          · have hmi : ((m : Nat) : Int) < ((r.length : Nat) : Int) := by omega
            have wm : IntKind.i64.wrap ((m : Int) + 1) = ((m + 1 : Nat) : Int) := by rw [i64_wrap (by omega) (by omega)]; omega
            have hvp := valP_succ hmn
            have hvl := valP_len (show m ≤ r.length by omega)
            have fm : iF r m = [I64 (r.getD m 0)] := rfl
            have bm : (m + 1) * 32 ≤ 140737488355328 := by omega
            have hn1 : vC (nvW (r.getD m 0)) = [I64 1, I64 (r.getD m 0), Str ⟨#[]⟩] := rfl
            generalize r.getD m 0 = x9 at *
            rcases hV with ⟨hm0, rfl⟩ | ⟨hm0, g3, f1, f2, f3, rfl⟩
            · subst hm0
              have hD := And.intro v0f trivial
              have hv0 : vCs (valP r (0 + 1)) = [I64 1, I64 x9, Str ⟨#[]⟩] := by rw [hvp]; rfl
              repeat' first | (with_reducible refine And.intro (by omega) ?_) | (refine SW.seq_k fun K hK => ?_) | (refine SW.block ?_) | ((first | refine SW.region ?_ | refine SW.cond ?_ | refine SW.skip ?_ | (refine allF_i fun b hb => ?_; replace hD := And.intro hb hD; clear hb; try simp only [fresh_cons, fresh_nil, and_true, ne_eq, neF] at hD) | simp only [appK, appOsK]); try simp only [go_sem, hD, hmi, me, m0, wm, fm, bm, true_implies]) | (refine And.intro (by omega) ?_) | (refine ifI (fun hc => ?_) (fun hc => ?_) <;> first | (exfalso; omega) | skip) | (apply hK; clear hK K)
              obtain ⟨nb, rfl⟩ : ∃ x, x = b := ⟨_, rfl⟩
              refine Rnd.le (St.le_slist (List.Sublist.cons_cons _ (List.Sublist.cons _ (List.Sublist.refl _)))) ?_
              refine Rnd.sub (r.length - (0 + 1)) (by omega) ((hJ _ _).2 ⟨0 + 1, _, rfl, by omega, .inr ⟨by omega, nb, by simp [hD], by simp [hD], by simp [hD], by rw [hv0]⟩, rfl⟩) (by repeat' (first | exact rfl | exact trivial | constructor))
            · have hD := And.intro (And.intro (eq_false f1) (eq_false f2)) (And.intro f3 v0f)
              have hvc : (vCs (valP r m)).length = m * 3 := by rw [← vCs_len, hvl]
              have hvn : vCs (valP r (m + 1)) = vCs (valP r m) ++ [I64 1, I64 x9, Str ⟨#[]⟩] := by rw [hvp, ← vCs_snoc]; rfl
              repeat' first | (with_reducible refine And.intro (by omega) ?_) | (refine SW.seq_k fun K hK => ?_) | (refine SW.block ?_) | ((first | refine SW.region ?_ | refine SW.cond ?_ | refine SW.skip ?_ | (refine allF_i fun b hb => ?_; replace hD := And.intro hb hD; clear hb; try simp only [fresh_cons, fresh_nil, and_true, ne_eq, neF] at hD) | simp only [appK, appOsK]); try simp only [go_sem, hD, hmi, me, m0, wm, fm, bm, hvc, true_implies]) | (apply hK; clear hK K)
              obtain ⟨nb, rfl⟩ : ∃ x, x = b := ⟨_, rfl⟩
              refine Rnd.le (St.le_slist (List.Sublist.cons _ (List.Sublist.refl _))) ?_
              refine Rnd.sub (r.length - (m + 1)) (by omega) ((hJ _ _).2 ⟨m + 1, _, rfl, by omega, .inr ⟨by omega, nb, by simp [hD], by simp [hD], by simp [hD], by rw [hvn]⟩, rfl⟩) (by repeat' (first | exact rfl | exact trivial | constructor))
          have hmi : ¬ ((m : Nat) : Int) < ((r.length : Nat) : Int) := by omega
          obtain rfl : m = r.length := by omega
          have hVl := valP_len (Nat.le_refl r.length)
          have hVa := valP_all r
          generalize valP r r.length = V at *
          apply Ab.SW.le (S' := ⟨[(0, .op wb 0), (2, .op ob 0), (3, .op sb 0), (15, TL db), (16, I64 db.length), (17, I64 i), (6, .op tb 0), (42, .fl L.length 1 (gL L)), (43, I64 L.length), (44, I64 kk), (9, .op vb 0), (52, IL r), (53, I64 r.length), (54, I64 r.length)], (vb, .svs [I64 (kk + 1 : Nat), VL V]) :: X⟩)
          · rcases hV with ⟨hm0, rfl⟩ | ⟨hm0, g3, f1, f2, f3, rfl⟩
            · have hVn : V = [] := List.eq_nil_of_length_eq_zero (by omega)
              subst hVn
              have := St.le_nilC (t := [(0, .op wb 0), (2, .op ob 0), (3, .op sb 0), (15, TL db), (16, I64 db.length), (17, I64 i), (6, .op tb 0), (42, .fl L.length 1 (gL L)), (43, I64 L.length), (44, I64 kk), (9, .op vb 0), (52, IL r), (53, I64 r.length), (54, I64 r.length)]) (h := (vb, .svs [I64 (kk + 1 : Nat), SN]) :: X) (c := vb) (j := 1) (sz := 3) (f := vF []) (by rw [find_cons, if_pos rfl]) (by show 1 < 2; omega) rfl
              rw [upd_cons, if_pos rfl] at this
              exact this
            · have := St.le_accC (t := [(0, .op wb 0), (2, .op ob 0), (3, .op sb 0), (15, TL db), (16, I64 db.length), (17, I64 i), (6, .op tb 0), (42, .fl L.length 1 (gL L)), (43, I64 L.length), (44, I64 kk), (9, .op vb 0), (52, IL r), (53, I64 r.length), (54, I64 r.length)]) (sz := 3) (n := r.length) (c := vb) (j := 1) (Acc.osH (b := g3) (cs := vCs V) (h0 := (vb, .svs [I64 (kk + 1 : Nat), .os g3 0 r.length 3]) :: X) (by simp only [fresh_cons, ne_eq]; exact ⟨⟨f2, f1⟩, f3⟩) (by rw [← vCs_len, hVl])) (by rw [find_cons, if_pos rfl]) (by show 1 < 2; omega) rfl (vF V) (fun j hj => vCs_at V j (by omega))
              rw [upd_cons, if_pos rfl] at this
              unfold VL
              rw [hVl]
              exact this
          subst hVa
          subst hX
          subst hk0
          have hP0 : Pk = [] := List.eq_nil_of_length_eq_zero hrl
          subst hP0
          have hD := hDo
          have hr1 : fC rC (rowsP L (0 + 1)) = [I64 (0 + 1 : Nat), VL (r.map nvW)] := by rw [hsn, hrw]; rfl
          repeat' first | (with_reducible refine And.intro (by omega) ?_) | (refine SW.seq_k fun K hK => ?_) | ((first | refine SW.region ?_ | refine SW.cond ?_ | refine SW.exit ?_ | (refine allF_i fun b hb => ?_; replace hD := And.intro hb hD; clear hb; try simp only [fresh_cons, fresh_nil, and_true, ne_eq, neF] at hD) | simp only [appK, appOsK]); try simp only [go_sem, hD, hmi, ow1, w1, bk, true_implies]) | (refine And.intro (by omega) ?_) | (apply hK; clear hK K) | (clear hK K; apply hK; clear hK K)
          refine Rnd.le (St.le_slist (List.Sublist.cons_cons _ (List.Sublist.cons _ (List.Sublist.cons _ (List.Sublist.refl _))))) ?_
          refine Rnd.sub (L.length - (0 + 1)) (by omega) ((hI _ _).2 ⟨0 + 1, _, rfl, by omega, .inr ⟨by omega, b, by simp [hD], by simp [hD], by simp [hD], by rw [hr1]⟩, rfl⟩) (by repeat' (first | exact rfl | exact trivial | constructor))
        · have hD := And.intro (And.intro (eq_false u1) (eq_false u2)) (And.intro u3 hTR)
          repeat' first | (refine SW.seq_k fun K hK => ?_) | (refine SW.block ?_) | ((first | refine SW.region ?_ | refine SW.cond ?_ | refine SW.skip ?_ | (refine allF_i fun b hb => ?_; replace hD := And.intro hb hD; clear hb; try simp only [fresh_cons, fresh_nil, and_true, ne_eq, neF] at hD)); try simp only [go_sem, hD, hli, ie, i0, w1, fk, true_implies]) | (apply hK; clear hK K)
          obtain ⟨vb, rfl⟩ : ∃ x, x = b := ⟨_, rfl⟩
          have hDo := hD
          obtain ⟨X, hX⟩ : ∃ X : Heap, X = (g2, .svs (fC rC Pk)) :: (tb, .svs [Str tn, SL ta, .os g2 0 kk 2]) :: R := ⟨_, rfl⟩
          rw [← hX]
          have v0f : fresh X vb := by rw [hX]; simp [fresh_cons, hD]
          clear hD
          obtain ⟨J, hJ⟩ : ∃ J : Nat → St → Prop, ∀ q S, J q S ↔ (∃ (m : Nat) (h : Heap), q = r.length - m ∧ m ≤ r.length ∧ ((m = 0 ∧ h = (vb, .svs [I64 (kk + 1 : Nat), SN]) :: X) ∨ (0 < m ∧ ∃ g3, ¬ g3 = vb ∧ ¬ vb = g3 ∧ fresh X g3 ∧ h = (g3, .svs (vCs (valP r m))) :: (vb, .svs [I64 (kk + 1 : Nat), .os g3 0 m 3]) :: X)) ∧ S = ⟨[(0, .op wb 0), (2, .op ob 0), (3, .op sb 0), (15, TL db), (16, I64 db.length), (17, I64 i), (6, .op tb 0), (42, .fl L.length 1 (gL L)), (43, I64 L.length), (44, I64 kk), (9, .op vb 0), (52, IL r), (53, I64 r.length), (54, I64 m)], h⟩) := ⟨fun q S => _, fun _ _ => Iff.rfl⟩
          refine SW.loop' J r.length ((hJ _ _).2 ⟨0, _, rfl, Nat.zero_le _, .inl ⟨rfl, rfl⟩, rfl⟩) (by repeat' (first | exact rfl | exact trivial | constructor)) ?_
          intro q S hIn
          obtain ⟨m, h, rfl, hm, hV, rfl⟩ := (hJ _ _).1 hIn
          clear hIn
          have me : ((m : Nat) : Int).toNat = m := Int.toNat_natCast _
          have m0 : (0 : Int) ≤ ((m : Nat) : Int) := by omega
          by_cases hmn : m < r.length
          · have hmi : ((m : Nat) : Int) < ((r.length : Nat) : Int) := by omega
            have wm : IntKind.i64.wrap ((m : Int) + 1) = ((m + 1 : Nat) : Int) := by rw [i64_wrap (by omega) (by omega)]; omega
            have hvp := valP_succ hmn
            have hvl := valP_len (show m ≤ r.length by omega)
            have fm : iF r m = [I64 (r.getD m 0)] := rfl
            have bm : (m + 1) * 32 ≤ 140737488355328 := by omega
            have hn1 : vC (nvW (r.getD m 0)) = [I64 1, I64 (r.getD m 0), Str ⟨#[]⟩] := rfl
            generalize r.getD m 0 = x9 at *
            rcases hV with ⟨hm0, rfl⟩ | ⟨hm0, g3, f1, f2, f3, rfl⟩
            · subst hm0
              have hD := And.intro v0f trivial
              have hv0 : vCs (valP r (0 + 1)) = [I64 1, I64 x9, Str ⟨#[]⟩] := by rw [hvp]; rfl
              repeat' first | (with_reducible refine And.intro (by omega) ?_) | (refine SW.seq_k fun K hK => ?_) | (refine SW.block ?_) | ((first | refine SW.region ?_ | refine SW.cond ?_ | refine SW.skip ?_ | (refine allF_i fun b hb => ?_; replace hD := And.intro hb hD; clear hb; try simp only [fresh_cons, fresh_nil, and_true, ne_eq, neF] at hD) | simp only [appK, appOsK]); try simp only [go_sem, hD, hmi, me, m0, wm, fm, bm, true_implies]) | (refine And.intro (by omega) ?_) | (refine ifI (fun hc => ?_) (fun hc => ?_) <;> first | (exfalso; omega) | skip) | (apply hK; clear hK K)
              obtain ⟨nb, rfl⟩ : ∃ x, x = b := ⟨_, rfl⟩
              refine Rnd.le (St.le_slist (List.Sublist.cons_cons _ (List.Sublist.cons _ (List.Sublist.refl _)))) ?_
              refine Rnd.sub (r.length - (0 + 1)) (by omega) ((hJ _ _).2 ⟨0 + 1, _, rfl, by omega, .inr ⟨by omega, nb, by simp [hD], by simp [hD], by simp [hD], by rw [hv0]⟩, rfl⟩) (by repeat' (first | exact rfl | exact trivial | constructor))
            · have hD := And.intro (And.intro (eq_false f1) (eq_false f2)) (And.intro f3 v0f)
              have hvc : (vCs (valP r m)).length = m * 3 := by rw [← vCs_len, hvl]
              have hvn : vCs (valP r (m + 1)) = vCs (valP r m) ++ [I64 1, I64 x9, Str ⟨#[]⟩] := by rw [hvp, ← vCs_snoc]; rfl
              repeat' first | (with_reducible refine And.intro (by omega) ?_) | (refine SW.seq_k fun K hK => ?_) | (refine SW.block ?_) | ((first | refine SW.region ?_ | refine SW.cond ?_ | refine SW.skip ?_ | (refine allF_i fun b hb => ?_; replace hD := And.intro hb hD; clear hb; try simp only [fresh_cons, fresh_nil, and_true, ne_eq, neF] at hD) | simp only [appK, appOsK]); try simp only [go_sem, hD, hmi, me, m0, wm, fm, bm, hvc, true_implies]) | (apply hK; clear hK K)
              obtain ⟨nb, rfl⟩ : ∃ x, x = b := ⟨_, rfl⟩
              refine Rnd.le (St.le_slist (List.Sublist.cons _ (List.Sublist.refl _))) ?_
              refine Rnd.sub (r.length - (m + 1)) (by omega) ((hJ _ _).2 ⟨m + 1, _, rfl, by omega, .inr ⟨by omega, nb, by simp [hD], by simp [hD], by simp [hD], by rw [hvn]⟩, rfl⟩) (by repeat' (first | exact rfl | exact trivial | constructor))
          have hmi : ¬ ((m : Nat) : Int) < ((r.length : Nat) : Int) := by omega
          obtain rfl : m = r.length := by omega
          have hVl := valP_len (Nat.le_refl r.length)
          have hVa := valP_all r
          generalize valP r r.length = V at *
          apply Ab.SW.le (S' := ⟨[(0, .op wb 0), (2, .op ob 0), (3, .op sb 0), (15, TL db), (16, I64 db.length), (17, I64 i), (6, .op tb 0), (42, .fl L.length 1 (gL L)), (43, I64 L.length), (44, I64 kk), (9, .op vb 0), (52, IL r), (53, I64 r.length), (54, I64 r.length)], (vb, .svs [I64 (kk + 1 : Nat), VL V]) :: X⟩)
          · rcases hV with ⟨hm0, rfl⟩ | ⟨hm0, g3, f1, f2, f3, rfl⟩
            · have hVn : V = [] := List.eq_nil_of_length_eq_zero (by omega)
              subst hVn
              have := St.le_nilC (t := [(0, .op wb 0), (2, .op ob 0), (3, .op sb 0), (15, TL db), (16, I64 db.length), (17, I64 i), (6, .op tb 0), (42, .fl L.length 1 (gL L)), (43, I64 L.length), (44, I64 kk), (9, .op vb 0), (52, IL r), (53, I64 r.length), (54, I64 r.length)]) (h := (vb, .svs [I64 (kk + 1 : Nat), SN]) :: X) (c := vb) (j := 1) (sz := 3) (f := vF []) (by rw [find_cons, if_pos rfl]) (by show 1 < 2; omega) rfl
              rw [upd_cons, if_pos rfl] at this
              exact this
            · have := St.le_accC (t := [(0, .op wb 0), (2, .op ob 0), (3, .op sb 0), (15, TL db), (16, I64 db.length), (17, I64 i), (6, .op tb 0), (42, .fl L.length 1 (gL L)), (43, I64 L.length), (44, I64 kk), (9, .op vb 0), (52, IL r), (53, I64 r.length), (54, I64 r.length)]) (sz := 3) (n := r.length) (c := vb) (j := 1) (Acc.osH (b := g3) (cs := vCs V) (h0 := (vb, .svs [I64 (kk + 1 : Nat), .os g3 0 r.length 3]) :: X) (by simp only [fresh_cons, ne_eq]; exact ⟨⟨f2, f1⟩, f3⟩) (by rw [← vCs_len, hVl])) (by rw [find_cons, if_pos rfl]) (by show 1 < 2; omega) rfl (vF V) (fun j hj => vCs_at V j (by omega))
              rw [upd_cons, if_pos rfl] at this
              unfold VL
              rw [hVl]
              exact this
          subst hVa
          subst hX
          have hD := hDo
          have hfc : (fC rC Pk).length = kk * 2 := by rw [← fC_len (k := 2) (fun _ => rfl), hrl]
          have hr1 : fC rC (rowsP L (kk + 1)) = fC rC Pk ++ [I64 (kk + 1 : Nat), VL (r.map nvW)] := by rw [hsn, ← fC_snoc, hrw]; rfl
          repeat' first | (with_reducible refine And.intro (by omega) ?_) | (refine SW.seq_k fun K hK => ?_) | ((first | refine SW.region ?_ | refine SW.cond ?_ | refine SW.exit ?_ | (refine allF_i fun b hb => ?_; replace hD := And.intro hb hD; clear hb; try simp only [fresh_cons, fresh_nil, and_true, ne_eq, neF] at hD) | simp only [appK, appOsK]); try simp only [go_sem, hD, hmi, ow1, w1, bk, hfc, true_implies]) | (apply hK; clear hK K) | (clear hK K; apply hK; clear hK K)
          refine Rnd.le (St.le_slist (List.Sublist.cons _ (List.Sublist.cons _ (List.Sublist.refl _)))) ?_
          refine Rnd.sub (L.length - (kk + 1)) (by omega) ((hI _ _).2 ⟨kk + 1, _, rfl, by omega, .inr ⟨by omega, b, by simp [hD], by simp [hD], by simp [hD], by rw [hr1]⟩, rfl⟩) (by repeat' (first | exact rfl | exact trivial | constructor))
      · have hli : ¬ ((kk : Nat) : Int) < (((L.length) : Nat) : Int) := by omega
        obtain rfl : kk = L.length := by omega
        have hPl := rowsP_len L L.length
        generalize rowsP L L.length = P at *
        apply Ab.SW.le (S' := ⟨[(0, .op wb 0), (2, .op ob 0), (3, .op sb 0), (15, TL db), (16, I64 db.length), (17, I64 i), (6, .op tb 0), (42, .fl L.length 1 (gL L)), (43, I64 L.length), (44, I64 L.length)], (tb, .svs [Str tn, SL ta, RL P]) :: R⟩)
        · rcases hB with ⟨hk0, rfl⟩ | ⟨hk0, g2, u1, u2, u3, rfl⟩
          · have hPn : P = [] := List.eq_nil_of_length_eq_zero (by omega)
            subst hPn
            have := St.le_nilC (t := [(0, .op wb 0), (2, .op ob 0), (3, .op sb 0), (15, TL db), (16, I64 db.length), (17, I64 i), (6, .op tb 0), (42, .fl L.length 1 (gL L)), (43, I64 L.length), (44, I64 L.length)]) (h := (tb, .svs [Str tn, SL ta, SN]) :: R) (c := tb) (j := 2) (sz := 2) (f := rF []) (by rw [find_cons, if_pos rfl]) (by show 2 < 3; omega) rfl
            rw [upd_cons, if_pos rfl] at this
            exact this
          · have := St.le_accC (t := [(0, .op wb 0), (2, .op ob 0), (3, .op sb 0), (15, TL db), (16, I64 db.length), (17, I64 i), (6, .op tb 0), (42, .fl L.length 1 (gL L)), (43, I64 L.length), (44, I64 L.length)]) (sz := 2) (n := L.length) (c := tb) (j := 2) (Acc.osH (b := g2) (cs := fC rC P) (h0 := (tb, .svs [Str tn, SL ta, .os g2 0 L.length 2]) :: R) (by simp only [fresh_cons, ne_eq]; exact ⟨⟨u2, u1⟩, u3⟩) (by rw [← fC_len (k := 2) (fun _ => rfl), hPl])) (by rw [find_cons, if_pos rfl]) (by show 2 < 3; omega) rfl (rF P) (fun j hj => fC_at (enc := rC) (k := 2) (fun _ => rfl) r0 P j (by omega))
            rw [upd_cons, if_pos rfl] at this
            unfold RL
            rw [hPl]
            exact this
        · subst hR
          clear hB hI
          have hFn : fC tC (F (i + 1)) = fC tC (F i) ++ [Str tn, SL ta, RL P] := by rw [hFi2, ← fC_snoc]
          have hFi3 := hFl i
          have hfc : (fC tC (F i)).length = i * 3 := by rw [← fC_len (k := 3) (fun _ => rfl), hFi3]
          have bi : (i + 1) * 64 ≤ 140737488355328 := by omega
          rcases hG with ⟨hi0, rfl, rfl⟩ | ⟨hi0, g, rfl, rfl⟩
          · subst hi0
            have hD := And.intro hTR hEE
            simp only [fresh_cons, ne_eq, neF, List.nil_append] at hD
            repeat' first | (with_reducible refine And.intro (by omega) ?_) | (refine SW.seq_k fun K hK => ?_) | ((first | refine SW.region ?_ | refine SW.cond ?_ | refine SW.exit ?_ | (refine allF_i fun b hb => ?_; replace hD := And.intro hb hD; clear hb; try simp only [fresh_cons, fresh_nil, and_true, ne_eq, neF] at hD) | simp only [appK, appOsK]); try simp only [go_sem, hD, hli, ow1, bi, true_implies]) | (refine And.intro (by omega) ?_) | (refine ifI (fun hc => ?_) (fun hc => ?_) <;> first | (exfalso; omega) | skip) | (apply hK; clear hK K) | (clear hK K; apply hK; clear hK K)
            have hF1 : fC tC (F (0 + 1)) = [Str tn, SL ta, RL P] := by rw [hFn, hF0]; rfl
            refine Rnd.le ((St.le_slist (List.Sublist.cons_cons _ (List.Sublist.cons _ (List.Sublist.cons _ (List.Sublist.refl _))))).trans (St.le_perm (h' := [(sb, .svs [.os b 0 1 3]), (ob, .svs [SN]), (wb, .svs [TL db, .os rb 0 ws.length 1, I64 z]), (rb, .svs cs')] ++ (b, .svs [Str tn, SL ta, RL P]) :: T) (List.perm_middle (l₁ := [(sb, Blk.svs [.os b 0 1 3]), (ob, Blk.svs [SN]), (wb, Blk.svs [TL db, .os rb 0 ws.length 1, I64 z]), (rb, Blk.svs cs')])))) ?_
            refine Rnd.sub (db.length - (0 + 1)) (by omega) ((hIO _ _).2 ⟨0 + 1, cs', .os b 0 (0 + 1) 3, [(b, .svs [Str tn, SL ta, RL P])], rfl, by omega, hcsl, hcs3, .inr ⟨by omega, b, rfl, by rw [hF1]⟩, by rw [hTL]; rfl⟩) (by repeat' (first | exact rfl | exact trivial | constructor))
          · simp only [List.map_cons, List.cons_append, List.nil_append, List.nodup_cons, List.mem_cons, not_or] at hnd3
            have g1 : ¬ sb = g := hnd3.2.1.2.2.2.1
            have g2 : ¬ ob = g := hnd3.2.2.1.2.2.1
            have g3 : ¬ wb = g := hnd3.2.2.2.1.2.1
            have g4 : ¬ rb = g := hnd3.2.2.2.2.1.1
            have hD := And.intro (And.intro (And.intro (And.intro (eq_false g1) (eq_false (Ne.symm g1))) (And.intro (eq_false g2) (eq_false (Ne.symm g2)))) (And.intro (And.intro (eq_false g3) (eq_false (Ne.symm g3))) (And.intro (eq_false g4) (eq_false (Ne.symm g4))))) (And.intro hTR hEE)
            simp only [fresh_cons, ne_eq, neF, List.cons_append, List.nil_append] at hD
            simp only [List.cons_append, List.nil_append]
            repeat' first | (with_reducible refine And.intro (by omega) ?_) | (refine SW.seq_k fun K hK => ?_) | ((first | refine SW.region ?_ | refine SW.cond ?_ | refine SW.exit ?_ | (refine allF_i fun b hb => ?_; replace hD := And.intro hb hD; clear hb; try simp only [fresh_cons, fresh_nil, and_true, ne_eq, neF] at hD) | simp only [appK, appOsK]); try simp only [go_sem, hD, hli, ow1, bi, hfc, true_implies]) | (apply hK; clear hK K) | (clear hK K; apply hK; clear hK K)
            refine Rnd.le (St.le_slist (List.Sublist.cons _ (List.Sublist.cons _ (List.Sublist.refl _)))) ?_
            refine Rnd.sub (db.length - (i + 1)) (by omega) ((hIO _ _).2 ⟨i + 1, cs', .os b 0 (i + 1) 3, [(b, .svs (fC tC (F i) ++ [Str tn, SL ta, RL P]))], rfl, by omega, hcsl, hcs3, .inr ⟨by omega, b, rfl, by rw [hFn]⟩, by rw [hTL]; rfl⟩) (by repeat' (first | exact rfl | exact trivial | constructor))
    obtain ⟨C, Q', hK2, key⟩ := key
    clear hK
    by_cases h0 : L0 = []
    · subst h0
      have hwn : wc (b0, ([] : List (List Int))) = SN := if_pos rfl
      have hwb : wb1 (b0, ([] : List (List Int))) = [] := if_pos rfl
      rw [hwn] at hgi
      rw [hwn, hwb]
      rw [show (srtL []).length = 0 by rw [srt_len]; rfl] at key
      refine Call.of_pure sort_nil ?_
      refine hK2 _ (SW.nd fun hnd2 => Ab.SW.le ?_ key)
      refine St.le.trans (St.le_nilC (c := rb) (j := i) (sz := 1) (f := gL (srtL [])) (cs := cs) (find_of_mem hnd2 (by simp)) ict hgi) ?_
      simp only [go_sem, hD]
      refine St.le.trans (S' := ⟨[(0, .op wb 0), (2, .op ob 0), (3, .op sb 0), (4, I64 i), (6, .op tb 0), (15, TL db), (16, I64 db.length), (17, I64 i)], _⟩) (St.le_sub (by repeat' (first | exact rfl | exact trivial | constructor))) (St.le_slist (List.Sublist.cons_cons _ (List.Sublist.cons _ (List.Sublist.refl _))))
    · have hwn : wc (b0, L0) = .os b0 0 L0.length 1 := if_neg h0
      have hwb : wb1 (b0, L0) = [(b0, .svs (gC L0))] := if_neg h0
      rw [hwn] at hgi
      rw [hwn, hwb]
      have csr := sort_rows b0 L0 h0 hwi.2.1 (by omega) (fun r hr => by have := hwi.2.2 r hr; omega)
      have hp : ((b0, Blk.svs (gC L0)) :: ([(tb, .svs [Str tn, SL ta, SN]), (b5, .svs [Str tn, SL ta, RL tr]), (sb, .svs [x]), (ob, .svs [SN]), (wb, .svs [TL db, .os rb 0 ws.length 1, I64 z]), (rb, .svs cs)] ++ G ++ T)).Perm ([(tb, .svs [Str tn, SL ta, SN]), (b5, .svs [Str tn, SL ta, RL tr]), (sb, .svs [x]), (ob, .svs [SN]), (wb, .svs [TL db, .os rb 0 ws.length 1, I64 z]), (rb, .svs cs)] ++ G ++ (b0, Blk.svs (gC L0)) :: T) := List.perm_middle.symm
      refine Call.permN (Call.mono (Call.frameN (h2 := [(tb, .svs [Str tn, SL ta, SN]), (b5, .svs [Str tn, SL ta, RL tr]), (sb, .svs [x]), (ob, .svs [SN]), (wb, .svs [TL db, .os rb 0 ws.length 1, I64 z]), (rb, .svs cs)] ++ G ++ T) csr) fun r h' hx => ?_) hp
      obtain ⟨h1, rfl, ⟨rfl, rfl⟩, hnd2⟩ := hx
      have hLl := srt_len L0
      have hrb : ¬ rb = b0 := fun e => by
        have := (List.nodup_cons.1 hnd2).1
        exact this (by rw [← e]; simp)
      refine hK2 _ (Ab.SW.le ?_ key)
      refine St.le.trans (St.le_freezeC (c := rb) (j := i) (b := b0) (off := 0) (len := L0.length) (sz := 1) (k := .svs (gC (srtL L0))) (cs := cs) (find_of_mem hnd2 (by simp)) hrb ict hgi (find_of_mem hnd2 (by exact List.mem_append_left _ (List.mem_singleton.2 rfl))) (by rw [Blk.len_svs, gC_len, hLl]; omega) (gL (srtL L0)) (fun p hp => by
        rw [getN_take _ _ _ (by rw [Blk.len_svs, gC_len, hLl]; omega), Nat.zero_add, Nat.mul_one]
        exact gC_at (by rw [hLl]; exact hp))) ?_
      rw [← hLl]
      simp only [List.cons_append, List.nil_append, del_head]
      simp only [go_sem, hD]
      refine St.le.trans (S' := ⟨[(0, .op wb 0), (2, .op ob 0), (3, .op sb 0), (4, I64 i), (6, .op tb 0), (15, TL db), (16, I64 db.length), (17, I64 i)], _⟩) (St.le_sub (by repeat' (first | exact rfl | exact trivial | constructor))) (St.le_slist (List.Sublist.cons_cons _ (List.Sublist.cons _ (List.Sublist.refl _))))
  · have hli : ¬ ((i : Nat) : Int) < (((db.length) : Nat) : Int) := by omega
    obtain rfl : i = db.length := by omega
    have hFn := hFl db.length
    clear hFs hFl hF0 hcs
    generalize F db.length = P at *
    refine Ab.SW.le (S' := ⟨[(2, .op ob 0), (3, .op sb 0), (15, TL db), (16, I64 db.length), (17, I64 db.length)], [(sb, .svs [TL P]), (ob, .svs [SN])]⟩) (St.le.trans (S' := ⟨[(2, .op ob 0), (3, .op sb 0), (15, TL db), (16, I64 db.length), (17, I64 db.length)], _⟩) (St.le_sub (by repeat' (first | exact rfl | exact trivial | constructor))) ?_) ?_
    · rcases hG with ⟨hi0, rfl, rfl⟩ | ⟨hi0, g, rfl, rfl⟩
      · have hPn : P = [] := List.eq_nil_of_length_eq_zero (by omega)
        subst hPn
        refine St.le.trans (St.le_slist (h' := [(sb, .svs [SN]), (ob, .svs [SN])]) (List.Sublist.cons_cons _ (List.Sublist.cons_cons _ (List.nil_sublist _)))) ?_
        have := St.le_nilC (t := [(2, .op ob 0), (3, .op sb 0), (15, TL db), (16, I64 db.length), (17, I64 db.length)]) (h := [(sb, .svs [SN]), (ob, .svs [SN])]) (c := sb) (j := 0) (sz := 3) (f := tF []) (by rw [find_cons, if_pos rfl]) (by show 0 < 1; omega) rfl
        rw [upd_cons, if_pos rfl] at this
        exact this
      · simp only [List.map_cons, List.cons_append, List.nil_append, List.nodup_cons, List.mem_cons, not_or] at hnd
        have g1 : ¬ sb = g := hnd.1.2.2.2.1
        have g2 : ¬ ob = g := hnd.2.1.2.2.1
        refine St.le.trans (St.le_slist (h' := [(sb, .svs [.os g 0 db.length 3]), (ob, .svs [SN]), (g, .svs (fC tC P))]) (List.Sublist.cons_cons _ (List.Sublist.cons_cons _ (List.Sublist.cons _ (List.Sublist.cons _ (List.Sublist.cons_cons _ (List.nil_sublist _))))))) ?_
        have s1 := St.le_freezeC (t := [(2, .op ob 0), (3, .op sb 0), (15, TL db), (16, I64 db.length), (17, I64 db.length)]) (h := [(sb, .svs [.os g 0 db.length 3]), (ob, .svs [SN]), (g, .svs (fC tC P))]) (c := sb) (j := 0) (b := g) (off := 0) (len := db.length) (sz := 3) (by rw [find_cons, if_pos rfl]) g1 (by show 0 < 1; omega) rfl (by rw [find_cons, if_neg g1, find_cons, if_neg g2, find_cons, if_pos rfl]) (by show 0 + db.length * 3 ≤ (fC tC P).length; rw [← fC_len (enc := tC) (k := 3) (fun _ => rfl)]; omega) (tF P) (fun j hj => by
          rw [getN_take _ _ _ (by show 0 + j * 3 + 3 ≤ (fC tC P).length; have := fC_lt (enc := tC) (k := 3) (fun _ => rfl) (show j < P.length by omega) (show 2 < 3 by omega); omega), Nat.zero_add]
          exact fC_at (enc := tC) (k := 3) (fun _ => rfl) t0 P j (by omega))
        rw [del_cons, if_neg g1, del_cons, if_neg g2, del_cons, if_pos rfl, upd_cons, if_pos rfl] at s1
        rw [show TL P = .fl db.length 3 (tF P) by unfold TL; rw [hFn]]
        exact s1
    · simp only [List.map_cons, List.nodup_cons, List.mem_cons, not_or] at hnd
      have e1 : ¬ sb = ob := hnd.1.1
      have hD := And.intro (eq_false e1) (eq_false (Ne.symm e1))
      repeat' first | (refine SW.seq_k fun K hK => ?_) | ((first | refine SW.region ?_ | refine SW.cond ?_ | refine SW.exit ?_ | refine SW.ret ?_); try simp only [go_sem, hD, hli, true_implies]) | (apply hK; clear hK K) | (clear hK K; apply hK; clear hK K)
      refine retQ_le (S' := ⟨[(2, .fp [TL P])], []⟩) ?_ ?_
      · refine St.le.trans (St.le_freezeP (i := 2) (b := ob) (off := 0) (n := 1) (k := .svs [TL P]) rfl (by simp [find_cons, hD]) (by exact Nat.le_refl 1)) ?_
        simp only [getN, Blk.get, go_sem, hD]
        exact St.le.trans St.le_drop (St.le_sub (by repeat' (first | exact rfl | exact trivial | constructor)))
      · simp only [resL_tmp, resL_cellE, resC_ok, resL_nil, tupOf, getN, go_sem, hD]
        try exact ⟨rfl, rfl⟩
end Go.Proofs.YtblfodnajpamfaaGreatDoor
namespace Go.Proofs.YtblfodnajpamfaaGreatDoor
open Go Go.Ab Go.Ab.A34 Go.Ab.A15
variable [Gl] [Tabs]
theorem Cl.le16 {db : List Tb} {l : List Dp} {g : Dp} (V : Vdb db) {s : Nat} {r : List Int} (h : Cl (nmsOf db) (nsOf db) l g s r) : r.length ≤ 16 := by
  rw [h.len]
  exact V.ns s
theorem ns_at (db : List Tb) (i : Nat) : (nsOf db).getD i 0 = (db.getD i t0).attrs.length := by
  unfold nsOf
  simp only [List.getD_eq_getElem?_getD, List.getElem?_map]
  cases db[i]? <;> rfl
theorem grow_c (wb rb : Nat) (db : List Tb) (l : List Dp) (g : Dp) (V : Vall db l g) (h4 : db.length ≤ 4) (z : Int) (ws : List Wt) (hI : WI (Cl (nmsOf db) (nsOf db) l g) ws z) (hN : ws.length = db.length) (hz : z ≤ 401) (d : Dp) (hd : d ∈ l) :
    Ab.Call Tryz.prog 49 [.op wb 0, DV d] (WH wb rb (TL db) z ws) (fun r h' => ∃ ws' z' g', r = SB g' ∧ h'.Perm (WH wb rb (TL db) z' ws') ∧ WI (Cl (nmsOf db) (nsOf db) l g) ws' z' ∧ ws'.length = db.length ∧ Beg ws ws' ∧
      (g' = false → z' = z ∧ ws' = ws ∧ (z ≤ 400 → Clo (nmsOf db) (nsOf db) (fun t => (ws.getD t w0).2) d)) ∧ (g' = true → z < z') ∧ z' ≤ 401) := by
  have F := V.l d hd
  have l1 := idxN_lt F.f
  have l2 := idxN_lt F.t
  have nl : (nmsOf db).length = db.length := by unfold nmsOf; rw [List.length_map]
  rw [nl] at l1 l2
  have e1 := tabI_idx (i := 0) F.f
  have e2 := tabI_idx (i := 0) F.t
  rw [Nat.zero_add] at e1 e2
  have b16 := in16_len F.nr (F.in16r V.vd)
  have t16 := V.vd.ns (idxN d.t (nmsOf db))
  have hr := F.r
  have hl := F.l
  rw [ns_at] at t16 hr
  have c := grow_w wb rb db z ws d (idxN d.f (nmsOf db)) (idxN d.t (nmsOf db)) (Cl (nmsOf db) (nsOf db) l g) hI hN.symm (by omega) (by omega) (by omega) (by omega) e1 e2 F.lr (by omega) F.nr (by omega) hr (fun r hc a ha => by rw [hc.len]; exact hl a ha) (fun s r hc => by have := Cl.le16 V.vd hc; omega) (fun r hc => by rw [← ns_at]; exact Cl.step d r hd hc)
  refine Call.mono c fun r h' hx => ?_
  obtain ⟨ws', z', g', rfl, hp, hw, hln, hb, h0, h1, hm⟩ := hx
  refine ⟨ws', z', g', rfl, hp, hw, hln.trans hN, hb, fun h => ?_, h1, by omega⟩
  obtain ⟨a1, a2, a3⟩ := h0 h
  refine ⟨a1, a2, fun hz4 r hr => ?_⟩
  rw [ns_at]
  exact a3 hz4 r hr
theorem refute_no (db : List Tb) (l : List Dp) (g : Dp) (hf : Few db l g) (h : allS db l g = 0) (hp : findS g.t g.r 0 (states l g) < 0) : PCall Tryz.prog 18 [DB db, DpL l, DV g] (refOut db l g) := by
  have c := implies_p db l g hf h
  rw [decide_eq_false (show ¬ 0 ≤ findS g.t g.r 0 (states l g) by omega)] at c
  have hd4 := hf.d4
  have cg := find_p g.f db db.length (by omega) rfl (tF db) (fun i hi => rfl)
  clear hp
  have V := allS_ok h
  obtain ⟨U, hU⟩ : ∃ U, U = refOut db l g := ⟨_, rfl⟩
  rw [← hU]
  have hat : ∀ t ∈ db, t.attrs.length ≤ 1000 := fun t ht => by have := (valid_rows (V.vd.v t ht)).2.1; omega
  have hgc := fun wb rb z ws => grow_c wb rb db l g V hd4 z ws
  have hdc := fun wb rb z ws => database_c wb rb db z ws
  have hno := @refOut_no db l g
  have hyes := @refOut_yes db l g
  rw [← hU] at hno hyes
  clear hU
  have hgf := V.g.f
  have hti := tabI_idx (i := 0) hgf
  obtain ⟨f, hfd⟩ : ∃ f, f = idxN g.f (nmsOf db) := ⟨_, rfl⟩
  rw [← hfd, Nat.zero_add] at hti
  rw [hti] at cg
  have hfl : f < db.length := by rw [hfd]; have := idxN_lt hgf; rwa [nmsOf, List.length_map] at this
  have hns : (nsOf db).getD f 0 = (db.getD f t0).attrs.length := by
    unfold nsOf
    simp [List.getD_eq_getElem?_getD, hfl]
  have hn16 := V.vd.ns f
  have hC1 : Cl (nmsOf db) (nsOf db) l g f (firstR (db.getD f t0).attrs.length g) := by
    rw [← hns, hfd]
    exact Cl.first
  have hCL := fun s r (hc : Cl (nmsOf db) (nsOf db) l g s r) => Cl.le16 V.vd hc
  have hGW : ∀ ws z, WI (Cl (nmsOf db) (nsOf db) l g) ws z → ws.length = db.length → firstR (db.getD f t0).attrs.length g ∈ (ws.getD f w0).2 → (∀ d ∈ l, Clo (nmsOf db) (nsOf db) (fun t => (ws.getD t w0).2) d) → z ≤ 400 → GoodW db l g ws z := fun ws z a b c d e => ⟨a, b, by rw [← hfd, hns]; exact c, d, e⟩
  have hyes2 : ∀ ws z, WI (Cl (nmsOf db) (nsOf db) l g) ws z → ws.length = db.length → firstR (db.getD f t0).attrs.length g ∈ (ws.getD f w0).2 → (∀ d ∈ l, Clo (nmsOf db) (nsOf db) (fun t => (ws.getD t w0).2) d) → z ≤ 400 → U = .tup [DB (refW db ws), I64 0] := fun ws z a b c d e => hyes (hGW ws z a b c d e)
  clear hGW hyes
  obtain ⟨C, hC⟩ : ∃ C, C = Cl (nmsOf db) (nsOf db) l g := ⟨_, rfl⟩
  rw [← hC] at hno hC1
  simp only [← hC] at hgc hCL hyes2
  clear hC
  have hgl := V.g.l
  rw [← hfd] at hgl
  rw [hns] at hn16 hgl
  have fdb : ((f : Nat) : Int) < ((db.length : Nat) : Int) := by omega
  have f0q : (0 : Int) ≤ ((f : Nat) : Int) := by omega
  have fe : ((f : Nat) : Int).toNat = f := Int.toNat_natCast _
  have ff : tF db f = tC (db.getD f t0) := rfl
  generalize db.getD f t0 = tt at *
  obtain ⟨tn, ta, tr⟩ := tt
  have tal : ta.length ≤ 16 := hn16
  have tan : ((ta.length : Nat) : Int).toNat = ta.length := Int.toNat_natCast _
  have ta0 : (0 : Int) ≤ ((ta.length : Nat) : Int) := by omega
  have ta8 : ((ta.length : Nat) : Int) * 8 ≤ 140737488355328 := by omega
  obtain ⟨gf, gl, gt, gr⟩ := g
  have dbn : ((db.length : Nat) : Int).toNat = db.length := Int.toNat_natCast _
  have db0 : (0 : Int) ≤ ((db.length : Nat) : Int) := by omega
  have db24 : ((db.length : Nat) : Int) * 24 ≤ 140737488355328 := by omega
  refine Call.enter' (N := 96) (rs := [.cell 6 30, .tmp 7]) Tryz.func18 rfl rfl rfl (by decide) rfl ?_; simp only [argT]; have hD : (0 : Nat) = 0 := rfl
  repeat' first | (with_reducible refine And.intro (by omega) ?_) | (refine SW.seq_k fun K hK => ?_) | (refine SW.block ?_) | ((first | refine SW.region ?_ | refine SW.regionZ (id := 6) (Checked.mixed Tryz.checked) ((.one 0 [0, 1, 6, 7, 8] (.one 1 [1, 6, 7, 8] (.one 2 [2, 3, 4, 5, 6, 7, 8] (.one 3 [3, 4, 5, 6, 7, 8] (.one 4 [4, 5, 6, 7, 8] (.alt 5 (.one 6 [6, 7, 8] (.alt 7 (.one 8 [8] .done) .nil)) .nil)))))) : OZ) (by kernel_rfl) ?_ | refine SW.cond ?_ | refine SW.skip ?_ | refine Call.of_pure (c) ?_ | refine Call.of_pure (cg) ?_ | (refine allF_i fun b hb => ?_; replace hD := And.intro hb hD; clear hb; try simp only [fresh_cons, fresh_nil, and_true, ne_eq, neF] at hD)); try simp only [go_sem, hD, dbn, db0, db24, fdb, f0q, fe, ff, tan, ta0, ta8, true_implies]) | (apply hK; clear hK K)
  obtain ⟨nb, rfl⟩ : ∃ x, x = b := ⟨_, rfl⟩
  obtain ⟨wb, rfl⟩ : ∃ x, x = b := ⟨_, rfl⟩
  obtain ⟨rb, rfl⟩ : ∃ x, x = b := ⟨_, rfl⟩
  obtain ⟨ob, rfl⟩ : ∃ x, x = b := ⟨_, rfl⟩
  have k1 : ¬ nb = wb := by simp [hD]
  have k2 : ¬ wb = nb := by simp [hD]
  have k3 : ¬ nb = rb := by simp [hD]
  have k4 : ¬ rb = nb := by simp [hD]
  have k5 : ¬ nb = ob := by simp [hD]
  have k6 : ¬ ob = nb := by simp [hD]
  have k7 : ¬ wb = rb := by simp [hD]
  have k8 : ¬ rb = wb := by simp [hD]
  have k9 : ¬ wb = ob := by simp [hD]
  have ka : ¬ ob = wb := by simp [hD]
  have kb : ¬ rb = ob := by simp [hD]
  have kc : ¬ ob = rb := by simp [hD]
  have hpz := parV_zero ta.length gl (fun k => (k : Int) + 1)
  rw [← hpz, ← ws0_wc]
  refine Ab.SW.le (St.le_pick [(nb, .ints .i64 (parV ta.length gl (fun k => (k : Int) + 1) 0)), (wb, .svs [TL db, .os rb 0 db.length 1, I64 0]), (rb, .svs ((ws0 db.length).map wc)), (ob, .svs [SN])] ?_ ?_) ?_
  · repeat' (first | exact (fun x hx => (List.not_mem_nil hx).elim) | refine List.forall_mem_cons.2 ⟨?_, ?_⟩ | exact List.mem_cons_self | apply List.mem_cons_of_mem)
  · simp [fresh_cons, fresh_nil, hD]
  clear hD
  have hE := And.intro (And.intro (And.intro (eq_false k1) (eq_false k2)) (And.intro (And.intro (eq_false k3) (eq_false k4)) (And.intro (eq_false k5) (eq_false k6)))) (And.intro (And.intro (eq_false k7) (eq_false k8)) (And.intro (And.intro (eq_false k9) (eq_false ka)) (And.intro (eq_false kb) (eq_false kc))))
  have hg3 := hf.g3
  have hgn := V.g.nl
  have hgr : ∀ a ∈ gl, 0 ≤ a ∧ a < (ta.length : Int) := hgl
  simp only at hg3 hgn
  have hpi := parV_first (n := ta.length) (g := ⟨gf, gl, gt, gr⟩)
  have hps := fun m (h : m < gl.length) => parV_succ (n := ta.length) (v := fun k => (k : Int) + 1) hgn h (hgr _ (getD_mem' 0 h))
  have hpl := fun m => parV_len ta.length gl (fun k => (k : Int) + 1) m
  try simp only at hpi
  try simp only at hps
  have hv : ∀ m : Nat, (fun k : Nat => (k : Int) + 1) m = (m : Int) + 1 := fun m => rfl
  generalize (fun k : Nat => (k : Int) + 1) = v at *
  obtain ⟨I, hI⟩ : ∃ I : Nat → St → Prop, ∀ k S, I k S ↔ (∃ (m : Nat) , k = gl.length - m ∧ m ≤ gl.length ∧ S = ⟨[(1, DpL l), (6, .op ob 0), (7, I64 0), (10, .op wb 0), (11, I64 f), (12, .os nb 0 ta.length 1), (53, IL gl), (54, I64 gl.length), (55, I64 m)], [(nb, .ints .i64 (parV ta.length gl v m)), (wb, .svs [TL db, .os rb 0 db.length 1, I64 0]), (rb, .svs ((ws0 db.length).map wc)), (ob, .svs [SN])]⟩) := ⟨fun k S => _, fun _ _ => Iff.rfl⟩
  refine SW.loop' I (gl.length) ((hI _ _).2 ⟨0, rfl, Nat.zero_le _, rfl⟩) (by repeat' (first | exact rfl | exact trivial | constructor)) ?_
  intro k S hIn
  obtain ⟨m, rfl, hi, rfl⟩ := (hI _ _).1 hIn
  clear hIn
  have ie : ((m : Nat) : Int).toNat = m := Int.toNat_natCast _
  have i0 : (0 : Int) ≤ ((m : Nat) : Int) := by omega
  by_cases hlm : m < gl.length
  · have hli : ((m : Nat) : Int) < (((gl.length) : Nat) : Int) := by omega
    have w1 : IntKind.i64.wrap ((m : Int) + 1) = ((m + 1 : Nat) : Int) := by rw [i64_wrap (by omega) (by omega)]; omega
    have fm : iF gl m = [I64 (gl.getD m 0)] := rfl
    have hga := hgr _ (getD_mem' 0 hlm)
    have hvm := hv m
    have hpm := hps m hlm
    have hplm := hpl m
    have w2 : IntKind.i64.wrap ((m : Int) + 1) = v m := by rw [hvm, i64_wrap (by omega) (by omega)]
    generalize gl.getD m 0 = a at *
    obtain ⟨a0, a1⟩ := hga
    have za : 0 + a.toNat * 1 = a.toNat := by omega
    have at1 : a.toNat < ta.length := by omega
    have w3 : ((m + 1 : Nat) : Int) = v m := by rw [hvm]; omega
    have hpm2 : (parV ta.length gl v m).set a.toNat ((m + 1 : Nat) : Int) = parV ta.length gl v (m + 1) := by first | (rw [w3]; exact hpm) | (rw [show ((m + 1 : Nat) : Int) = (m : Int) + 1 by omega]; exact hpm)
    clear hpm
    have hD := hE
    repeat' first | (with_reducible refine And.intro (by omega) ?_) | (refine SW.seq_k fun K hK => ?_) | (refine SW.block ?_) | ((first | refine SW.region ?_ | refine SW.cond ?_ | refine SW.skip ?_); try simp only [go_sem, hD, hli, ie, i0, w1, fm, a0, a1, za, hplm, at1, true_implies]) | (apply hK; clear hK K)
    all_goals
      rw [hpm2]
      refine Rnd.sub (gl.length - (m + 1)) (by omega) ((hI _ _).2 ⟨m + 1, rfl, by omega, rfl⟩) (by repeat' (first | exact rfl | exact trivial | constructor))
  · have hli : ¬ ((m : Nat) : Int) < (((gl.length) : Nat) : Int) := by omega
    obtain rfl : m = gl.length := by omega
    have hpl2 := hpl gl.length
    rw [hpi] at hpl2 ⊢
    obtain ⟨R, hR⟩ : ∃ R, R = firstR ta.length ⟨gf, gl, gt, gr⟩ := ⟨_, rfl⟩
    rw [← hR] at hpl2 ⊢
    have hD := hE.2
    refine Ab.SW.le (St.le_ints (i := 12) .i64 R rfl hpl2.symm (by rw [find_cons, if_pos rfl]) rfl) ?_
    rw [del_head]
    have hwl0 := ws0_len db.length
    have hwi0 := fun C => ws0_WI C db.length
    have hwg0 := ws0_get db.length
    have hwB0 := ws0_wB db.length
    generalize ws0 db.length = wl at *
    obtain ⟨A, e2, D, hwl, hA⟩ := split_at (ws := wl) (t := f) (by omega)
    have hge : e2 = w0 := by rw [← hwg0 f, hwl, ← hA, mid_get A D e2 e2, if_pos rfl]
    subst hge
    have hAD : (A ++ ((0 : Nat), ([] : List (List Int))) :: D).length = wl.length := by rw [hwl]; rfl
    have ca := add_w wb rb (TL db) 0 A D 0 [] R ⟨by omega, by omega⟩ (by simp) (by omega) (by simp) (by omega)
    have hwl' : wl = A ++ ((0 : Nat), ([] : List (List Int))) :: D := hwl
    rw [hA, ← hwl'] at ca
    have eWH : WH wb rb (TL db) 0 wl = [(wb, .svs [TL db, .os rb 0 db.length 1, I64 0]), (rb, .svs (wl.map wc))] := by
      unfold WH
      rw [hwB0, hwl0]
    rw [eWH] at ca
    repeat' first | ((refine Call.mono (Call.frameN (h2 := [(ob, .svs [SN])]) ca) ?_); (intro r' h' hx); (refine stop_i ?_)) | (refine SW.seq_k fun K hK => ?_) | ((first | refine SW.region ?_ | refine SW.cond ?_ | refine SW.exit ?_); try simp only [go_sem, hD, hli, true_implies]) | (apply hK; clear hK K) | (clear hK K; apply hK; clear hK K)
    refine Stop.mk ?_
    obtain ⟨h1, rfl, hq, _⟩ := hx
    rcases hq with ⟨hm, _⟩ | ⟨hm, rfl, b', hp⟩
    · simp at hm
    apply hK
    clear hK K
    refine Ab.SW.le (St.le_perm (h' := WH wb rb (TL db) (0 + 1) (A ++ (b', [] ++ [R]) :: D) ++ [(ob, .svs [SN])]) (hp.symm.append_right _)) ?_
    have hll := hf.ll
    have hWI1 := WI.add (C := C) (A := A) (D := D) (e := ((0 : Nat), ([] : List (List Int)))) (b := b') (row := R) (z := 0) (by rw [← hwl']; exact hwi0 C) (by simp) (by rw [hA, hR]; exact hC1)
    have hL1 : (A ++ (b', [] ++ [R]) :: D).length = db.length := by rw [← hwl0, hwl']; simp
    have hm1 : R ∈ ((A ++ (b', [] ++ [R]) :: D).getD f w0).2 := by rw [← hA, mid_get A D (b', [] ++ [R]) (b', [] ++ [R]), if_pos rfl]; simp
    simp only [← hR] at hyes2
    have hk1 : ¬ (wb = rb) := k7
    clear hp ca hwi0 hwg0 hwB0 hwl0 hpl2 hAD hps hpl hv hpi hpz hE hD hwl hwl' hA hC1 hR eWH
    simp only at hWI1
    generalize A ++ (b', [] ++ [R]) :: D = ws1 at *
    have hD := And.intro (And.intro (And.intro (eq_false k7) (eq_false k8)) (And.intro (eq_false k9) (eq_false ka))) (And.intro (eq_false kb) (eq_false kc))
    have hE := hD
    unfold WH
    simp only [List.cons_append]
    repeat' first | (refine SW.seq_k fun K hK => ?_) | (refine SW.block ?_) | (refine SW.region ?_; try simp only [go_sem, hD, true_implies]) | (apply hK; clear hK K)
    obtain ⟨I, hI⟩ : ∃ I : Nat → St → Prop, ∀ k S, I k S ↔ (∃ (n : Nat) (zz : Int) (wl : List Wt) (gg : Bool), k = 403 - n ∧ n ≤ 403 ∧ WI C wl zz ∧ wl.length = db.length ∧ R ∈ (wl.getD f w0).2 ∧ zz ≤ 401 ∧ (gg = true → (n : Int) ≤ zz) ∧ (gg = false → zz ≤ 400 → ∀ d ∈ l, Clo (nmsOf db) (nsOf db) (fun t => (wl.getD t w0).2) d) ∧ S = ⟨[(1, DpL l), (6, .op ob 0), (7, I64 0), (10, .op wb 0), (15, SB gg)], (wb, .svs [TL db, .os rb 0 wl.length 1, I64 zz]) :: (rb, .svs (wl.map wc)) :: (wB wl ++ [(ob, .svs [SN])])⟩) := ⟨fun k S => _, fun _ _ => Iff.rfl⟩
    refine SW.loop' I (403) ((hI _ _).2 ⟨0, 0 + 1, ws1, true, rfl, Nat.zero_le _, hWI1, hL1, hm1, by omega, (fun _ => by omega), (fun h => by cases h), rfl⟩) (by repeat' (first | exact rfl | exact trivial | constructor)) ?_
    intro k S hIn
    obtain ⟨n, zz, wl, gg, rfl, hi, hWI, hLn, hRm, hz1, hg1, hg0, rfl⟩ := (hI _ _).1 hIn
    clear hIn
    have ie : ((n : Nat) : Int).toNat = n := Int.toNat_natCast _
    have i0 : (0 : Int) ≤ ((n : Nat) : Int) := by omega
    by_cases hgo : gg = true ∧ zz ≤ 400
    · obtain ⟨rfl, hz4⟩ := hgo
      have hn4 := hg1 rfl
      repeat' first | (refine SW.seq_k fun K hK => ?_) | (refine SW.block ?_) | ((first | refine SW.region ?_ | refine SW.cond ?_ | refine SW.skip ?_); try simp only [go_sem, hD, hz4, true_implies]) | (apply hK; clear hK K)
      have hIO := hI
      clear hI hg0 hg1
      obtain ⟨I, hI⟩ : ∃ I : Nat → St → Prop, ∀ k S, I k S ↔ (∃ (m : Nat) (z2 : Int) (w2 : List Wt) (g2 : Bool), k = l.length - m ∧ m ≤ l.length ∧ WI C w2 z2 ∧ w2.length = db.length ∧ R ∈ (w2.getD f w0).2 ∧ z2 ≤ 401 ∧ zz ≤ z2 ∧ (g2 = false → z2 = zz ∧ ∀ j, j < m → Clo (nmsOf db) (nsOf db) (fun t => (w2.getD t w0).2) (l.getD j d0)) ∧ (g2 = true → zz < z2) ∧ S = ⟨[(1, DpL l), (6, .op ob 0), (7, I64 0), (10, .op wb 0), (15, SB g2), (78, DpL l), (79, I64 l.length), (80, I64 m)], (wb, .svs [TL db, .os rb 0 w2.length 1, I64 z2]) :: (rb, .svs (w2.map wc)) :: (wB w2 ++ [(ob, .svs [SN])])⟩) := ⟨fun k S => _, fun _ _ => Iff.rfl⟩
      refine SW.loop' I (l.length) ((hI _ _).2 ⟨0, zz, wl, false, rfl, Nat.zero_le _, hWI, hLn, hRm, hz1, Int.le_refl _, (fun _ => ⟨rfl, fun j hj => absurd hj (Nat.not_lt_zero _)⟩), (fun h => by cases h), rfl⟩) (by repeat' (first | exact rfl | exact trivial | constructor)) ?_
      intro k S hIn
      obtain ⟨m, z2, w2, g2, rfl, hi, hWI2, hL2, hR2, hz2, hzz, h20, h21, rfl⟩ := (hI _ _).1 hIn
      clear hIn
      have ie : ((m : Nat) : Int).toNat = m := Int.toNat_natCast _
      have i0 : (0 : Int) ≤ ((m : Nat) : Int) := by omega
      by_cases hlm : m < l.length
      · have hli : ((m : Nat) : Int) < (((l.length) : Nat) : Int) := by omega
        have w1 : IntKind.i64.wrap ((m : Int) + 1) = ((m + 1 : Nat) : Int) := by rw [i64_wrap (by omega) (by omega)]; omega
        have fd : dpF l m = dC (l.getD m d0) := rfl
        have hdm : l.getD m d0 ∈ l := getD_mem' d0 hlm
        have cg := hgc wb rb z2 w2 hWI2 hL2 hz2 (l.getD m d0) hdm
        generalize hd0 : l.getD m d0 = dd at *
        obtain ⟨df, dl, dt, dr⟩ := dd
        have hD := hE
        repeat' first | (refine SW.seq_k fun K hK => ?_) | (refine SW.block ?_) | ((first | refine SW.region ?_ | refine SW.cond ?_ | refine SW.skip ?_ | (refine allF_i fun b hb => ?_; replace hD := And.intro hb hD; clear hb; try simp only [fresh_cons, fresh_nil, and_true, ne_eq, neF] at hD)); try simp only [go_sem, hD, hli, ie, i0, fd, true_implies]) | (apply hK; clear hK K)
        obtain ⟨nb, rfl⟩ : ∃ x, x = b := ⟨_, rfl⟩
        refine Call.permN (Call.mono (Call.frameN (h2 := [(nb, .svs [Str df, IL dl, Str dt, IL dr]), (ob, .svs [SN])]) cg) fun r h' hx => ?_) (List.perm_middle (l₁ := WH wb rb (TL db) z2 w2) (a := (nb, Blk.svs [Str df, IL dl, Str dt, IL dr])) (l₂ := [(ob, Blk.svs [SN])]))
        obtain ⟨h1, rfl, ⟨w3, z3, g3, rfl, hp, hW3, hL3, hB3, h30, h31, hz3⟩, _⟩ := hx
        apply hK
        clear hK K
        refine Ab.SW.le ((St.le_perm (h' := WH wb rb (TL db) z3 w3 ++ [(nb, .svs [Str df, IL dl, Str dt, IL dr]), (ob, .svs [SN])]) (hp.symm.append_right _)).trans (St.le_slist (h' := WH wb rb (TL db) z3 w3 ++ [(ob, .svs [SN])]) ((List.Sublist.refl _).append (List.Sublist.cons _ (List.Sublist.refl _))))) ?_
        clear hp
        unfold WH
        simp only [List.cons_append]
        cases g3 with
        | false =>
          obtain ⟨rfl, rfl, hcl⟩ := h30 rfl
          have hnew : g2 = false → z3 = zz ∧ ∀ j, j < m + 1 → Clo (nmsOf db) (nsOf db) (fun t => (w3.getD t w0).2) (l.getD j d0) := fun h => by
            obtain ⟨e1, e2⟩ := h20 h
            refine ⟨e1, fun j hj => ?_⟩
            rcases Nat.lt_or_eq_of_le (Nat.lt_succ_iff.1 hj) with h5 | h5
            · exact e2 j h5
            · rw [h5, hd0]; exact hcl (by omega)
          repeat' first | ((first | refine SW.region ?_ | refine SW.cond ?_ | refine SW.skip ?_); try simp only [go_sem, hD, w1, true_implies]) | (apply hK; clear hK K)
          refine Rnd.sub (l.length - (m + 1)) (by omega) ((hI _ _).2 ⟨m + 1, z3, w3, g2, rfl, by omega, hWI2, hL2, hR2, hz2, hzz, hnew, h21, rfl⟩) (by repeat' (first | exact rfl | exact trivial | constructor))
        | true =>
          have hz5 := h31 rfl
          repeat' first | ((first | refine SW.region ?_ | refine SW.cond ?_); try simp only [go_sem, hD, w1, true_implies]) | (apply hK; clear hK K)
          refine Rnd.sub (l.length - (m + 1)) (by omega) ((hI _ _).2 ⟨m + 1, z3, w3, true, rfl, by omega, hW3, hL3, (hB3 f).subset hR2, hz3, by omega, (fun h => by cases h), (fun _ => by omega), rfl⟩) (by repeat' (first | exact rfl | exact trivial | constructor))
      · have hli : ¬ ((m : Nat) : Int) < (((l.length) : Nat) : Int) := by omega
        obtain rfl : m = l.length := by omega
        have hnew : g2 = false → z2 ≤ 400 → ∀ d ∈ l, Clo (nmsOf db) (nsOf db) (fun t => (w2.getD t w0).2) d := fun h h4 d hd => by
          obtain ⟨j, hj, rfl⟩ := List.getElem_of_mem hd
          have := (h20 h).2 j hj
          rwa [show l.getD j d0 = l[j] by simp [List.getD_eq_getElem?_getD, hj]] at this
        repeat' first | (refine SW.seq_k fun K hK => ?_) | ((first | refine SW.region ?_ | refine SW.cond ?_ | refine SW.exit ?_); try simp only [go_sem, hD, hli, true_implies]) | (apply hK; clear hK K)
        refine Rnd.sub (403 - (n + 1)) (by omega) ((hIO _ _).2 ⟨n + 1, z2, w2, g2, rfl, by omega, hWI2, hL2, hR2, hz2, (fun h => by have := h21 h; omega), hnew, rfl⟩) (by repeat' (first | exact rfl | exact trivial | constructor))
    · by_cases hz4 : zz ≤ 400
      · have hgg : gg = false := by
          cases gg with
          | false => rfl
          | true => exact absurd ⟨rfl, hz4⟩ hgo
        subst hgg
        have hU2 := hyes2 wl zz hWI hLn hRm (hg0 rfl hz4) hz4
        have cdb := hdc wb rb zz wl hLn (by omega) hat (fun s hs => ⟨by have := len_tot hs; have := hWI.z; omega, hWI.nd s hs, fun r hr => by have := hCL s r (hWI.c s hs r hr); omega⟩)
        have hz5 : ¬ 400 < zz := by omega
        subst hU2
        generalize refW db wl = W at *
        repeat' first | ((refine Call.mono (Call.frameN (h1 := WH wb rb (TL db) zz wl) (h2 := [(ob, .svs [SN])]) cdb) ?_); (intro r' h' hx); (obtain ⟨h1, rfl, ⟨rfl, rfl⟩, _⟩ := hx); (simp only [go_sem, hD])) | (refine SW.seq_k fun K hK => ?_) | ((first | refine SW.region ?_ | refine SW.cond ?_ | refine SW.skip ?_ | refine SW.exit ?_ | refine SW.ret ?_); try simp only [go_sem, hD, hz5, true_implies]) | (apply hK; clear hK K) | (clear hK K; apply hK; clear hK K)
        apply ret_cell (i := 6) (n := 1); exact rfl; (simp only [go_sem, hD]; try rfl); (first | exact Nat.le_refl _ | decide); simp only [resL_tmp, resL_cellE, resC_ok, resL_nil, tupOf, getN, go_sem, hD]
      · have hz5 : 400 < zz := by omega
        have hU2 := hno hWI hLn hz5
        subst hU2
        refine Ab.SW.le (St.le_slist (h' := [(wb, .svs [TL db, .os rb 0 wl.length 1, I64 zz]), (rb, .svs (wl.map wc)), (ob, .svs [SN])]) (List.Sublist.cons_cons _ (List.Sublist.cons_cons _ (List.sublist_append_right _ _)))) ?_
        cases gg with
        | false =>
          repeat' first | (refine SW.seq_k fun K hK => ?_) | ((first | refine SW.region ?_ | refine SW.cond ?_ | refine SW.exit ?_ | refine SW.ret ?_); try simp only [go_sem, hD, hz4, hz5, true_implies]) | (apply hK; clear hK K) | (clear hK K; apply hK; clear hK K)
          apply ret_cell (i := 6) (n := 1); exact rfl; (simp only [go_sem, hD]; try rfl); (first | exact Nat.le_refl _ | decide); simp only [resL_tmp, resL_cellE, resC_ok, resL_nil, tupOf, getN, go_sem, hD]
        | true =>
          repeat' first | (refine SW.seq_k fun K hK => ?_) | ((first | refine SW.region ?_ | refine SW.cond ?_ | refine SW.exit ?_ | refine SW.ret ?_); try simp only [go_sem, hD, hz4, hz5, true_implies]) | (apply hK; clear hK K) | (clear hK K; apply hK; clear hK K)
          apply ret_cell (i := 6) (n := 1); exact rfl; (simp only [go_sem, hD]; try rfl); (first | exact Nat.le_refl _ | decide); simp only [resL_tmp, resL_cellE, resC_ok, resL_nil, tupOf, getN, go_sem, hD]
end Go.Proofs.YtblfodnajpamfaaGreatDoor
namespace Go.Proofs.YtblfodnajpamfaaGreatDoor
open Go Go.Ab Go.Ab.A34 Go.Ab.A15
variable [Gl] [Tabs]
theorem awake_c : PCall Tryz.prog 11 [] (SB true) := by
  have e := ex_c
  have gv := giv_c
  have pr := prove_p exT givD goalD ex_few1 ex_all1 ex_find1
  have rf := refute_no exT givD backD ex_few2 ex_all2 ex_find2
  have ck := check_i exT givD goalD (proofS givD goalD) (by decide) (by decide) (fun d hd => ex_okd d (.inr (.inr hd))) (ex_okd _ (.inl rfl)) ex_all1 ex_okp
  rw [ex_out] at rf
  rw [ex_chk] at ck
  have hl := ex_len
  obtain ⟨w1, w2, w3⟩ := ex_two
  generalize proofS givD goalD = P at *
  generalize refW exT exW = W at *
  unfold goalD backD at *
  refine Call.enter' (N := 69) (rs := [.tmp 0]) Tryz.func11 rfl rfl rfl (by decide) rfl ?_; simp only [argT]; have hD : (0 : Nat) = 0 := rfl
  repeat' first | (refine SW.seq_k fun K hK => ?_) | ((first | refine SW.region ?_ | (refine allF_i fun b hb => ?_; replace hD := And.intro hb hD; clear hb; try simp only [fresh_cons, fresh_nil, and_true, ne_eq, neF] at hD)); try simp only [go_sem, hD]) | (apply hK; clear hK K)
  obtain ⟨X2, rfl⟩ : ∃ x, x = b := ⟨_, rfl⟩
  obtain ⟨R2, rfl⟩ : ∃ x, x = b := ⟨_, rfl⟩
  obtain ⟨L2, rfl⟩ : ∃ x, x = b := ⟨_, rfl⟩
  obtain ⟨X1, rfl⟩ : ∃ x, x = b := ⟨_, rfl⟩
  obtain ⟨R1, rfl⟩ : ∃ x, x = b := ⟨_, rfl⟩
  obtain ⟨L1, rfl⟩ : ∃ x, x = b := ⟨_, rfl⟩
  refine Ab.SW.le (S' := ⟨[(0, SB false), (1, .fp [Str ⟨#[114]⟩, IL [1], Str ⟨#[114]⟩, IL [0]]), (2, .fp [Str ⟨#[114]⟩, IL [0], Str ⟨#[114]⟩, IL [1]])], []⟩) ?_ ?_
  · skip
    refine St.le.trans (St.le_freezeC (c := X2) (j := 3) (b := R2) (off := 0) (len := 1) (sz := 1) (by first | (rw [find_cons, if_pos rfl]) | (simp [find_cons, hD]; done) | (simp [find_cons, hD]; rfl)) (by simp [hD]) (by first | decide | simp [Blk.len_svs]) rfl (by first | (rw [find_cons, if_pos rfl]) | (simp [find_cons, hD]; done) | (simp [find_cons, hD]; rfl)) (by first | decide | simp [Blk.len_svs]) (iF [1]) (fun p hp => by
      obtain rfl : p = 0 := by omega
      rfl)) ?_
    simp only [go_sem, hD]
    refine St.le.trans (St.le_freezeC (c := X2) (j := 1) (b := L2) (off := 0) (len := 1) (sz := 1) (by first | (rw [find_cons, if_pos rfl]) | (simp [find_cons, hD]; done) | (simp [find_cons, hD]; rfl)) (by simp [hD]) (by first | decide | simp [Blk.len_svs]) rfl (by first | (rw [find_cons, if_pos rfl]) | (simp [find_cons, hD]; done) | (simp [find_cons, hD]; rfl)) (by first | decide | simp [Blk.len_svs]) (iF [0]) (fun p hp => by
      obtain rfl : p = 0 := by omega
      rfl)) ?_
    simp only [go_sem, hD]
    refine St.le.trans (St.le_freezeC (c := X1) (j := 3) (b := R1) (off := 0) (len := 1) (sz := 1) (by first | (rw [find_cons, if_pos rfl]) | (simp [find_cons, hD]; done) | (simp [find_cons, hD]; rfl)) (by simp [hD]) (by first | decide | simp [Blk.len_svs]) rfl (by first | (rw [find_cons, if_pos rfl]) | (simp [find_cons, hD]; done) | (simp [find_cons, hD]; rfl)) (by first | decide | simp [Blk.len_svs]) (iF [0]) (fun p hp => by
      obtain rfl : p = 0 := by omega
      rfl)) ?_
    simp only [go_sem, hD]
    refine St.le.trans (St.le_freezeC (c := X1) (j := 1) (b := L1) (off := 0) (len := 1) (sz := 1) (by first | (rw [find_cons, if_pos rfl]) | (simp [find_cons, hD]; done) | (simp [find_cons, hD]; rfl)) (by simp [hD]) (by first | decide | simp [Blk.len_svs]) rfl (by first | (rw [find_cons, if_pos rfl]) | (simp [find_cons, hD]; done) | (simp [find_cons, hD]; rfl)) (by first | decide | simp [Blk.len_svs]) (iF [1]) (fun p hp => by
      obtain rfl : p = 0 := by omega
      rfl)) ?_
    simp only [go_sem, hD]
    refine St.le.trans (St.le_freezeP (i := 1) (b := X1) (off := 0) (n := 4) rfl (by first | (rw [find_cons, if_pos rfl]) | (simp [find_cons, hD]; done) | (simp [find_cons, hD]; rfl)) (by first | decide | simp [Blk.len_svs])) ?_
    simp only [getN, Blk.get, go_sem, hD]
    refine St.le.trans (St.le_freezeP (i := 2) (b := X2) (off := 0) (n := 4) rfl (by first | (rw [find_cons, if_pos rfl]) | (simp [find_cons, hD]; done) | (simp [find_cons, hD]; rfl)) (by first | decide | simp [Blk.len_svs])) ?_
    simp only [getN, Blk.get, go_sem, hD]
    exact St.le_sub (by repeat' (first | exact rfl | exact trivial | constructor))
  clear hD
  have hD : (0 : Nat) = 0 := rfl
  have f0 : tF W 0 = tC (W.getD 0 t0) := rfl
  have f1 : tF W 1 = tC (W.getD 1 t0) := rfl
  generalize W.getD 0 t0 = T0 at *
  generalize W.getD 1 t0 = T1 at *
  obtain ⟨n0, a0, r0'⟩ := T0
  obtain ⟨n1, a1, r1'⟩ := T1
  simp only at w2 w3
  have hlI : ((P.length : Nat) : Int) = 2 := by omega
  have w1I : ((W.length : Nat) : Int) = 2 := by omega
  have w2I : ((r0'.length : Nat) : Int) = 2 := by omega
  have w3I : ((r1'.length : Nat) : Int) = 2 := by omega
  repeat' first | (with_reducible refine And.intro (by omega) ?_) | (refine SW.seq_k fun K hK => ?_) | ((first | refine SW.regionZ (id := 3) (Checked.mixed Tryz.checked) ((.one 0 [0, 1, 3, 4, 5, 6, 7, 8] (.one 1 [1, 3, 4, 5, 6, 7, 8] (.one 2 [2, 3, 4, 5, 6, 7, 8] (.one 3 [3, 4, 5, 6, 7, 8] (.one 4 [4, 5, 6, 7, 8] (.one 5 [5, 7, 8] (.one 6 [6, 8] (.one 7 [7, 8] (.one 8 [8] .done))))))))) : OZ) (by kernel_rfl) ?_ | refine SW.regionZ (id := 4) (Checked.mixed Tryz.checked) ((.one 0 [0, 1, 3, 4, 5, 6, 8, 9] (.one 1 [1, 3, 4, 5, 6, 8, 9] (.one 2 [2, 3, 4, 5, 6, 8, 9] (.one 3 [3, 4, 5, 6, 8, 9] (.one 4 [4, 5, 6, 8, 9] (.one 5 [5, 8, 9] (.alt 6 (.alt 7 (.alt 8 (.one 9 [9] .done) .nil) .nil) (.alt 7 (.alt 6 (.alt 8 (.one 9 [9] .done) .nil) (.alt 8 (.one 6 [6, 9] (.one 9 [9] .done)) .nil)) .nil)))))))) : OZ) (by kernel_rfl) ?_ | refine SW.regionZ (id := 5) (Checked.mixed Tryz.checked) ((.one 0 [0, 1, 2, 3, 4, 5, 6, 7, 8, 9, 10, 11, 12, 13, 14, 15, 16, 17, 18, 19, 20, 21, 22, 23, 24, 25, 26, 27, 28, 29, 30, 31, 32, 33, 34, 35, 36, 37, 38, 39, 40, 41, 42] (.one 1 [1, 2, 3, 4, 5, 6, 7, 8, 9, 10, 11, 12, 13, 14, 15, 16, 17, 18, 19, 20, 21, 22, 23, 24, 25, 26, 27, 28, 29, 30, 31, 32, 33, 34, 35, 36, 37, 38, 39, 40, 41, 42] (.one 2 [2, 3, 4, 5, 6, 7, 8, 9, 10, 11, 12, 13, 14, 15, 16, 17, 18, 19, 20, 21, 22, 23, 24, 25, 26, 27, 28, 29, 30, 31, 32, 33, 34, 35, 36, 37, 38, 39, 40, 41, 42] (.one 3 [3, 4, 5, 6, 7, 8, 9, 10, 11, 12, 13, 14, 15, 16, 17, 18, 19, 20, 21, 22, 23, 24, 25, 26, 27, 28, 29, 30, 31, 32, 33, 34, 35, 36, 37, 38, 39, 40, 41, 42] (.one 4 [4, 5, 6, 7, 8, 9, 10, 11, 12, 13, 14, 15, 16, 17, 18, 19, 20, 21, 22, 23, 24, 25, 26, 27, 28, 29, 30, 31, 32, 33, 34, 35, 36, 37, 38, 39, 40, 41, 42] (.one 5 [5, 6, 7, 8, 9, 10, 11, 12, 13, 14, 15, 16, 17, 18, 19, 20, 21, 22, 23, 24, 25, 26, 27, 28, 29, 30, 31, 32, 33, 34, 35, 36, 37, 38, 39, 40, 41, 42] (.one 6 [6, 7, 8, 9, 10, 11, 12, 13, 14, 15, 16, 17, 18, 19, 20, 21, 22, 23, 24, 25, 26, 27, 28, 29, 30, 31, 32, 33, 34, 35, 36, 37, 38, 39, 40, 41, 42] (.one 7 [7, 8, 11, 12, 13, 14, 15, 16, 17, 18, 19, 20, 21, 22, 23, 24, 25, 26, 27, 28, 29, 30, 31, 32, 33, 34, 35, 36, 37, 38, 39, 40, 41, 42] (.one 8 [8, 11, 12, 13, 14, 15, 16, 17, 18, 19, 20, 21, 22, 23, 24, 25, 26, 27, 28, 29, 30, 31, 32, 33, 34, 35, 36, 37, 38, 39, 40, 41, 42] (.one 9 [9, 11, 12, 13, 14, 15, 16, 17, 18, 19, 20, 21, 22, 23, 24, 25, 26, 27, 28, 29, 30, 31, 32, 33, 34, 35, 36, 37, 38, 39, 40, 41, 42] (.one 10 [10, 11, 12, 13, 14, 15, 16, 17, 18, 19, 20, 21, 22, 23, 24, 25, 26, 27, 28, 29, 30, 31, 32, 33, 34, 35, 36, 37, 38, 39, 40, 41, 42] (.one 11 [11, 12, 13, 14, 15, 16, 17, 18, 19, 20, 21, 22, 23, 24, 25, 26, 27, 28, 29, 30, 31, 32, 33, 34, 35, 36, 37, 38, 39, 40, 41, 42] (.one 12 [12, 13, 14, 15, 16, 17, 18, 19, 20, 21, 22, 23, 24, 25, 26, 27, 28, 29, 30, 31, 32, 33, 34, 35, 36, 37, 38, 39, 40, 41, 42] (.one 13 [13, 14, 15, 16, 17, 18, 19, 20, 21, 22, 23, 24, 25, 26, 27, 28, 29, 30, 31, 32, 33, 34, 35, 36, 37, 38, 39, 40, 41, 42] (.one 14 [14, 15, 16, 17, 18, 19, 20, 21, 22, 23, 24, 25, 26, 27, 28, 29, 30, 31, 32, 33, 34, 35, 36, 37, 38, 39, 40, 41, 42] (.one 15 [15, 16, 17, 18, 19, 20, 21, 22, 23, 24, 25, 26, 27, 28, 29, 30, 31, 32, 33, 34, 35, 36, 37, 38, 39, 40, 41, 42] (.one 16 [16, 17, 18, 19, 20, 21, 22, 23, 24, 25, 26, 27, 28, 29, 30, 31, 32, 33, 34, 35, 36, 37, 38, 39, 40, 41, 42] (.one 17 [17, 18, 19, 20, 21, 22, 23, 24, 25, 26, 27, 28, 29, 30, 31, 32, 33, 34, 35, 36, 37, 38, 39, 40, 41, 42] (.one 18 [18, 19, 20, 21, 22, 23, 24, 25, 26, 27, 28, 29, 30, 31, 32, 33, 34, 35, 36, 37, 38, 39, 40, 41, 42] (.one 19 [19, 20, 21, 22, 23, 24, 25, 26, 27, 28, 29, 30, 31, 32, 33, 34, 35, 36, 37, 38, 39, 40, 41, 42] (.one 20 [20, 21, 22, 23, 24, 25, 26, 27, 28, 29, 30, 31, 32, 33, 34, 35, 36, 37, 38, 39, 40, 41, 42] (.one 21 [21, 22, 23, 24, 25, 26, 27, 28, 29, 30, 31, 32, 33, 34, 35, 36, 37, 38, 39, 40, 41, 42] (.one 22 [22, 23, 24, 25, 26, 27, 28, 29, 30, 31, 32, 33, 34, 35, 36, 37, 38, 39, 40, 41, 42] (.one 23 [23, 24, 25, 26, 27, 28, 29, 30, 31, 32, 33, 34, 35, 36, 37, 38, 39, 40, 41, 42] (.one 24 [24, 25, 26, 27, 28, 29, 30, 31, 32, 33, 34, 35, 36, 37, 38, 39, 40, 41, 42] (.one 25 [25, 26, 27, 28, 29, 30, 31, 32, 33, 34, 35, 36, 37, 38, 39, 40, 41, 42] (.one 26 [26, 27, 28, 29, 30, 31, 32, 33, 34, 35, 36, 37, 38, 39, 40, 41, 42] (.one 27 [27, 28, 29, 30, 31, 32, 33, 34, 35, 36, 37, 38, 39, 40, 41, 42] (.one 28 [28, 29, 30, 31, 32, 33, 34, 35, 36, 37, 38, 39, 40, 41, 42] (.one 29 [29, 30, 31, 32, 33, 34, 35, 36, 37, 38, 39, 40, 41, 42] (.one 30 [30, 31, 32, 33, 34, 35, 36, 37, 38, 39, 40, 41, 42] (.one 31 [31, 32, 33, 34, 35, 36, 37, 38, 39, 40, 41, 42] (.one 32 [32, 33, 34, 35, 36, 37, 38, 39, 40, 41, 42] (.one 33 [33, 34, 35, 36, 37, 38, 39, 40, 41, 42] (.one 34 [34, 35, 36, 37, 38, 39, 40, 41, 42] (.one 35 [35, 36, 37, 38, 39, 40, 41, 42] (.one 36 [36, 37, 38, 39, 40, 41, 42] (.one 37 [37, 38, 39, 40, 41, 42] (.one 38 [38, 39, 40, 41, 42] (.one 39 [39, 40, 41, 42] (.one 40 [40, 41, 42] (.one 41 [41, 42] (.one 42 [42] .done))))))))))))))))))))))))))))))))))))))))))) : OZ) (by kernel_rfl) ?_ | refine SW.ret ?_ | refine ⟨_, e, ?_⟩ | refine ⟨_, gv, ?_⟩ | refine ⟨_, pr, ?_⟩ | refine ⟨_, rf, ?_⟩ | refine ⟨_, ck, ?_⟩ | (refine allF_i fun b hb => ?_; replace hD := And.intro hb hD; clear hb; try simp only [fresh_cons, fresh_nil, and_true, ne_eq, neF] at hD)); try simp only [go_sem, hD, hlI, w1I, w2I, w3I, f0, f1, true_implies]) | (apply hK; clear hK K) | (refine And.intro ?_ ?_)
  all_goals refine ret_pure ?_; simp only [resL_tmp, resL_nil, tupOf, go_sem, hD]
end Go.Proofs.YtblfodnajpamfaaGreatDoor
