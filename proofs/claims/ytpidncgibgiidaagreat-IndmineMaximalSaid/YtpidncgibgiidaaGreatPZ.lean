
import Derived.Test.YtpidncgibgiidaaGreatQ7
set_option linter.unusedSimpArgs false
set_option linter.unusedVariables false
set_option linter.unusedSectionVars false
namespace Go.Ab.A15
open Go Go.Ab Go.Ab.A34
def woD (d : Dp) (p : Nat) : Dp := ⟨d.f, woL d.l p, d.t, woL d.r p⟩
theorem ret_dp [Gl] {P : Program} {t : List (Nat × SV)} {h : Heap} {i c b1 b2 n1 n2 ty : Nat} {f tn : ByteArray} {la lb : List Int} (hi : look t i = .op c 0) (h0 : h.find c = some (.svs [Str f, .os b1 0 n1 1, Str tn, .os b2 0 n2 1])) (h1 : h.find b1 = some (.svs (iC la))) (h2 : h.find b2 = some (.svs (iC lb))) (hn1 : n1 = la.length) (hn2 : n2 = lb.length)
    (hn : [b1, b2, c].Nodup) (hq : resL P ⟨(i, .fp (dC ⟨f, la, tn, lb⟩)) :: t, []⟩ [.cell i ty] (fun vs => tupOf vs = DV ⟨f, la, tn, lb⟩)) : retQ P [.cell i ty] (fun r' h' => r' = DV ⟨f, la, tn, lb⟩ ∧ h' = []) .ret ⟨t, h⟩ := by
  have s := St.le_dp (t := t) [] h0 h1 h2 hn1 hn2 (fun x hx => by cases hx) (by simpa using hn)
  have s2 := St.le_freezeP (t := t) (h := [(c, .svs (dC ⟨f, la, tn, lb⟩))]) (i := i) (b := c) (off := 0) (n := 4) (k := .svs (dC ⟨f, la, tn, lb⟩)) hi (by rw [find_cons, if_pos rfl]) (by exact Nat.le_refl 4)
  rw [del_head] at s2
  exact retQ_le (s.trans s2) (resL_mono [.cell i ty] (fun vs x => ⟨x, rfl⟩) hq)
end Go.Ab.A15
namespace Go.Proofs.YtpidncgibgiidaaGreat
open Go Go.Ab Go.Ab.A34 Go.Ab.A15
variable [Gl] [Tabs]
set_option maxHeartbeats 2000000 in
set_option maxRecDepth 20000 in
theorem wo_r (d : Dp) (p : Nat) (hl : p < d.l.length) (hr : p < d.r.length) (ol : d.l.length ≤ 1000000) (or : d.r.length ≤ 1000000) : PCall Tryz.prog 19 [DV d, I64 p] (DV (woD d p)) := by
  obtain ⟨df, dl, dt, dr⟩ := d
  simp only at *
  have g1 : (0 : Int) ≤ ((p : Nat) : Int) := by omega
  have g2 : ((p : Nat) : Int) ≤ ((dl.length : Nat) : Int) := by omega
  have g3 : ((p : Nat) : Int) ≤ ((dr.length : Nat) : Int) := by omega
  have g4 : ((p + 1 : Nat) : Int) ≤ ((dl.length : Nat) : Int) := by omega
  have g5 : ((p + 1 : Nat) : Int) ≤ ((dr.length : Nat) : Int) := by omega
  have g6 : (0 : Int) ≤ ((p + 1 : Nat) : Int) := by omega
  have w1 : IntKind.i64.wrap (((p : Nat) : Int) + 1) = ((p + 1 : Nat) : Int) := by rw [i64_wrap (by omega) (by omega)]; omega
  have z1 : (((p : Nat) : Int) - 0).toNat = p := by omega
  have t1 : (((dl.length : Nat) : Int) - ((p + 1 : Nat) : Int)).toNat = dl.length - (p + 1) := by omega
  have t2 : (((dr.length : Nat) : Int) - ((p + 1 : Nat) : Int)).toNat = dr.length - (p + 1) := by omega
  have f1 := fl_take dl p (by omega)
  have f2 := fl_take dr p (by omega)
  have f3 := fl_drop dl (p + 1) _ rfl
  have f4 := fl_drop dr (p + 1) _ rfl
  have a1 := iC_all (dl.take p)
  have a2 := iC_all (dr.take p)
  have a3 := iC_all (dl.drop (p + 1))
  have a4 := iC_all (dr.drop (p + 1))
  have l1 : (iC (dl.take p)).length = p := by rw [List.length_map, List.length_take]; omega
  have l2 : (iC (dr.take p)).length = p := by rw [List.length_map, List.length_take]; omega
  have q1 : iC (woL dl p) = iC (dl.take p) ++ iC (dl.drop (p + 1)) := List.map_append
  have q2 : iC (woL dr p) = iC (dr.take p) ++ iC (dr.drop (p + 1)) := List.map_append
  have n1 : p + (dl.length - (p + 1)) = (woL dl p).length := by unfold woL; rw [List.length_append, List.length_take, List.length_drop]; omega
  have n2 : p + (dr.length - (p + 1)) = (woL dr p).length := by unfold woL; rw [List.length_append, List.length_take, List.length_drop]; omega
  have s1 : (p + (dl.length - (p + 1))) * 8 ≤ 140737488355328 := by omega
  have s2 : (p + (dr.length - (p + 1))) * 8 ≤ 140737488355328 := by omega
  have u1 : woD ⟨df, dl, dt, dr⟩ p = ⟨df, woL dl p, dt, woL dr p⟩ := rfl
  rw [u1]
  clear u1
  generalize woL dl p = wl at *
  generalize woL dr p = wr at *
  generalize iC (dl.take p) = A1 at *
  generalize iC (dr.take p) = A2 at *
  generalize iC (dl.drop (p + 1)) = A3 at *
  generalize iC (dr.drop (p + 1)) = A4 at *
  refine Call.enter' (N := 34) (rs := [.cell 4 40]) Tryz.func19 rfl rfl rfl (by decide) rfl ?_; simp only [argT]; have hD : (0 : Nat) = 0 := rfl
  repeat' first | (refine SW.seq_k fun K hK => ?_) | ((first | refine SW.region ?_ | (refine allF_i fun b hb => ?_; replace hD := And.intro hb hD; clear hb; try simp only [fresh_cons, fresh_nil, and_true, ne_eq, neF] at hD)); try simp only [go_sem, hD]) | (apply hK; clear hK K)
  obtain ⟨rb, rfl⟩ : ∃ x, x = b := ⟨_, rfl⟩
  obtain ⟨db, rfl⟩ : ∃ x, x = b := ⟨_, rfl⟩
  refine Ab.SW.le (S' := ⟨[(1, I64 p), (2, .fp (dC ⟨df, dl, dt, dr⟩)), (4, .op rb 0)], [(rb, .svs [Str ⟨#[]⟩, SN, Str ⟨#[]⟩, SN])]⟩) ?_ ?_
  · refine St.le.trans (St.le_freezeP (i := 2) (b := db) (off := 0) (n := 4) (k := .svs (dC ⟨df, dl, dt, dr⟩)) rfl (by simp [find_cons, hD]) (by exact Nat.le_refl 4)) ?_
    simp only [getN, Blk.get, go_sem, hD]
    exact St.le_sub (by repeat' (first | exact rfl | exact trivial | constructor))
  clear hD
  have hD : (0 : Nat) = 0 := rfl
  repeat' first | (with_reducible refine And.intro (by omega) ?_) | ((first | refine SW.regionX (id := 1) (Checked.mixed Tryz.checked) ((.one 3 [3, 4, 6, 7, 13, 21, 27, 28, 29] (.one 4 [4, 6, 7, 13, 21, 27, 28, 29] (.one 5 [5, 6, 7, 13, 21, 27, 28, 29] (.one 6 [6, 7, 13, 21, 27, 28, 29] (.fre 0 [0, 1, 28, 29] (.fre 1 [1, 28, 29] (.fre 8 [8, 9, 12, 13, 21, 27, 28, 29] (.fre 9 [9, 12, 13, 21, 27, 28, 29] (.fre 10 [10, 11, 12, 13, 21, 27, 28, 29] (.fre 11 [11, 12, 13, 21, 27, 28, 29] (.fre 12 [12, 13, 21, 27, 28, 29] (.fre 14 [14, 15, 28, 29] (.fre 15 [15, 28, 29] (.fre 17 [17, 18, 20, 21, 27, 28, 29] (.fre 18 [18, 20, 21, 27, 28, 29] (.fre 19 [19, 20, 21, 27, 28, 29] (.fre 20 [20, 21, 27, 28, 29] (.fre 22 [22, 23, 26, 27, 28, 29] (.fre 23 [23, 26, 27, 28, 29] (.fre 24 [24, 25, 26, 27, 28, 29] (.fre 25 [25, 26, 27, 28, 29] (.fre 26 [26, 27, 28, 29] (.alt 2 (.alt 7 (.alt 13 (.alt 16 (.alt 21 (.alt 27 (.one 28 [28, 29] (.alt 29 .done .nil)) .nil) .nil) .nil) (.alt 16 (.alt 13 (.alt 21 (.alt 27 (.one 28 [28, 29] (.alt 29 .done .nil)) .nil) .nil) .nil) .nil)) (.alt 16 (.alt 7 (.alt 13 (.alt 21 (.alt 27 (.one 28 [28, 29] (.alt 29 .done .nil)) .nil) .nil) .nil) .nil) .nil)) (.alt 16 (.alt 2 (.alt 7 (.alt 13 (.alt 21 (.alt 27 (.one 28 [28, 29] (.alt 29 .done .nil)) .nil) .nil) .nil) .nil) .nil) .nil)))))))))))))))))))))))) : OX) (by kernel_rfl) ?_ | refine SW.ret ?_ | (refine allF_i fun b hb => ?_; replace hD := And.intro hb hD; clear hb; try simp only [fresh_cons, fresh_nil, and_true, ne_eq, neF] at hD) | simp only [appK, appOsK]); try simp only [go_sem, hD, g1, g2, g3, g4, g5, g6, w1, z1, t1, t2, f1, f2, f3, f4, a1, a2, a3, a4, l1, l2, true_implies]) | (apply hK; clear hK K) | (refine And.intro ?_ ?_)
  all_goals
    refine ret_dp (la := wl) (lb := wr) rfl (by simp [find_cons, hD]; exact ⟨rfl, rfl⟩) (by simp [find_cons, hD, q1]) (by simp [find_cons, hD, q2]) n1 n2 (by simp [hD]) ?_
    simp only [resL_tmp, resL_cellE, resC_ok, resL_nil, tupOf, getN, go_sem, hD]
end Go.Proofs.YtpidncgibgiidaaGreat
