/- The model's operations yield what the abstract layer says: those that leave the world as it is. -/
import Derived.Test.YtockdinjmnkdoaaAc
namespace Go.Ab
open Go.RowKit

section
variable {P : Program} {M : Nat → Prop} {h : Heap} {w : World}

theorem Heap.find_mem {h : Heap} {b : Nat} {k : Blk} (hf : h.find b = some k) : (b, k) ∈ h := by
  induction h with
  | nil => cases hf
  | cons x r ih =>
    obtain ⟨c, k'⟩ := x
    simp only [Heap.find] at hf
    split at hf
    · rename_i hc; subst hc; cases hf; exact List.mem_cons_self
    · exact List.mem_cons_of_mem _ (ih hf)

theorem run_isAgg {t : TypeId} {g : Bool} {n : Nat} (ht : tk P t = some (g, n)) (w : World) : (isAgg t).run P w = .ok g w := by
  unfold tk at ht
  unfold isAgg underlying
  cases hu : P.underlying t with
  | none => simp [hu] at ht
  | some d =>
    cases hi : P.info? t with
    | none => rw [hu, hi] at ht; cases d <;> simp at ht
    | some i => rw [hu, hi] at ht; cases d <;> simp at ht <;> simp [hu, ht.1]

theorem run_sizeOf {t : TypeId} {g : Bool} {n : Nat} (ht : tk P t = some (g, n)) (w : World) : (sizeOf t).run P w = .ok n w := by
  unfold tk at ht
  unfold sizeOf typeInfo
  cases hu : P.underlying t with
  | none => simp [hu] at ht
  | some d =>
    cases hi : P.info? t with
    | none => rw [hu, hi] at ht; cases d <;> simp at ht
    | some i => rw [hu, hi] at ht; cases d <;> simp at ht <;> simp [hi, ht.2]

theorem run_sizeOf_info {t : TypeId} {i : TypeInfo} (hi : P.info? t = some i) (w : World) : (sizeOf t).run P w = .ok i.size w := by
  simp [sizeOf, typeInfo, hi]

theorem run_typeInfo {t : TypeId} {i : TypeInfo} (hi : P.info? t = some i) (w : World) : (typeInfo t).run P w = .ok i w := by
  simp [typeInfo, hi]

theorem slk_spec {t : TypeId} {e s b : Nat} (hs : slk P t = some (e, s, b)) : ∃ i, P.underlying t = some (.slice e) ∧ P.info? e = some i ∧ i.size = s ∧ i.bytes = b := by
  unfold slk at hs
  split at hs
  · rename_i e' hu
    split at hs
    · rename_i i hi
      simp at hs
      obtain ⟨rfl, rfl, rfl⟩ := hs
      exact ⟨i, hu, hi, rfl, rfl⟩
    · cases hs
  · cases hs

theorem ark_spec {t : TypeId} {n s : Nat} (hs : ark P t = some (n, s)) : ∃ e i, P.underlying t = some (.array n e) ∧ P.info? e = some i ∧ i.size = s := by
  unfold ark at hs
  split at hs
  · rename_i n' e' hu
    split at hs
    · rename_i i hi
      simp at hs
      obtain ⟨rfl, rfl⟩ := hs
      exact ⟨e', i, hu, hi, rfl⟩
    · cases hs
  · cases hs

theorem fdk_spec {s : TypeId} {i off n : Nat} {g : Bool} (hs : fdk P s i = some (off, g, n)) : ∃ fs f, P.underlying s = some (.struct fs) ∧ fs[i]? = some f ∧ f.offset = off ∧ tk P f.type = some (g, n) := by
  unfold fdk at hs
  split at hs
  · rename_i fs hu
    split at hs
    · rename_i f hf
      split at hs
      · rename_i g' n' hk
        simp at hs
        obtain ⟨rfl, rfl, rfl⟩ := hs
        exact ⟨fs, f, hu, hf, rfl, hk⟩
      · cases hs
    · cases hs
  · cases hs

/-- The cells that are loaded one by one. -/
theorem run_loadCellsFrom {a : Addr} (val : Nat → Value) : ∀ (n i : Nat) (acc : Array Value), (∀ j, j < n → w.cell? (a.add (i + j)) = some (val (i + j))) →
    (loadCellsFrom a i n acc).run P w = .ok (acc ++ ((List.range n).map fun j => val (i + j)).toArray) w := by
  intro n
  induction n with
  | zero => intro i acc _; simp [loadCellsFrom]
  | succ n ih =>
    intro i acc hc
    have h0 := hc 0 (by omega)
    simp only [Nat.add_zero] at h0
    simp only [loadCellsFrom, Sem.run_bind, run_load, h0, Result.andThen_ok]
    rw [ih (i + 1) (acc.push (val i)) (fun j hj => by have := hc (j + 1) (by omega); rwa [show i + (j + 1) = i + 1 + j by omega] at this)]
    congr 1
    rw [List.range_succ_eq_map]
    simp [Function.comp_def, Nat.add_assoc, Nat.add_comm 1]

theorem run_loadVar_agg {t : TypeId} {n : Nat} (ht : tk P t = some (true, n)) {b off : Nat} (val : Nat → Value) (hc : ∀ j, j < n → w.cell? ⟨b, off + j, none⟩ = some (val j)) :
    (loadVar t ⟨b, off, none⟩).run P w = .ok (.agg ((List.range n).map val).toArray) w := by
  have := run_loadCellsFrom (P := P) (w := w) (a := ⟨b, off, none⟩) val n 0 #[] (fun j hj => by simpa [Addr.add_lit] using hc j hj)
  simp only [loadVar, Sem.run_bind, run_isAgg ht, run_sizeOf ht, Result.andThen_ok, if_true, loadCells, this]
  simp

theorem run_loadVar_one {t : TypeId} {n : Nat} (ht : tk P t = some (false, n)) {a : Addr} {v : Value} (hc : w.cell? a = some v) :
    (loadVar t a).run P w = .ok v w := by
  simp [loadVar, run_isAgg ht, hc]

theorem Owns.cell (own : Owns M h w) {b : Nat} {k : Blk} (hm : (b, k) ∈ h) {i : Nat} (hi : i < k.len) : ∃ v, w.cell? ⟨b, i, none⟩ = some v ∧ Rep (envOf (hid M h) w) v (k.get i) := by
  obtain ⟨c, e, hb, hl, hr⟩ := own.ok b k hm
  have hlt : i < c.size := Nat.lt_of_lt_of_le hi hl
  refine ⟨c[i], by simp [World.cell?, hb, hlt], ?_⟩
  have := hr i hi
  simpa [hlt] using this

theorem Owns.hasSize (own : Owns M h w) {b : Nat} {k : Blk} (hm : (b, k) ∈ h) : ∃ m, HasSize w b m ∧ k.len ≤ m := by
  obtain ⟨c, e, hb, hl, _⟩ := own.ok b k hm
  exact ⟨c.size, ⟨c, e, _, hb, rfl⟩, hl⟩

theorem length_getN (k : Blk) : ∀ (n off : Nat), (getN k off n).length = n
  | 0, _ => rfl
  | n + 1, off => by simp [getN, length_getN k n]

theorem getD_getN (k : Blk) : ∀ (n off j : Nat), j < n → (getN k off n).getD j .any = k.get (off + j)
  | 0, _, _, h => absurd h (by omega)
  | n + 1, off, 0, _ => by simp [getN]
  | n + 1, off, j + 1, h => by
    have := getD_getN k n (off + 1) j (by omega)
    simp only [getN, List.getD_cons_succ]
    rw [this]; congr 1; omega

theorem getD_list {α : Type} (l : List α) (n : Nat) (d : α) (h : n < l.length) : l.getD n d = l[n] := by simp [h]

theorem load_sound {t : TypeId} {u : Value} {x v : SV} {pre : Prop} (own : Owns M h w) (hx : Rep (envOf (hid M h) w) u x)
    (hv : loadSV (tk P t) x h = .ok pre v) (hp : pre) : ∃ r, (Instr.loadAt t u).run P w = .ok r w ∧ Rep (envOf (hid M h) w) r v := by
  unfold loadSV at hv
  split at hv
  · rename_i n cs ht
    cases hv
    cases hx with
    | fp b off _ val hs hr =>
      exact ⟨val 0, by simp [Instr.loadAt, Instr.sureAddr, run_loadVar_one ht (by simpa using (hs 0 hp).2)], hr 0 hp⟩
  · rename_i n cs ht
    cases hv
    cases hx with
    | fp b off _ val hs hr =>
      refine ⟨_, by simp only [Instr.loadAt, Instr.sureAddr, Sem.run_bind, Sem.run_pure, Result.andThen_ok]; exact run_loadVar_agg ht val (fun j hj => (hs j (by omega)).2), ?_⟩
      refine .agg _ _ (by simp [hp]) (fun j hj => ?_)
      have := hr j hj
      simpa [show j < n by omega] using this
  · rename_i n b off ht
    split at hv
    · rename_i k hk
      cases hv
      cases hx with
      | op _ _ =>
        obtain ⟨r, hc, hr⟩ := own.cell (Heap.find_mem hk) hp
        exact ⟨r, by simp [Instr.loadAt, Instr.sureAddr, run_loadVar_one ht hc], hr⟩
    · cases hv
  · rename_i n b off ht
    split at hv
    · rename_i k hk
      cases hv
      cases hx with
      | op _ _ =>
        have hm := Heap.find_mem hk
        have hex : ∀ j, ∃ r, j < n → w.cell? ⟨b, off + j, none⟩ = some r ∧ Rep (envOf (hid M h) w) r (k.get (off + j)) := fun j => by
          by_cases hj : j < n
          · obtain ⟨r, h1, h2⟩ := own.cell hm (i := off + j) (by omega)
            exact ⟨r, fun _ => ⟨h1, h2⟩⟩
          · exact ⟨default, fun x => absurd x hj⟩
        obtain ⟨val, hval⟩ := Classical.axiomOfChoice hex
        refine ⟨_, by simp only [Instr.loadAt, Instr.sureAddr, Sem.run_bind, Sem.run_pure, Result.andThen_ok]; exact run_loadVar_agg ht val (fun j hj => (hval j hj).1), ?_⟩
        refine .agg _ _ (by simp [length_getN]) (fun j hj => ?_)
        rw [length_getN] at hj
        rw [getD_getN k n off j hj]
        have := (hval j hj).2
        simpa [hj] using this
    · cases hv
  · cases hv

theorem index_lt {i n s : Nat} (hi : i < n) : i * s + s ≤ n * s := by
  have := Nat.mul_le_mul_right s (Nat.succ_le_of_lt hi)
  rwa [Nat.succ_mul] at this

theorem indexAddr_sound {t : TypeId} {u u' : Value} {x i v : SV} {pre : Prop} (hx : Rep (envOf (hid M h) w) u x) (hi : Rep (envOf (hid M h) w) u' i)
    (hv : indexAddrSV (slk P t) (ark P t) x i = .ok pre v) (hp : pre) : ∃ r, (Instr.indexAt t u u').run P w = .ok r w ∧ Rep (envOf (hid M h) w) r v := by
  unfold indexAddrSV at hv
  split at hv
  · rename_i kk n
    cases hi
    split at hv
    · rename_i m sz f
      split at hv
      · rename_i q s bb hL
        cases hv
        obtain ⟨h0, h1, rfl⟩ := hp
        obtain ⟨i, hu, hin, rfl, rfl⟩ := slk_spec hL
        have hn : n.toNat < m := by omega
        cases hx with
        | fl0 a cap sz f => omega
        | fl b off _ cap _ _ val hc hl hs hr =>
          refine ⟨.pointer (some ⟨b, off + n.toNat * i.size, none⟩), by simp [Instr.indexAt, run_underlying hu, asIntOf, h0, h1, run_sizeOf_info hin, Addr.add_lit], ?_⟩
          exact .fp b _ _ (val n.toNat) (fun j hj => by rw [hl _ hn] at hj; exact hs _ hn j hj) (fun j hj => by rw [hl _ hn] at hj; exact hr _ hn j hj)
      · cases hv
    · rename_i b off len sz
      split at hv
      · rename_i q s bb hL
        cases hv
        obtain ⟨h0, h1, rfl⟩ := hp
        obtain ⟨i, hu, hin, rfl, rfl⟩ := slk_spec hL
        cases hx with
        | os _ _ _ cap _ m hc hm hb =>
          exact ⟨_, by simp [Instr.indexAt, run_underlying hu, asIntOf, h0, h1, run_sizeOf_info hin, Addr.add_lit], .op _ _⟩
      · cases hv
    · rename_i b off
      split at hv
      · rename_i len s hA
        cases hv
        obtain ⟨h0, h1⟩ := hp
        obtain ⟨e, i, hu, hin, rfl⟩ := ark_spec hA
        cases hx with
        | op _ _ => exact ⟨_, by simp [Instr.indexAt, run_underlying hu, asIntOf, h0, h1, run_sizeOf_info hin, Addr.add_lit, Instr.sureAddr], .op _ _⟩
      · cases hv
    · rename_i cs
      split at hv
      · rename_i len s hA
        cases hv
        obtain ⟨h0, h1, h2⟩ := hp
        obtain ⟨e, i, hu, hin, rfl⟩ := ark_spec hA
        cases hx with
        | fp b off _ val hs hr =>
          refine ⟨.pointer (some ⟨b, off + n.toNat * i.size, none⟩), by simp [Instr.indexAt, run_underlying hu, asIntOf, h0, h1, run_sizeOf_info hin, Addr.add_lit, Instr.sureAddr], ?_⟩
          have hlt := index_lt (i := n.toNat) (n := len) (s := i.size) (by omega)
          have hlen : ((cs.drop (n.toNat * i.size)).take i.size).length = i.size := by simp; omega
          refine .fp _ _ _ (fun j => val (n.toNat * i.size + j)) (fun j hj => ?_) (fun j hj => ?_)
          · rw [hlen] at hj
            have := hs (n.toNat * i.size + j) (by omega)
            rwa [← Nat.add_assoc] at this
          · rw [hlen] at hj
            have := hr (n.toNat * i.size + j) (by omega)
            rw [List.getD_eq_getElem?_getD] at this ⊢
            rwa [List.getElem?_take_of_lt hj, List.getElem?_drop]
      · cases hv
    · cases hv
  · cases hv

theorem fieldAddr_sound {s : TypeId} {f : Nat} {u : Value} {x v : SV} {pre : Prop} (hx : Rep (envOf (hid M h) w) u x)
    (hv : fieldAddrSV (fdk P s f) x = .ok pre v) (hp : pre) : ∃ r, (Instr.fieldAt s u f).run P w = .ok r w ∧ Rep (envOf (hid M h) w) r v := by
  unfold fieldAddrSV at hv
  split at hv
  · rename_i off g n cs hF
    cases hv
    obtain ⟨hn, hl⟩ := hp
    obtain ⟨fs, fd, hu, hf, rfl, hk⟩ := fdk_spec hF
    cases hx with
    | fp b o _ val hs hr =>
      refine ⟨.pointer (some ⟨b, o + fd.offset, none⟩), by simp [Instr.fieldAt, run_underlying hu, hf, Instr.sureAddr, fieldPlace, run_sizeOf hk, hn, Addr.add_lit], ?_⟩
      have hlen : ((cs.drop fd.offset).take n).length = n := by simp; omega
      refine .fp _ _ _ (fun j => val (fd.offset + j)) (fun j hj => ?_) (fun j hj => ?_)
      · rw [hlen] at hj
        have := hs (fd.offset + j) (by omega)
        rwa [← Nat.add_assoc] at this
      · rw [hlen] at hj
        have := hr (fd.offset + j) (by omega)
        rw [List.getD_eq_getElem?_getD] at this ⊢
        rwa [List.getElem?_take_of_lt hj, List.getElem?_drop]
  · rename_i off g n b o hF
    cases hv
    obtain ⟨fs, fd, hu, hf, rfl, hk⟩ := fdk_spec hF
    cases hx with
    | op _ _ => exact ⟨_, by simp [Instr.fieldAt, run_underlying hu, hf, Instr.sureAddr, fieldPlace, run_sizeOf hk, hp, Addr.add_lit], .op _ _⟩
  · cases hv

theorem field_sound {s : TypeId} {f : Nat} {u : Value} {x v : SV} {pre : Prop} (hx : Rep (envOf (hid M h) w) u x)
    (hv : fieldSV (fdk P s f) x = .ok pre v) (hp : pre) : ∃ r, (Instr.field s u f).run P w = .ok r w ∧ Rep (envOf (hid M h) w) r v := by
  unfold fieldSV at hv
  split at hv
  · rename_i off n cs hF
    cases hv
    obtain ⟨fs, fd, hu, hf, rfl, hk⟩ := fdk_spec hF
    cases hx with
    | agg c _ hl hr =>
      refine ⟨.agg (c.extract fd.offset (fd.offset + n)), by simp [Instr.field, run_underlying hu, hf, asAgg, part, run_isAgg hk, run_sizeOf hk], ?_⟩
      have hlen : ((cs.drop fd.offset).take n).length = n := by simp; omega
      refine .agg _ _ (by rw [hlen]; simp; omega) (fun j hj => ?_)
      rw [hlen] at hj
      have := hr (fd.offset + j) (by omega)
      rw [List.getD_eq_getElem?_getD] at this ⊢
      rw [List.getElem?_take_of_lt hj, List.getElem?_drop]
      rw [Array.getD_eq_getD_getElem?] at this ⊢
      rwa [Array.getElem?_extract, if_pos (by omega)]
  · rename_i off n cs hF
    cases hv
    obtain ⟨fs, fd, hu, hf, rfl, hk⟩ := fdk_spec hF
    cases hx with
    | agg c _ hl hr =>
      have hlt : fd.offset < c.size := by omega
      refine ⟨c[fd.offset], by simp [Instr.field, run_underlying hu, hf, asAgg, part, run_isAgg hk, hlt], ?_⟩
      have := hr _ hp
      simpa [hlt] using this
  · cases hv

theorem run_equalIn_bool {t : TypeId} (hu : P.underlying t = some .bool) (d : Nat) (a b : Bool) (w : World) : (Op.equalIn (d + 1) t (.bool a) (.bool b)).run P w = .ok (a == b) w := by
  simp [Op.equalIn, run_underlying hu]
theorem run_equal_bool {t : TypeId} (hu : P.underlying t = some .bool) (a b : Bool) (w : World) : (Op.equal t (.bool a) (.bool b)).run P w = .ok (a == b) w :=
  run_equalIn_bool hu 9999 a b w
theorem binOp_eql_bool (t : TypeId) (a b : Bool) : binOp .eql t (.bool a) (.bool b) = (do pure (.bool (← Op.equal t (.bool a) (.bool b)))) := rfl
theorem binOp_neq_bool (t : TypeId) (a b : Bool) : binOp .neq t (.bool a) (.bool b) = (do pure (.bool (!(← Op.equal t (.bool a) (.bool b))))) := rfl
theorem binOp_str_add (t : TypeId) (a b : ByteArray) : binOp .add t (.string a) (.string b) = Op.stringOp .add a b := rfl
theorem binOp_str_eql (t : TypeId) (a b : ByteArray) : binOp .eql t (.string a) (.string b) = Op.stringOp .eql a b := rfl
theorem binOp_str_neq (t : TypeId) (a b : ByteArray) : binOp .neq t (.string a) (.string b) = Op.stringOp .neq a b := rfl
theorem binOp_str_lss (t : TypeId) (a b : ByteArray) : binOp .lss t (.string a) (.string b) = Op.stringOp .lss a b := rfl
theorem binOp_str_leq (t : TypeId) (a b : ByteArray) : binOp .leq t (.string a) (.string b) = Op.stringOp .leq a b := rfl
theorem binOp_str_gtr (t : TypeId) (a b : ByteArray) : binOp .gtr t (.string a) (.string b) = Op.stringOp .gtr a b := rfl
theorem binOp_str_geq (t : TypeId) (a b : ByteArray) : binOp .geq t (.string a) (.string b) = Op.stringOp .geq a b := rfl

theorem bin_sound {op : BinOp} {t : TypeId} {ox oy : Operand} {u u' : Value} {x y v : SV} {pre : Prop} (hx : Rep (envOf (hid M h) w) u x) (hy : Rep (envOf (hid M h) w) u' y)
    (hv : binSV P op t x y = .ok pre v) (hp : pre) : ∃ r, (do eqGuard op t ox oy u u'; binOp op t u u' : Sem Value).run P w = .ok r w ∧ Rep (envOf (hid M h) w) r v := by
  unfold binSV at hv
  split at hv
  · rename_i k a k' b
    cases hx; cases hy
    cases op <;> simp only [binII, VRes.ok.injEq] at hv <;> obtain ⟨rfl, rfl⟩ := hv
    case add => subst hp; exact ⟨_, by simp [eqGuard_at_int, binOp_add, Op.intArith], .sc _⟩
    case sub => subst hp; exact ⟨_, by simp [eqGuard_at_int, binOp_sub, Op.intArith], .sc _⟩
    case mul => subst hp; exact ⟨_, by simp [eqGuard_at_int, binOp_mul, Op.intArith], .sc _⟩
    case quo => obtain ⟨rfl, hb⟩ := hp; exact ⟨_, by simp [eqGuard_at_int, binOp_quo, Op.intDiv, hb], .sc _⟩
    case rem => obtain ⟨rfl, hb⟩ := hp; exact ⟨_, by simp [eqGuard_at_int, binOp_rem, Op.intDiv, hb], .sc _⟩
    case and => subst hp; exact ⟨_, by simp [eqGuard_at_int, binOp_and, intBits_and], .sc _⟩
    case or => subst hp; exact ⟨_, by simp [eqGuard_at_int, binOp_or, intBits_or], .sc _⟩
    case xor => subst hp; exact ⟨_, by simp [eqGuard_at_int, binOp_xor, intBits_xor], .sc _⟩
    case andNot => subst hp; exact ⟨_, by simp [eqGuard_at_int, binOp_andNot, intBits_andNot], .sc _⟩
    case eql => subst hp; exact ⟨_, by simp [eqGuard_at_int, binOp_eql]; rfl, by exact .sc _⟩
    case neq => subst hp; exact ⟨_, by simp [eqGuard_at_int, binOp_neq]; rfl, by exact .sc _⟩
    case lss => subst hp; exact ⟨_, by simp [eqGuard_at_int, binOp_lss], .sc _⟩
    case leq => subst hp; exact ⟨_, by simp [eqGuard_at_int, binOp_leq], .sc _⟩
    case gtr => subst hp; exact ⟨_, by simp [eqGuard_at_int, binOp_gtr], .sc _⟩
    case geq => subst hp; exact ⟨_, by simp [eqGuard_at_int, binOp_geq], .sc _⟩
    case shl => exact ⟨_, by simp [eqGuard_at_int, binOp_shl, Op.shift, Int.not_lt.2 hp], .sc _⟩
    case shr => exact ⟨_, by simp [eqGuard_at_int, binOp_shr, Op.shift, Int.not_lt.2 hp], .sc _⟩
  · rename_i a b
    cases hx; cases hy
    cases op <;> simp only [binSS] at hv <;> first | (cases hv; done) | (simp only [VRes.ok.injEq] at hv; obtain ⟨rfl, rfl⟩ := hv)
    case add =>
      have : ¬ (((a.size + b.size : Nat) : Int) > IntKind.i64.max) := by rw [IntKind.max_i64]; omega
      exact ⟨_, by simp only [Sem.run_bind, eqGuard_at_string, Sem.run_pure, Result.andThen_ok, binOp_str_add, Op.stringOp, if_neg this], .sc _⟩
    case eql => exact ⟨_, by simp only [Sem.run_bind, eqGuard_at_string, Sem.run_pure, Result.andThen_ok, binOp_str_eql, Op.stringOp], .sc _⟩
    case neq => exact ⟨_, by simp only [Sem.run_bind, eqGuard_at_string, Sem.run_pure, Result.andThen_ok, binOp_str_neq, Op.stringOp], .sc _⟩
    case lss => exact ⟨_, by simp only [Sem.run_bind, eqGuard_at_string, Sem.run_pure, Result.andThen_ok, binOp_str_lss, Op.stringOp], .sc _⟩
    case leq => exact ⟨_, by simp only [Sem.run_bind, eqGuard_at_string, Sem.run_pure, Result.andThen_ok, binOp_str_leq, Op.stringOp], .sc _⟩
    case gtr => exact ⟨_, by simp only [Sem.run_bind, eqGuard_at_string, Sem.run_pure, Result.andThen_ok, binOp_str_gtr, Op.stringOp], .sc _⟩
    case geq => exact ⟨_, by simp only [Sem.run_bind, eqGuard_at_string, Sem.run_pure, Result.andThen_ok, binOp_str_geq, Op.stringOp], .sc _⟩
  · rename_i a b
    cases hx; cases hy
    have hu : isBool P t = true → P.underlying t = some .bool := fun hb => by
      unfold isBool at hb
      split at hb
      · assumption
      · cases hb
    cases op <;> simp only [binBB] at hv <;> first | (cases hv; done) | (simp only [VRes.ok.injEq] at hv; obtain ⟨rfl, rfl⟩ := hv)
    · refine ⟨.bool (a == b), ?_, .sc _⟩
      simp only [Sem.run_bind, eqGuard_at_bool, Sem.run_pure, Result.andThen_ok, binOp_eql_bool, run_equal_bool (hu hp)]
    · refine ⟨.bool (!(a == b)), ?_, .sc _⟩
      simp only [Sem.run_bind, eqGuard_at_bool, Sem.run_pure, Result.andThen_ok, binOp_neq_bool, run_equal_bool (hu hp)]
  · cases hv

theorem un_sound {op : UnOp} {u : Value} {x v : SV} {pre : Prop} (hx : Rep (envOf (hid M h) w) u x)
    (hv : unSV op x = .ok pre v) : ∃ r, (Op.unary op u).run P w = .ok r w ∧ Rep (envOf (hid M h) w) r v := by
  unfold unSV at hv
  split at hv
  · cases hx; cases hv; exact ⟨_, by simp [Op.unary, Op.intArith], .sc _⟩
  · cases hx; cases hv; exact ⟨_, by simp [Op.unary], .sc _⟩
  · cases hx; cases hv; exact ⟨_, by simp [Op.unary, intBits_xor], .sc _⟩
  · cases hv

theorem isStr_spec {t : TypeId} (hs : isStr P t = true) : P.underlying t = some .string := by
  unfold isStr at hs
  split at hs
  · assumption
  · cases hs

theorem index_sound {t : TypeId} {u u' : Value} {x i v : SV} {pre : Prop} (hx : Rep (envOf (hid M h) w) u x) (hi : Rep (envOf (hid M h) w) u' i)
    (hv : indexSV (isStr P t) x i = .ok pre v) (hp : pre) : ∃ r, (Instr.index t u u').run P w = .ok r w ∧ Rep (envOf (hid M h) w) r v := by
  unfold indexSV at hv
  split at hv
  · rename_i s k n
    cases hv
    obtain ⟨hs, h0, h1⟩ := hp
    cases hx; cases hi
    have hlt : n.toNat < s.size := by omega
    refine ⟨.int .u8 (s.data.toList.getD n.toNat 0).toNat, ?_, .sc _⟩
    have he : s[n.toNat]? = some (s.data.toList.getD n.toNat 0) := by
      rw [getElem?_pos s n.toNat hlt, List.getD_eq_getElem?_getD, Array.getElem?_toList, Array.getElem?_eq_getElem (by simpa using hlt)]
      rfl
    simp [Instr.index, asIntOf, run_underlying (isStr_spec hs), h0, he]
  · cases hv

theorem len_sound {t ty : TypeId} {u : Value} {x v : SV} {pre : Prop} (hx : Rep (envOf (hid M h) w) u x)
    (hv : lenSV (isStr P t) (slk P t) (ark P t) x = .ok pre v) (hp : pre) : ∃ r, (Builtin.len_ #[t] ty #[u]).run P w = .ok r w ∧ Rep (envOf (hid M h) w) r v := by
  have arr : ∀ {pre : Prop} {v : SV}, (match ark P t with | some (n, _) => VRes.ok True (.sc (.int .i64 n)) | none => .bad) = .ok pre v → ∃ r, (Builtin.len_ #[t] ty #[u]).run P w = .ok r w ∧ Rep (envOf (hid M h) w) r v := by
    intro pre v hv
    split at hv
    · rename_i n s hA
      cases hv
      obtain ⟨e, i, hu, hin, rfl⟩ := ark_spec hA
      exact ⟨_, by simp [Builtin.len_, run_underlying hu, goInt], .sc _⟩
    · cases hv
  unfold lenSV at hv
  split at hv
  · split at hv
    · rename_i L hL
      obtain ⟨e, s, bb⟩ := L
      cases hv
      obtain ⟨i, hu, hin, rfl, rfl⟩ := slk_spec hL
      cases hx <;> exact ⟨_, by simp [Builtin.len_, run_underlying hu, goInt], .sc _⟩
    · cases hv
  · split at hv
    · rename_i L hL
      obtain ⟨e, s, bb⟩ := L
      cases hv
      obtain ⟨i, hu, hin, rfl, rfl⟩ := slk_spec hL
      cases hx; exact ⟨_, by simp [Builtin.len_, run_underlying hu, goInt], .sc _⟩
    · cases hv
  · split at hv
    · rename_i L hL
      obtain ⟨e, s, bb⟩ := L
      cases hv
      obtain ⟨i, hu, hin, rfl, rfl⟩ := slk_spec hL
      cases hx; exact ⟨_, by simp [Builtin.len_, run_underlying hu, goInt], .sc _⟩
    · cases hv
  · cases hv
    cases hx
    exact ⟨_, by simp [Builtin.len_, run_underlying (isStr_spec hp), goInt], .sc _⟩
  · exact arr hv

end
end Go.Ab
