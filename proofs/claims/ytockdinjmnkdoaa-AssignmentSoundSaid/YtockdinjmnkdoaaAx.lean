/- One operation of the reading. -/
import Derived.Test.YtockdinjmnkdoaaAw
set_option linter.unusedVariables false
set_option linter.unusedSimpArgs false
namespace Go.Ab
open Go.RowKit

abbrev CallI := Nat → FuncId → List IV → IHeap → Option (IV × IHeap)

/-- Calls that are read are calls. -/
def CallOK (P : Program) (call : CallI) (sz : Nat) : Prop := ∀ nm g args h r h', call nm g args h = some (r, h') → ∀ I : Nat → Prop, Out I nm sz → (∀ v ∈ args, SupV I v) → SupS I ⟨.nil, h⟩ →
  SupV (Plus I nm sz) r ∧ SupS (Plus I nm sz) ⟨.nil, h'⟩ ∧
  ∀ ρ H, HD ρ h H → Call P g (args.map (IV.den ρ)) H (fun R H' => ∃ ρ', Agr nm sz ρ ρ' ∧ R = r.den ρ' ∧ HD ρ' h' H')

def dOk (N : Nat) (d : Option Tmp) : Bool := match d with
  | some i => Nat.blt i N
  | none => true

theorem dOk_ok {N : Nat} {d : Option Tmp} (h : dOk N d = true) : dstOk N d := by
  cases d with
  | none => trivial
  | some d =>
    have h' : Nat.blt d N = true := h
    rw [Nat.blt_eq] at h'
    exact h'

/-- Operations whose order does not matter among themselves. -/
def stX (op : Op) : Bool := stableOp op && !callOp op

def srcI (size : Nat) (x : IV) (h : IHeap) : Option (Nat × List IV) :=
  match x with
  | .os b off n sz => match ifind h b with
    | some k => bif Nat.beq sz size && Nat.ble (off + n * sz) k.length then some (n, (k.drop off).take (n * sz)) else none
    | none => none
  | .sc (.slice none 0 0) => some (0, [])
  | .sc (.string s) => bif Nat.beq size 1 then some (s.size, s.data.toList.map fun b => .sc (.int .u8 b.toNat)) else none
  | _ => none

noncomputable def appI (nm : Nat) (L : Option (TypeId × Nat × Nat)) (Z : Option (List Value)) (s x : IV) (dst : Option Tmp) (S : IS) : Option IS :=
  match L, Z with
  | some (_, size, bytes), some z => match srcI size x S.h with
    | some (n, cs) => bif cs.all isingle && Nat.beq z.length size && Nat.blt 0 size then
      (match s with
      | .sc (.slice none 0 0) => bif Nat.ble (n * bytes) 140737488355328 && Nat.ble n 140737488355328 then
          (match n with
          | 0 => some (S.put dst (.sc (.slice none 0 0)))
          | m + 1 => some ((⟨S.t, iins S.h nm cs⟩ : IS).put dst (.os nm 0 (m + 1) size)))
          else none
      | .os b off len sz => match ifind S.h b with
        | some k => bif Nat.beq off 0 && Nat.beq sz size && Nat.beq (len * sz) k.length && Nat.ble ((len + n) * bytes) 140737488355328 && Nat.ble (len + n) 140737488355328 then
            some ((⟨S.t, iins (idel S.h b) nm (k ++ cs)⟩ : IS).put dst (.os nm 0 (len + n) sz)) else none
        | none => none
      | _ => none) else none
    | none => none
  | _, _ => none

noncomputable def appZI (nm : Nat) (L : Option (TypeId × Nat × Nat)) (Z : Option (List Value)) (s x : IV) (dst : Option Tmp) (S : IS) : Option IS :=
  match L, Z, s, x with
  | some (_, size, bytes), some z, .sc (.slice none 0 0), .sc (.int .i64 (.ofNat n)) => bif Nat.beq z.length size && Nat.blt 0 size && Nat.blt 0 n && Nat.ble (n * bytes) 140737488355328 && Nat.ble n 140737488355328 then
      some ((⟨S.t, iins S.h nm (izfill z n)⟩ : IS).put dst (.os nm 0 n size)) else none
  | _, _, _, _ => none

/-- What stands behind the end of a slice that is appended to is forgotten. -/
def cutI (s : IV) (h : IHeap) : IHeap := match s with
  | .os b _ len sz => match ifind h b with
    | some k => bif Nat.blt (len * sz) k.length then iupd h b (k.take (len * sz)) else h
    | none => h
  | _ => h

noncomputable def effI (P : Program) (call : CallI) (nm : Nat) (op : Op) (dst : Option Tmp) (S : IS) : Option IS :=
  match op with
  | .store t a v => match tk P t, S.ev a, icells (S.ev v) with
    | some (_, n), .op b off, some cs => match ifind S.h b with
      | some k => bif Nat.beq cs.length n && Nat.ble (off + n) k.length then some ((⟨S.t, iupd S.h b (isetAll k off cs)⟩ : IS).put dst .any) else none
      | none => none
    | _, _, _ => none
  | .call ⟨.value f, args, _⟩ => match S.ev f with
    | .fn (.func g) first captured => match call nm g (first ++ args.toList.map S.ev ++ captured) S.h with
      | some (r, h') => some ((⟨S.t, h'⟩ : IS).put dst r)
      | none => none
    | _ => none
  | .call ⟨.builtin .append, ⟨[s, x]⟩, ⟨[st, xt]⟩⟩ => bif notInt P xt then appI nm (slk P st) (elemZ P st) (S.ev s) (S.ev x) dst ⟨S.t, cutI (S.ev s) S.h⟩
      else bif (ik P xt).isSome then appZI nm (slk P st) (elemZ P st) (S.ev s) (S.ev x) dst S else none
  | _ => none

noncomputable def stepI (P : Program) (call : CallI) (N nm : Nat) (o : Oper) (S : IS) : Option IS :=
  bif dOk N o.dst then
    match valI P o.op S.ev S.h with
    | .ok v => some (S.put o.dst v)
    | .new cs mk => bif stX o.op then none else some ((⟨S.t, iins S.h nm cs⟩ : IS).put o.dst (mk nm))
    | .bad => effI P call nm o.op o.dst S
  else none

section
variable {P : Program} {N : Nat}

/-- Seen from the temporaries and the owned blocks. -/
def TK (K : (Nat → SV) → Heap → Prop) : St → Prop := fun S => K (look S.t) S.h

theorem TK_put {K : (Nat → SV) → Heap → Prop} {t : List (Nat × SV)} {h : Heap} {d : Option Tmp} {v : SV} (hk : K (putF (look t) d v) h) : TK K ((⟨t, h⟩ : St).put d v) := by
  unfold TK
  rw [look_put, h_put]
  exact hk

theorem SupS.heap {I : Nat → Prop} {t t' : TT} {h : IHeap} (H : SupS I ⟨t, h⟩) (ht : ∀ i, SupV I (t'.get i)) : SupS I ⟨t', h⟩ := ⟨ht, H.n, H.h⟩

theorem supS_nil_t {I : Nat → Prop} {t : TT} {h : IHeap} (H : SupS I ⟨t, h⟩) : SupS I ⟨.nil, h⟩ := ⟨fun i => .any _, H.n, H.h⟩

theorem srcI_ok {size n : Nat} {x : IV} {ih : IHeap} {cs : List IV} {ρ : Nat → Nat} {h : Heap} (hs : srcI size x ih = some (n, cs)) (H : HD ρ ih h) :
    srcCells (x.den ρ) h = some (n, cs.map (IV.den ρ)) ∧ srcOk size (x.den ρ) h := by
  unfold srcI at hs
  split at hs
  · rename_i b off m sz
    split at hs
    · rename_i k hk
      obtain ⟨kk, hf, hc⟩ := H.get hk
      cases hb : (Nat.beq sz size && Nat.ble (off + m * sz) k.length) with
      | false => rw [hb] at hs; cases hs
      | true =>
        rw [hb] at hs
        cases hs
        rw [Bool.and_eq_true, Nat.beq_eq, Nat.ble_eq] at hb
        refine ⟨?_, ?_⟩
        · simp only [IV.den, src_os, hf, getN_I hc _ _ hb.2]
        · simp only [IV.den, srcOk_os, hf]
          exact ⟨hb.1, by rw [Blk.lenI hc]; exact hb.2⟩
    · cases hs
  · cases hs
    exact ⟨rfl, trivial⟩
  · rename_i s
    cases hb : Nat.beq size 1 with
    | false => rw [hb] at hs; cases hs
    | true =>
      rw [hb] at hs
      cases hs
      rw [Nat.beq_eq] at hb
      refine ⟨?_, hb⟩
      simp only [IV.den, srcCells, List.map_map]
      rfl
  · cases hs

theorem srcI_sup {size n : Nat} {x : IV} {S : IS} {cs : List IV} {I : Nat → Prop} (hs : srcI size x S.h = some (n, cs)) (H : SupS I S) : ∀ c ∈ cs, SupV I c := by
  unfold srcI at hs
  split at hs
  · rename_i b off m sz
    split at hs
    · rename_i k hk
      have hc := H.h _ (ifind_mem hk)
      cases hb : (Nat.beq sz size && Nat.ble (off + m * sz) k.length) with
      | false => rw [hb] at hs; cases hs
      | true => rw [hb] at hs; cases hs; exact fun c hm => hc c (List.mem_of_mem_drop (List.mem_of_mem_take hm))
    · cases hs
  · cases hs; exact fun c hm => by cases hm
  · cases hb : Nat.beq size 1 with
    | false => rw [hb] at hs; cases hs
    | true =>
      rw [hb] at hs
      cases hs
      intro c hm
      obtain ⟨b, _, rfl⟩ := List.mem_map.1 hm
      exact .sc _ _
  · cases hs

/-- A step, less said of the owned blocks. -/
def stepE (P : Program) (N : Nat) (o : Oper) (K : St → Prop) (S : St) : Prop := ∃ h', (∀ t, (St.mk t S.h).le ⟨t, h'⟩) ∧ stepK P N o K ⟨S.t, h'⟩

theorem stepE_of {o : Oper} {K : St → Prop} {S : St} (h : stepK P N o K S) : stepE P N o K S := ⟨S.h, fun t => .refl _, h⟩

theorem stepE_mono {o : Oper} {K K' : St → Prop} {S : St} (hK : ∀ S, K S → K' S) (h : stepE P N o K S) : stepE P N o K' S := by
  obtain ⟨h', h1, h2⟩ := h
  exact ⟨h', h1, stepK_mono hK h2⟩

theorem stepE_sound {M : Nat → Prop} {w0 : World} {D : Nat → Prop} {S : St} {a : Act} {w : World} {o : Oper} {K : St → Prop} {Q : Exit → Act → World → Prop} (hr : Rel M w0 D N S a w) (h : stepE P N o K S) : o.wp P a w (After M w0 D N K) Q := by
  obtain ⟨h', h1, h2⟩ := h
  exact stepK_sound (h1 S.t _ _ _ _ _ _ hr) h2

theorem cutI_sup {s : IV} {S : IS} {I : Nat → Prop} (H : SupS I S) : SupS I ⟨S.t, cutI s S.h⟩ := by
  have triv : SupS I ⟨S.t, S.h⟩ := H
  unfold cutI
  split
  · rename_i b o len sz
    split
    · rename_i k hk
      cases Nat.blt (len * sz) k.length with
      | false => exact triv
      | true =>
        refine ⟨H.t, fun x hx => ?_, fun x hx => ?_⟩
        · rcases mem_iupd hx with rfl | hx
          · exact H.n (b, k) (ifind_mem hk)
          · exact H.n x hx
        · rcases mem_iupd hx with rfl | hx
          · exact fun c hm => H.h (b, k) (ifind_mem hk) c (List.mem_of_mem_take hm)
          · exact H.h x hx
    · exact triv
  · exact triv

theorem cutI_ok {s : IV} {S : IS} {ρ : Nat → Nat} {T : Nat → SV} {h : Heap} (Dd : DS ρ S T h) : ∃ h', (∀ t, (St.mk t h).le ⟨t, h'⟩) ∧ DS ρ ⟨S.t, cutI s S.h⟩ T h' := by
  have triv : ∃ h', (∀ t, (St.mk t h).le ⟨t, h'⟩) ∧ DS ρ ⟨S.t, S.h⟩ T h' := ⟨h, fun t => .refl _, Dd⟩
  unfold cutI
  split
  · rename_i b o len sz
    split
    · rename_i k hk
      cases Nat.blt (len * sz) k.length with
      | false => exact triv
      | true =>
        obtain ⟨kk, hf, hc⟩ := Dd.hd.get hk
        refine ⟨h.upd (ρ b) (.svs (kk.cells.take (len * sz))), fun t => St.le_cut (len * sz) hf rfl, ⟨Dd.t, Dd.hd.upd hk hf ?_⟩⟩
        show kk.cells.take _ = _
        rw [hc, List.map_take]
    · exact triv
  · exact triv

/-- What a step must bring. -/
structure StepOK (P : Program) (N : Nat) (o : Oper) (nm sz : Nat) (I : Nat → Prop) (S S' : IS) : Prop where
  sup : SupS (Plus I nm sz) S'
  run : ∀ ρ (S0 : St), DS ρ S (look S0.t) S0.h → ∀ K : (Nat → SV) → Heap → Prop, (∀ ρ' T' h', Agr nm sz ρ ρ' → DS ρ' S' T' h' → K T' h') → stepE P N o (TK K) S0
  st : stX o.op = true → dstOk N o.dst ∧ ∃ v, S' = S.put o.dst v ∧ ∀ ρ T h, DS ρ S T h → ∃ pre, valOp P o.op (evF T) h = .ok pre (v.den ρ) ∧ pre

theorem plus_l {I : Nat → Prop} {nm sz : Nat} : ∀ n, I n → Plus I nm sz n := fun n h => .inl h

theorem new_sup {I : Nat → Prop} {nm sz : Nat} {S : IS} {cs : List IV} {v : IV} {d : Option Tmp} (hz : 0 < sz) (H : SupS I S) (hc : ∀ c ∈ cs, SupV I c) (hv : SupV (fun m => m = nm) v) {ih : IHeap} (hih : ∀ x ∈ ih, x ∈ S.h) :
    SupS (Plus I nm sz) ((⟨S.t, iins ih nm cs⟩ : IS).put d v) := by
  refine SupS.put (S := ⟨S.t, iins ih nm cs⟩) ⟨fun i => (H.t i).mono plus_l, fun x hx => ?_, fun x hx => ?_⟩ d (hv.mono fun n (hn : n = nm) => .inr (by subst hn; exact ⟨Nat.le_refl n, Nat.lt_add_of_pos_right hz⟩))
  · rcases mem_iins.1 hx with rfl | hx
    · exact .inr ⟨Nat.le_refl _, by show nm < nm + sz; omega⟩
    · exact .inl (H.n x (hih x hx))
  · rcases mem_iins.1 hx with rfl | hx
    · exact fun c hm => (hc c hm).mono plus_l
    · exact fun c hm => (H.h x (hih x hx) c hm).mono plus_l

theorem os_sup (nm off n sz : Nat) : SupV (fun m => m = nm) (.os nm off n sz) := fun ρ ρ' e => by simp [IV.den, e nm rfl]

/-- The state behind a new block. -/
theorem DS.new {ρ : Nat → Nat} {I : Nat → Prop} {nm sz b : Nat} {S : IS} {T : Nat → SV} {h : Heap} {cs : List IV} {k : Blk} (H : DS ρ S T h) (hs : SupS I S) (hI : ¬ I nm) (hc : ∀ c ∈ cs, SupV I c) (hf : fresh h b)
    (hk : k.cells = cs.map (IV.den ρ)) (d : Option Tmp) {v : IV} {x : SV} (hv : x = v.den (upn ρ nm b)) : DS (upn ρ nm b) ((⟨S.t, iins S.h nm cs⟩ : IS).put d v) (putF T d x) ((b, k) :: h) := by
  subst hv
  refine DS.put ⟨fun i => ?_, H.hd.new hs.n hs.h hI hc hf hk⟩ d v
  rw [H.t i]
  exact hs.t i _ _ fun n hn => (upn_other (fun e => hI (by rw [← e]; exact hn))).symm

theorem stepI_ok {call : CallI} {sz nm : Nat} (hcall : CallOK P call sz) (hz : 0 < sz) {o : Oper} {S S' : IS} (hs : stepI P call N nm o S = some S') {I : Nat → Prop} (hI : Out I nm sz) (H : SupS I S) : StepOK P N o nm sz I S S' := by
  have hnm : ¬ I nm := hI nm (Nat.le_refl _) (by omega)
  unfold stepI at hs
  cases hd : dOk N o.dst with
  | false => rw [hd] at hs; cases hs
  | true =>
    rw [hd] at hs
    simp only [cond_true] at hs
    have hd' := dOk_ok hd
    have hval := fun ρ T h (D : DS ρ S T h) => valI_ok (P := P) (op := o.op) (ε := S.ev) (e := evF T) D.ev D.hd
    have hsup := valI_sup (P := P) (op := o.op) H
    generalize hR : valI P o.op S.ev S.h = R at hs hval hsup
    cases R with
    | ok v =>
      cases hs
      simp only at hsup
      refine ⟨(H.put o.dst hsup).mono plus_l, fun ρ S0 D K hK => ?_, fun _ => ⟨hd', v, rfl, fun ρ T h D => hval ρ T h D⟩⟩
      obtain ⟨pre, h1, h2⟩ := hval ρ _ _ D
      refine stepE_of ⟨hd', ?_⟩
      rw [ev_look, h1]
      exact ⟨h2, TK_put (hK ρ _ _ (.refl _ _ _) (D.put o.dst v))⟩
    | new cs mk =>
      cases hst : stX o.op with
      | true => rw [hst] at hs; cases hs
      | false =>
        rw [hst] at hs
        cases hs
        simp only at hsup
        refine ⟨new_sup hz H hsup.1 (hsup.2 nm) (fun x hx => hx), fun ρ S0 D K hK => ?_, fun e => by rw [hst] at e; cases e⟩
        obtain ⟨pre, k, f, h1, h2, h3, h4⟩ := hval ρ _ _ D
        refine stepE_of ⟨hd', ?_⟩
        rw [ev_look, h1]
        refine ⟨h2, fun b hb => TK_put (hK (upn ρ nm b) _ _ (upn_agr hz) (D.new (sz := sz) H hnm hsup.1 hb h3 o.dst ?_))⟩
        rw [← h4 (upn ρ nm b) nm, upn_same]
    | bad =>
      simp only at hs
      unfold effI at hs
      have hbad : ∀ S0 : St, valOp P o.op S0.ev S0.h = .bad → ∀ K : St → Prop, effK P o.op o.dst K S0 → stepK P N o K S0 := fun S0 hb K he => ⟨hd', by rw [hb]; exact he⟩
      split at hs
      · rename_i t a v hop
        split at hs
        · rename_i g n b off cs hT ha hc
          split at hs
          · rename_i k hk
            cases hb : (Nat.beq cs.length n && Nat.ble (off + n) k.length) with
            | false => rw [hb] at hs; cases hs
            | true =>
              rw [hb] at hs
              cases hs
              rw [Bool.and_eq_true, Nat.beq_eq, Nat.ble_eq] at hb
              have hcs : ∀ c ∈ cs, SupV I c := by
                have hv := H.ev v
                revert hv hc
                generalize S.ev v = vv
                intro hc hv c hm
                have one : ∀ w : IV, SupV I w → (bif isingle w then some [w] else none) = some cs → SupV I c := fun w hw h => by
                  cases hs : isingle w with
                  | false => rw [hs] at h; cases h
                  | true => rw [hs] at h; cases h; rw [List.mem_singleton.1 hm]; exact hw
                cases vv with
                | agg l =>
                  simp only [icells] at hc
                  cases hs : l.all isingle with
                  | false => rw [hs] at hc; cases hc
                  | true =>
                    rw [hs] at hc
                    cases hc
                    intro ρ ρ' e
                    have := hv ρ ρ' e
                    simp only [IV.den, IV.denL_map, SV.agg.injEq] at this
                    obtain ⟨i, hi, rfl⟩ := List.mem_iff_getElem.1 hm
                    have := congrArg (fun l => l.getD i .any) this
                    simp only [den_getD] at this
                    rw [getD_list _ _ _ hi] at this
                    exact this
                | sc x => exact one (.sc x) hv hc
                | any => exact one .any hv hc
                | tup l => exact one (.tup l) hv hc
                | os b o l s => exact one (.os b o l s) hv hc
                | op b o => exact one (.op b o) hv hc
                | fn g a c' => exact one (.fn g a c') hv hc
              have hset : ∀ (l : List IV) (k : List IV) (off : Nat), (∀ c ∈ l, SupV I c) → (∀ c ∈ k, SupV I c) → ∀ c ∈ isetAll k off l, SupV I c := by
                intro l
                induction l with
                | nil => exact fun k off _ h2 => h2
                | cons x r ih => exact fun k off h1 h2 => ih _ _ (fun c hm => h1 c (List.mem_cons_of_mem _ hm)) (fun c hm => by
                    rcases List.mem_or_eq_of_mem_set hm with hm | rfl
                    · exact h2 c hm
                    · exact h1 _ List.mem_cons_self)
              refine ⟨SupS.mono plus_l (SupS.put (S := ⟨S.t, iupd S.h b (isetAll k off cs)⟩) ⟨H.t, fun x hx => ?_, fun x hx => ?_⟩ _ (.any _)), fun ρ S0 D K hK => ?_, fun e => by rw [hop] at e; cases e⟩
              · rcases mem_iupd hx with rfl | hx
                · exact H.n (b, k) (ifind_mem hk)
                · exact H.n x hx
              · rcases mem_iupd hx with rfl | hx
                · exact hset _ _ _ hcs (H.h (b, k) (ifind_mem hk))
                · exact H.h x hx
              · refine stepE_of (hbad S0 (by rw [hop]; rfl) _ ?_)
                rw [hop]
                obtain ⟨kk, hf, hcc⟩ := D.hd.get hk
                simp only [effK, ev_look, D.ev, ha, IV.den, icells_den hc, hT, storeK, hf]
                refine ⟨by simpa using hb.1, by rw [Blk.lenI hcc]; exact hb.2, TK_put (hK ρ _ _ (.refl _ _ _) ?_)⟩
                refine DS.put (S := ⟨S.t, iupd S.h b (isetAll k off cs)⟩) ⟨D.t, D.hd.upd hk hf ?_⟩ o.dst .any
                rw [setN_cells, hcc, setAll_den]
          · cases hs
        · cases hs
      · rename_i f args ts hop
        split at hs
        · rename_i g first captured hfv
          split at hs
          · rename_i r h' hc
            cases hs
            have hfs := H.ev f
            rw [hfv] at hfs
            have sub : (∀ c ∈ first, SupV I c) ∧ ∀ c ∈ captured, SupV I c := by
              refine ⟨fun c hm ρ ρ' e => ?_, fun c hm ρ ρ' e => ?_⟩
              all_goals
                have := hfs ρ ρ' e
                simp only [IV.den, IV.denL_map, SV.fn.injEq] at this
                obtain ⟨i, hi, rfl⟩ := List.mem_iff_getElem.1 hm
              · have := congrArg (fun l => l.getD i .any) this.2.1
                simp only [den_getD] at this
                rw [getD_list _ _ _ hi] at this
                exact this
              · have := congrArg (fun l => l.getD i .any) this.2.2
                simp only [den_getD] at this
                rw [getD_list _ _ _ hi] at this
                exact this
            obtain ⟨c1, c2, c3⟩ := hcall _ _ _ _ _ _ hc I hI (fun v hv => by
              rcases List.mem_append.1 hv with hv | hv
              · rcases List.mem_append.1 hv with hv | hv
                · exact sub.1 v hv
                · obtain ⟨x, _, rfl⟩ := List.mem_map.1 hv; exact H.ev x
              · exact sub.2 v hv) (supS_nil_t H)
            refine ⟨SupS.put (S := ⟨S.t, h'⟩) ⟨fun i => (H.t i).mono plus_l, c2.n, c2.h⟩ _ c1, fun ρ S0 D K hK => ?_, fun e => by rw [hop] at e; cases e⟩
            refine stepE_of (hbad S0 (by rw [hop]; rfl) _ ?_)
            rw [hop]
            have hargs : args.toList.map (fun x => IV.den ρ (S.ev x)) = (args.toList.map S.ev).map (IV.den ρ) := by rw [List.map_map]; rfl
            have hev : S0.ev = fun x => IV.den ρ (S.ev x) := by rw [ev_look]; exact funext D.ev
            simp only [effK, hev, hfv, IV.den, IV.denL_map, callK, hargs, ← List.map_append]
            refine (c3 ρ S0.h D.hd).mono fun R H' ⟨ρ', a1, a2, a3⟩ => TK_put (hK ρ' _ _ a1 ?_)
            subst a2
            refine DS.put (S := ⟨S.t, h'⟩) ⟨fun i => ?_, a3⟩ o.dst r
            rw [D.t i]
            exact H.t i _ _ (a1.on hI)
          · cases hs
        · cases hs
      · rename_i s x st xt hop
        have hbad' : ∀ S0 : St, valOp P o.op S0.ev S0.h = .bad := fun S0 => by rw [hop]; rfl
        cases hN : notInt P xt with
        | true =>
          rw [hN] at hs
          simp only [cond_true] at hs
          have H1 : SupS I ⟨S.t, cutI (S.ev s) S.h⟩ := cutI_sup H
          have D1 := fun ρ (S0 : St) (Dd : DS ρ S (look S0.t) S0.h) => cutI_ok (s := S.ev s) Dd
          have V1 : ∀ y, (⟨S.t, cutI (S.ev s) S.h⟩ : IS).ev y = S.ev y := fun y => by cases y <;> rfl
          have key : ∀ (S1 : IS), S1.t = S.t → SupS I S1 → appI nm (slk P st) (elemZ P st) (S1.ev s) (S1.ev x) o.dst S1 = some S' → SupS (Plus I nm sz) S' ∧
              ∀ ρ (S0 : St), DS ρ S1 (look S0.t) S0.h → ∀ K : (Nat → SV) → Heap → Prop, (∀ ρ' T' h', Agr nm sz ρ ρ' → DS ρ' S' T' h' → K T' h') → stepK P N o (TK K) S0 := ?_
          · obtain ⟨k1, k2⟩ := key ⟨S.t, cutI (S.ev s) S.h⟩ rfl H1 (by rw [V1, V1]; exact hs)
            refine ⟨k1, fun ρ S0 Dd K hK => ?_, fun e => by rw [hop] at e; cases e⟩
            obtain ⟨h', a1, a2⟩ := D1 ρ S0 Dd
            exact ⟨h', a1, k2 ρ ⟨S0.t, h'⟩ a2 K hK⟩
          clear hs H1 D1 V1 hsup hval hR H
          intro S1 hSt H hs
          clear hSt
          revert hs H
          generalize S1 = S
          intro H hs
          unfold appI at hs
          split at hs
          · rename_i e size bytes z hL hZ
            split at hs
            · rename_i n cs hsrc
              cases hb : (cs.all isingle && Nat.beq z.length size && Nat.blt 0 size) with
              | false => rw [hb] at hs; cases hs
              | true =>
                rw [hb] at hs
                simp only [cond_true] at hs
                simp only [Bool.and_eq_true, Nat.beq_eq, Nat.blt_eq] at hb
                have hcs := srcI_sup hsrc H
                have pre : ∀ ρ (S0 : St), DS ρ S (look S0.t) S0.h → ∀ K : St → Prop, (match S0.ev s with
                    | .sc (.slice none 0 0) => appNilK n bytes size (cs.map (IV.den ρ)) o.dst K S0
                    | .os b off len sz => appOsK n bytes size b off len sz (cs.map (IV.den ρ)) o.dst K S0
                    | _ => False) → stepK P N o K S0 := fun ρ S0 D K hh => by
                  refine hbad S0 (hbad' S0) _ ?_
                  rw [hop]
                  obtain ⟨s1, s2⟩ := srcI_ok hsrc D.hd
                  have ex : S0.ev x = (S.ev x).den ρ := by rw [ev_look]; exact D.ev x
                  simp only [effK, hN, cond_true, appK, hL, hZ, ex, s1]
                  exact ⟨trivial, s2, by rw [all_single_den]; exact hb.1.1, hb.1.2, hb.2, hh⟩
                have es : ∀ ρ (S0 : St), DS ρ S (look S0.t) S0.h → S0.ev s = (S.ev s).den ρ := fun ρ S0 D => by rw [ev_look]; exact D.ev s
                split at hs
                · rename_i hsv
                  cases hb2 : (Nat.ble (n * bytes) 140737488355328 && Nat.ble n 140737488355328) with
                  | false => rw [hb2] at hs; cases hs
                  | true =>
                    rw [hb2] at hs
                    simp only [cond_true] at hs
                    simp only [Bool.and_eq_true, Nat.ble_eq] at hb2
                    split at hs
                    · cases hs
                      refine ⟨(H.put o.dst (.sc _ _)).mono plus_l, fun ρ S0 D K hK => pre ρ S0 D _ ?_⟩
                      rw [es ρ S0 D, hsv]
                      exact ⟨hb2.1, hb2.2, fun _ => TK_put (hK ρ _ _ (.refl _ _ _) (D.put o.dst (.sc (.slice none 0 0)))), fun h0 => absurd h0 (by omega)⟩
                    · rename_i m
                      cases hs
                      refine ⟨new_sup hz H hcs (os_sup _ _ _ _) (fun x hx => hx), fun ρ S0 D K hK => pre ρ S0 D _ ?_⟩
                      rw [es ρ S0 D, hsv]
                      refine ⟨hb2.1, hb2.2, fun h0 => absurd h0 (by omega), fun _ b hfr => TK_put (hK (upn ρ nm b) _ _ (upn_agr hz) (D.new (sz := sz) H hnm hcs hfr (by rw [newB_cells]) o.dst ?_))⟩
                      simp only [IV.den, upn_same]
                · rename_i b off len sz' hsv
                  split at hs
                  · rename_i k hk
                    cases hb2 : (Nat.beq off 0 && Nat.beq sz' size && Nat.beq (len * sz') k.length && Nat.ble ((len + n) * bytes) 140737488355328 && Nat.ble (len + n) 140737488355328) with
                    | false => rw [hb2] at hs; cases hs
                    | true =>
                      rw [hb2] at hs
                      cases hs
                      simp only [Bool.and_eq_true, Nat.beq_eq, Nat.ble_eq] at hb2
                      have hkc : ∀ c ∈ k ++ cs, SupV I c := fun c hm => (List.mem_append.1 hm).elim (H.h _ (ifind_mem hk) c) (hcs c)
                      refine ⟨new_sup hz H hkc (os_sup _ _ _ _) (fun x hx => (mem_idel.1 hx).1), fun ρ S0 D K hK => pre ρ S0 D _ ?_⟩
                      rw [es ρ S0 D, hsv]
                      obtain ⟨kk, hf, hcc⟩ := D.hd.get hk
                      simp only [IV.den, appOsK, hf]
                      refine ⟨hb2.1.1.1.1, hb2.1.1.1.2, by rw [Blk.lenI hcc]; exact hb2.1.1.2, hb2.1.2, hb2.2, fun b' hfr => TK_put (hK (upn ρ nm b') _ _ (upn_agr hz) ?_)⟩
                      have Hd := D.hd.del hk
                      have Hn := Hd.new (I := I) (nm := nm) (b := b') (k := appB kk (cs.map (IV.den ρ))) (cs := k ++ cs) (fun x hx => H.n x (mem_idel.1 hx).1) (fun x hx => H.h x (mem_idel.1 hx).1) hnm hkc hfr
                        (by rw [appB_cells, hcc, List.map_append])
                      have Hr : HD (upn ρ nm b') (iins (idel S.h b) nm (k ++ cs)) (S0.h.ren (ρ b) b' (appB kk (cs.map (IV.den ρ)))) := Hn.perm (by
                        by_cases hbb : b' = ρ b
                        · subst hbb
                          unfold Nd
                          rw [ren_self, map_upd]
                          exact D.hd.nd
                        · refine nodup_ren D.hd.nd (fun hm => ?_)
                          obtain ⟨k', hk'⟩ := has_map.2 hm
                          refine not_has_of_fresh hfr ⟨k', ?_⟩
                          have := find_of_mem D.hd.nd hk'
                          rw [← find_del D.hd.nd hbb] at this
                          exact Heap.find_mem this) (mem_ren_iff D.hd.nd hf)
                      have e : ∀ n, I n → ρ n = upn ρ nm b' n := fun n hn => (upn_other (fun e => hnm (by rw [← e]; exact hn))).symm
                      have := DS.put (S := ⟨S.t, iins (idel S.h b) nm (k ++ cs)⟩) (T := look S0.t) ⟨fun i => by rw [D.t i]; exact H.t i _ _ e, Hr⟩ o.dst (.os nm 0 (len + n) sz')
                      simp only [IV.den, upn_same] at this
                      exact this
                  · cases hs
                · cases hs
            · cases hs
          · cases hs
        | false =>
          rw [hN] at hs
          simp only [cond_false] at hs
          cases hI2 : (ik P xt).isSome with
          | false => rw [hI2] at hs; cases hs
          | true =>
            rw [hI2] at hs
            simp only [cond_true] at hs
            unfold appZI at hs
            split at hs
            · rename_i e size bytes z n hL hZ hsv hxv
              cases hb : (Nat.beq z.length size && Nat.blt 0 size && Nat.blt 0 n && Nat.ble (n * bytes) 140737488355328 && Nat.ble n 140737488355328) with
              | false => rw [hb] at hs; cases hs
              | true =>
                rw [hb] at hs
                cases hs
                simp only [Bool.and_eq_true, Nat.beq_eq, Nat.blt_eq, Nat.ble_eq] at hb
                have hcs : ∀ c ∈ izfill z n, SupV I c := by
                  intro c hm
                  have : ∀ n, c ∈ izfill z n → SupV I c := by
                    intro n
                    induction n with
                    | zero => intro h; cases h
                    | succ n ih =>
                      intro h
                      rcases List.mem_append.1 h with h | h
                      · obtain ⟨x, _, rfl⟩ := List.mem_map.1 h; exact .sc _ _
                      · exact ih h
                  exact this n hm
                refine ⟨new_sup hz H hcs (os_sup _ _ _ _) (fun x hx => hx), fun ρ S0 D K hK => stepE_of (hbad S0 (hbad' S0) _ ?_), fun e => by rw [hop] at e; cases e⟩
                rw [hop]
                have ex : S0.ev x = (S.ev x).den ρ := by rw [ev_look]; exact D.ev x
                have es : S0.ev s = (S.ev s).den ρ := by rw [ev_look]; exact D.ev s
                simp only [effK, hN, cond_false, hI2, cond_true, appZK, hL, hZ, ex, es, hsv, hxv, IV.den]
                have h5 : ((n * bytes : Nat) : Int) ≤ 140737488355328 := by have := hb.1.2; omega
                rw [Int.natCast_mul] at h5
                have h6 : n ≤ 140737488355328 := hb.2
                have h7 : 0 < n := hb.1.1.2
                refine ⟨hb.1.1.1.1, hb.1.1.1.2, Int.natCast_pos.2 h7, h5, by show (n : Int) ≤ _; omega, fun b hfr => TK_put (hK (upn ρ nm b) _ _ (upn_agr hz) (D.new (sz := sz) H hnm hcs hfr (by rw [zeros_cells, izfill_den]; rfl) o.dst ?_))⟩
                simp only [IV.den, upn_same]
                rfl
            · cases hs
      · cases hs

end
end Go.Ab
