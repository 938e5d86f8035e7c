/-
  The interpreter is sound: regions whose order is drawn, code, calls; a law without arguments. No claim stands here.
-/
import Derived.Test.YtcclhfgbkohidaaGreatEC
import Derived.RowKit
import Derived.OpenShut
import Derived.WideKeyArgs
import Derived.ProofKit
import Derived.JoinedCond
import Derived.ChangeSame
set_option linter.all false
namespace Go.Proofs.YtcclhfgbkohidaaGreat
namespace E
section
variable {P : Program} {dp nt : Nat}
/-! # what an operation looks at -/
noncomputable def evv (P : Program) (dp : Nat) (F : T Value) (x : Operand) : Value := (ev P dp x).f F id
theorem ev_evv {β : Type} (x : Operand) (F : T Value) (c : Value → β) : (ev P dp x).f F c = c (evv P dp F x) := by
  unfold evv
  cases x with
  | tmp t =>
    by_cases h : t < 4 ^ dp
    · simp [ev, h, Nat.blt_eq]
    · simp [ev, h, Nat.blt_eq]
  | const v => by_cases h : flat v = true <;> simp [ev, h]
  | global g => rfl
  | func f => rfl
/-- they agree on some operands. -/
def Agr (P : Program) (dp : Nat) (F G : T Value) (l : List Operand) : Prop := ∀ x ∈ l, evv P dp F x = evv P dp G x
variable {F G : T Value}
theorem evs_local {β : Type} : ∀ (l : List Operand) (c : List Value → β), Agr P dp F G l → evs P dp l F c = evs P dp l G c
  | [], c, _ => rfl
  | x :: l, c, h => by
    simp only [evs, ev_evv]
    rw [h x List.mem_cons_self]
    exact evs_local l _ fun y hy => h y (List.mem_cons_of_mem _ hy)
theorem fillQ_local (place : Nat → Option (Nat × Nat)) : ∀ (ps : List (Nat × Operand)) (l : List Value) (c : List Value → QV), (∀ p ∈ ps, evv P dp F p.2 = evv P dp G p.2) → (fillQ P dp place ps).f F l c = (fillQ P dp place ps).f G l c
  | [], l, c, _ => rfl
  | (i, x) :: r, l, c, h => by
    unfold fillQ
    split
    · simp only [ev_evv]
      rw [h (i, x) List.mem_cons_self]
      simp only [cellsF_eq, lenF_eq, bi_eq, layF_eq]
      split
      · split
        · split
          · exact fillQ_local place r _ c fun p hp => h p (List.mem_cons_of_mem _ hp)
          · rfl
        · rfl
      · rfl
    · rfl
theorem bound_local (b : Option Operand) (z : Nat) (c : Nat → QV) (h : Agr P dp F G b.toList) : (bound P dp b).f F z c = (bound P dp b).f G z c := by
  cases b with
  | none => rfl
  | some x =>
    simp only [bound, ev_evv]
    rw [h x (by simp)]
theorem quiet_local {op : Op} (m : M) (h : Agr P dp F G op.operands.toList) : (quiet P dp op).f F m = (quiet P dp op).f G m := by
  unfold quiet
  split
  all_goals simp only [Op.operands, Call.operands, Agr, Array.toList_append, List.mem_append, List.mem_cons, List.not_mem_nil, or_false, forall_eq_or_imp, forall_eq, or_imp, forall_and, Option.toList_toArray] at h
  case h_4 t ps =>
    unfold buildQ
    split
    · rfl
    · have hp : ∀ p ∈ ps.toList, evv P dp F p.2 = evv P dp G p.2 := fun p hp => h p.2 (by simp; exact ⟨p.1, by simpa using hp⟩)
      split
      · simp only [bi_eq]
        split
        · exact fillQ_local _ _ _ _ hp
        · rfl
      · simp only [bi_eq]
        split
        · exact fillQ_local _ _ _ _ hp
        · rfl
      · rfl
  all_goals try (simp only [ev_evv]; simp only [h]; done)
  case h_11 f a b =>
    have h1 : ∀ (β : Type) (c : List Value → β), evs P dp a.toList F c = evs P dp a.toList G c := fun β c => evs_local _ _ h.1
    have h2 : ∀ (β : Type) (c : List Value → β), evs P dp b.toList F c = evs P dp b.toList G c := fun β c => evs_local _ _ h.2
    simp only [h1, h2]
  case h_12 t x lo hi =>
    have h1 : ∀ (z : Nat) (c : Nat → QV), (bound P dp lo).f F z c = (bound P dp lo).f G z c := fun z c => bound_local _ _ _ h.1.1.2
    have h2 : ∀ (z : Nat) (c : Nat → QV), (bound P dp hi).f F z c = (bound P dp hi).f G z c := fun z c => bound_local _ _ _ h.1.2
    have h0 := h.1.1.1
    unfold sliceQ
    repeat' first | rfl | (simp only [ev_evv, h0, h1, h2]; done) | (rw [bi_eq]; split) | split
  all_goals (try unfold convQ); (try unfold ixQ); (try unfold indexQ); (try unfold lenQ)
  all_goals repeat' first | rfl | (simp only [ev_evv, h]; done) | (rw [bi_eq]; split) | split
theorem loud_local {op : Op} (m : M) (h : Agr P dp F G op.operands.toList) : (loud P dp op).f F m = (loud P dp op).f G m := by
  unfold loud
  split
  all_goals simp only [Op.operands, Call.operands, Agr, Array.toList_append, List.mem_append, List.mem_cons, List.not_mem_nil, or_false, false_or, forall_eq_or_imp, forall_eq, or_imp, forall_and, Option.toList_toArray] at h
  case h_3 t n ps =>
    have hp : ∀ p ∈ ps.toList, evv P dp F p.2 = evv P dp G p.2 := fun p hp => h p.2 (by simp; exact ⟨p.1, by simpa using hp⟩)
    split
    · rename_i e _
      unfold bslQ
      split
      · rfl
      · rw [bi_eq]
        split
        · rfl
        · have h1 : ∀ (pl : Nat → Option (Nat × Nat)) (l : List Value) (c : List Value → QV), (fillQ P dp pl ps.toList).f F l c = (fillQ P dp pl ps.toList).f G l c := fun pl l c => fillQ_local pl _ _ _ hp
          simp only [h1]
    · rfl
  all_goals repeat' first | rfl | (simp only [ev_evv, h]; done) | (rw [bi_eq]; split) | split
theorem recR_local {op : Op} (rec : Rec) (m : M) (h : Agr P dp F G op.operands.toList) : (recR P dp op).f rec F m = (recR P dp op).f rec G m := by
  unfold recR
  split
  · rename_i c
    unfold calleeOf
    split
    · rename_i g hg
      have hc : Agr P dp F G c.args.toList := fun x hx => h x (by simp [Op.operands, Call.operands]; exact .inr (by simpa using hx))
      have hgg : evv P dp F g = evv P dp G g := h g (by simp [Op.operands, Call.operands, hg])
      have h1 : ∀ (β : Type) (k : List Value → β), evs P dp c.args.toList F k = evs P dp c.args.toList G k := fun β k => evs_local _ _ hc
      simp only [ev_evv, hgg, h1]
    · rfl
  · rename_i x
    have hx : evv P dp F x = evv P dp G x := h x (by simp [Op.operands])
    simp only [ev_evv, hx]
  · rfl
theorem noM_local {op : Op} (h : noM op = true) (m m' : M) : (quiet P dp op).f F m = (quiet P dp op).f F m' := by
  unfold noM at h
  split at h
  all_goals try cases h
  all_goals unfold quiet
  all_goals simp only
  all_goals (try unfold buildQ); (try unfold ixQ); (try unfold indexQ)
  all_goals repeat' first | rfl | contradiction | (rw [bi_eq]; split) | split
/-! # what an operation comes to -/
noncomputable def effB (P : Program) (dp : Nat) (rec : Rec) (o : Oper) (F : T Value) (m : M) : Option (Value × M) :=
  if isQ P o.op = true then (match (quiet P dp o.op).f F m with | .val v => some (v, m) | .no _ => none)
  else if isR o.op = true then (match (recR P dp o.op).f rec F m with | .ret v m' => some (v, m') | _ => none)
  else (match (loud P dp o.op).f F m with | .ret v m' => some (v, m') | _ => none)
noncomputable def gVal (P : Program) (dp : Nat) (ops : List Oper) (F : T Value) (g : Nat × Bool) : Value := match (ops[g.1]?).bind (·.dst) with
  | some d => evv P dp F (.tmp d)
  | none => unk
noncomputable def eff (P : Program) (dp : Nat) (rec : Rec) (ops : List Oper) (o : Oper) (F : T Value) (m : M) : Option (Value × M) := match o.guard with
  | none => effB P dp rec o F m
  | some g => match gVal P dp ops F g with
    | .bool t => if t = g.2 then effB P dp rec o F m else some (undef, m)
    | .tuple _ => some (undef, m)
    | _ => none
def pF (dp nt : Nat) (d : Option Tmp) (v : Value) (F : T Value) : T Value := match d with
  | none => F
  | some d => if d < nt then T.put dp d v F else F
theorem putD_pF {β : Type} (d : Option Tmp) (v : Value) (c : T Value → β) : (putD dp nt d).f v F c = c (pF dp nt d v F) := by
  cases d with
  | none => rfl
  | some d => by_cases h : d < nt <;> simp [putD, pF, Nat.blt_eq, h]
variable {rec : Rec} {ops : List Oper} {o : Oper} {m m' : M}
theorem oper_some {v : Value} (h : effB P dp rec o F m = some (v, m')) (k : Go1) : (oper P dp nt o).f rec k F m = k (pF dp nt o.dst v F) m' := by
  unfold effB at h
  unfold oper
  rw [bi_eq]
  split at h
  · rename_i hq
    rw [if_pos hq]
    simp only [onQV_eq, putD_pF]
    split at h
    · rename_i v' hv
      cases h
      simp only [hv]
    · cases h
  · rename_i hq
    rw [if_neg hq, bi_eq]
    split at h
    · rename_i hr
      rw [if_pos hr]
      simp only [onCO_eq, putD_pF]
      split at h
      · rename_i v' m1 hv
        cases h
        simp only [hv]
      · cases h
    · rename_i hr
      rw [if_neg hr]
      simp only [onCO_eq, putD_pF]
      split at h
      · rename_i v' m1 hv
        cases h
        simp only [hv]
      · cases h
theorem oper_none (h : effB P dp rec o F m = none) (k : Go1) (F' : T Value) (m' : M) : (oper P dp nt o).f rec k F m ≠ .go .norm F' m' := by
  unfold effB at h
  unfold oper
  rw [bi_eq]
  split at h
  · rename_i hq
    rw [if_pos hq]
    simp only [onQV_eq, putD_pF]
    split at h
    · cases h
    · rename_i hv; simp [hv]
  · rename_i hq
    rw [if_neg hq, bi_eq]
    split at h
    · rename_i hr
      rw [if_pos hr]
      simp only [onCO_eq, putD_pF]
      cases hc : (recR P dp o.op).f rec F m with
      | ret v m1 => simp [hc] at h
      | pan v m1 => simp
      | no w => simp
    · rename_i hr
      rw [if_neg hr]
      simp only [onCO_eq, putD_pF]
      cases hc : (loud P dp o.op).f F m with
      | ret v m1 => simp [hc] at h
      | pan v m1 => simp
      | no w => simp
theorem guardOf_gVal (g : Nat × Bool) (c : Value → Out) : (guardOf P dp ops g).f F c = c (gVal P dp ops F g) := by
  unfold guardOf gVal
  cases hd : (ops[g.1]?).bind (·.dst) with
  | none => rfl
  | some d => exact ev_evv _ _ _
theorem one1_some {v : Value} (h : eff P dp rec ops o F m = some (v, m')) (k : Go1) : (one1 P dp nt ops o).f rec k F m = k (pF dp nt o.dst v F) m' := by
  unfold eff at h
  unfold one1
  split at h
  · rename_i hg
    simp only [hg]
    exact oper_some h k
  · rename_i g hg
    simp only [hg, guardOf_gVal, onGd_eq, putD_pF]
    split at h
    · rename_i t ht
      simp only [ht]
      split at h
      · rename_i htg; rw [if_pos htg]; exact oper_some h k
      · rename_i htg; rw [if_neg htg]; cases h; rfl
    · rename_i l ht
      simp only [ht]
      cases h; rfl
    · cases h
theorem one1_none (h : eff P dp rec ops o F m = none) (k : Go1) (F' : T Value) (m' : M) : (one1 P dp nt ops o).f rec k F m ≠ .go .norm F' m' := by
  unfold eff at h
  unfold one1
  split at h
  · rename_i hg
    simp only [hg]
    exact oper_none h k F' m'
  · rename_i g hg
    simp only [hg, guardOf_gVal, onGd_eq, putD_pF]
    cases hv : gVal P dp ops F g with
    | bool t =>
      simp only [hv] at h
      split at h
      · rename_i htg; simp only; rw [if_pos htg]; exact oper_none h k F' m'
      · cases h
    | tuple l => simp [hv] at h
    | _ => simp
/-- what it looks at. -/
theorem tmpsOf_mem : ∀ (l : List Operand) (t : Nat), .tmp t ∈ l → t ∈ tmpsOf l
  | [], t, h => by cases h
  | x :: l, t, h => by
    rcases List.mem_cons.1 h with rfl | h2
    · exact List.mem_cons_self
    · have h3 := tmpsOf_mem l t h2
      cases x with
      | tmp s => exact List.mem_cons_of_mem _ h3
      | _ => exact h3
theorem evv_tmp (t : Nat) : evv P dp F (.tmp t) = if t < 4 ^ dp then T.look undef dp t F else unk := by
  unfold evv
  by_cases h : t < 4 ^ dp <;> simp [ev, h, Nat.blt_eq]
theorem agr_of (h : ∀ t ∈ readsOf ops o, t < 4 ^ dp → T.look undef dp t F = T.look undef dp t G) : Agr P dp F G o.op.operands.toList ∧ ∀ g, o.guard = some g → gVal P dp ops F g = gVal P dp ops G g := by
  have tm : ∀ t ∈ readsOf ops o, evv P dp F (.tmp t) = evv P dp G (.tmp t) := fun t ht => by
    rw [evv_tmp, evv_tmp]
    split
    · rename_i hlt; exact h t ht hlt
    · rfl
  have sub : ∀ t ∈ tmpsOf o.op.operands.toList, t ∈ readsOf ops o := fun t ht => by
    unfold readsOf
    split
    · exact ht
    · split
      · exact List.mem_cons_of_mem _ ht
      · exact ht
  refine ⟨fun x hx => ?_, fun g hg => ?_⟩
  · cases x with
    | tmp t => exact tm t (sub t (tmpsOf_mem _ t hx))
    | const v => unfold evv; by_cases h : flat v = true <;> simp [ev, h]
    | global g => rfl
    | func f => rfl
  · unfold gVal
    split
    · rename_i d hd
      refine tm d ?_
      unfold readsOf
      rw [hg]
      simp only [hd]
      exact List.mem_cons_self
    · rfl
theorem eff_local (h : ∀ t ∈ readsOf ops o, t < 4 ^ dp → T.look undef dp t F = T.look undef dp t G) (m : M) : eff P dp rec ops o F m = eff P dp rec ops o G m := by
  obtain ⟨h1, h2⟩ := agr_of (P := P) h
  have hb : effB P dp rec o F m = effB P dp rec o G m := by
    unfold effB
    rw [quiet_local m h1, loud_local m h1, recR_local rec m h1]
  unfold eff
  split
  · exact hb
  · rename_i g hg
    rw [h2 g hg, hb]
end
end E
end Go.Proofs.YtcclhfgbkohidaaGreat
namespace Go.Proofs.YtcclhfgbkohidaaGreat
namespace E
section
variable {P : Program} {μ : Mu} {dp nt : Nat} {F : T Value} {a : Act} {w w' : World} {m m' : M}
/-! # one step -/
theorem gVal_eq {ops : Array Oper} {g : Nat × Bool} {v0 : Value} (h : ∀ c : Value → Out, (guardOf P dp ops.toList g).f F c = c v0) : gVal P dp ops.toList F g = v0 := by
  have h1 := h fun v => .go (.pan v) F (.mk 0 .e)
  rw [guardOf_gVal] at h1
  cases h1
  rfl
theorem step_sound {D : List Deferred} {ro : Option Nat} {rec : Rec} (hrec : RecSound P rec) {ops : Array Oper} {o : Oper} (h : St D P dp nt μ m w F m a w μ) {v : Value} (e : eff P dp rec ops.toList o F m = some (v, m')) {K : Act → World → Prop} {Q : Exit → Act → World → Prop}
    (hK : ∀ a1 w1 μ1, St D P dp nt μ m w (pF dp nt o.dst v F) m' a1 w1 μ1 → a1 = a.put o.dst (a1.tmps.getD (o.dst.getD 0) Go.undef) ∨ True → K a1 w1) :
    if Region.wanted o (yielded ops a.tmps) then o.wpIn (FW ro) 0 P a w K Q else K (a.put o.dst Go.undef) w := by
  have run : ∀ e : effB P dp rec o F m = some (v, m'), o.wpIn (FW ro) 0 P a w K Q := fun e =>
    oper_sound (k := fun F m => .go .norm F m) (x := .norm) (F' := pF dp nt o.dst v F) (m' := m') hrec (oper_some e _) h (fun F1 m1 a1 w1 μ1 h1 e1 => by cases e1; exact hK a1 w1 μ1 h1 (.inr trivial)) (fun e a' w' hx => absurd rfl hx)
  have skip : ∀ e : some (undef, m) = some (v, m'), K (a.put o.dst Go.undef) w := fun e => by
    cases e
    obtain ⟨F1, h1, h2⟩ := undef_put h o.dst fun F => F
    rw [putD_pF] at h1
    subst h1
    exact hK _ w μ h2 (.inr trivial)
  unfold eff at e
  split at e
  · rename_i hg
    have hw : Region.wanted o (yielded ops a.tmps) = true := by simp only [Region.wanted, hg]
    rw [if_pos hw]
    exact run e
  · rename_i g hg
    obtain ⟨v0, hv, hw⟩ := guard_sound (ops := ops) (g := g) h
    obtain ⟨hw1, hw2⟩ := hw o hg
    rw [gVal_eq hv] at e
    split at e
    · rename_i t
      have := hw1 t rfl
      split at e
      · rename_i htw
        rw [if_pos (by rw [this, htw]; simp)]
        exact run e
      · rename_i htw
        rw [if_neg (by rw [this]; simpa using htw)]
        exact skip e
    · rename_i l
      rw [if_neg (by rw [hw2 l rfl]; simp)]
      exact skip e
    · cases e
/-! # an object that is made -/
def AF (P : Program) (μ : Mu) (w : World) (s : Sem Next) (m : M) (v : Value) (m' : M) : Prop :=
  ∃ (ob : O) (f : Nat → Value), m.next < hdN ∧ v = f m.next ∧ m' = m.push ob ∧ ∃ V w' x, s.run P w = .ok (.value V) w' ∧ x.b = w.heap.size ∧ w'.heap.size = w.heap.size + 1 ∧ (∀ b, b < w.heap.size → w'.heap[b]? = w.heap[b]?) ∧
    (w'.os = w.os ∧ w'.output = w.output) ∧ (rootO P ob = true → x.o = 0) ∧ ∀ (id : Nat) (μ' : Mu), Ext μ μ' → μ' id = some x → OR μ' w' id ob ∧ R μ' (f id) V
theorem AF.cells {s : Sem Next} {t : TypeId} {l : List Value} {vs : Array Value} {V : Value} {f : Nat → Value} (hn : m.next < hdN) (run : s.run P w = .ok (.value V) (w.alloc (.cells vs t (0, 0)))) (hl : l.length ≤ vs.size) (h1 : ones l)
    (hr : ∀ (j : Nat) (v : Value), l[j]? = some v → ∃ u, vs[j]? = some u ∧ R μ v u) (hV : ∀ (id : Nat) (μ' : Mu), μ' id = some ⟨w.heap.size, 0, vs.size⟩ → R μ' (f id) V) : AF P μ w s m (f m.next) (m.push (.cells false t l)) := by
  refine ⟨.cells false t l, f, hn, rfl, rfl, V, _, ⟨w.heap.size, 0, vs.size⟩, run, rfl, size_alloc _ _, fun b hb => by rw [heap_alloc, if_neg (by omega)], ⟨rfl, rfl⟩, fun _ => rfl, fun id μ' he hid => ⟨?_, hV id μ' hid⟩⟩
  refine ⟨⟨w.heap.size, 0, vs.size⟩, vs, (0, 0), hid, by rw [heap_alloc, if_pos rfl], .inl rfl, rfl, by simpa using hl, h1, fun j v e => ?_⟩
  obtain ⟨u, a1, a2⟩ := hr j v e
  exact ⟨u, by simpa using a1, a2.mono he⟩
theorem buildSlice_fact (hF : RF μ dp nt F a.tmps) (hG : Gl P μ) {t : TypeId} {n : Nat} {ps : Array (Nat × Operand)} {v : Value} (e : (loud P dp (.buildSlice t n ps)).f F m = .ret v m') (dst : Option Tmp) (ty : TypeId) (pos : String) (after : Array Edge) (guard : Option (Nat × Bool)) :
    AF P μ w (execOp a.eval ⟨dst, .buildSlice t n ps, ty, pos, after, guard⟩) m v m' := by
  unfold loud at e
  simp only at e
  split at e
  · rename_i el hel
    have hu : P.underlying t = some (.slice el) ∧ okT P el = true := by
      unfold elemT at hel
      split at hel
      · rename_i e' hu
        simp only [bi_eq] at hel
        split at hel
        · rename_i hok; cases hel; exact ⟨hu, hok⟩
        · cases hel
      · cases hel
    unfold bslQ at e
    split at e
    · cases e
    rename_i z hz
    obtain ⟨z1, z2, _, zz, z3, z4⟩ := zL_ok hz
    simp only [bi_eq, notB_eq] at e
    split at e
    · cases e
    rename_i hroom
    have hroom : n * szT P el ≤ 1048576 := by simpa [room] using hroom
    simp only [zeros_eq] at e
    split at e
    · rename_i v0 hv0
      obtain ⟨f1, f2⟩ := flat_rep (μ := μ) z1 n
      obtain ⟨l', L', g1, g2, g3, g4, g5⟩ := fill_sound hF hG ps.toList _ _ hv0 f1 f2
      cases g4
      simp only [onAgg_eq, natF_eq] at e
      obtain ⟨hn, rfl, rfl⟩ := new_ok e
      have hlen : l'.length = n * szT P el := by
        rw [g5, List.length_flatten]; simp [z2]
      have g2' : RL μ l' (⟨L'⟩ : Array Value).toList := g2
      refine AF.cells (f := slV n (szT P el)) (V := .slice (some ⟨w.heap.size, 0, none⟩) n n) (vs := ⟨L'⟩) hn ?_ (by rw [g2'.size]; exact Nat.le_refl _) g3 g2'.cell ?_
      · have h24 : ¬ (n * szT P el > 2 ^ 24) := by omega
        have hf2 : Instr.fill (fun i => some (i * szT P el, szT P el)) ⟨(List.replicate n z).flatten⟩ (ps.toList.map fun x => (x.1, a.eval x.2)) = some ⟨L'⟩ := g1
        have hps : (ps.map fun x => (x.1, a.eval x.2)).toList = ps.toList.map fun x => (x.1, a.eval x.2) := Array.toList_map
        by_cases h0 : n * szT P el = 0
        · have hcells : (Array.range (n * szT P el)).map (fun i => (#[] : Array Value)[i % (#[] : Array Value).size]!) = ⟨(List.replicate n z).flatten⟩ := by
            apply Array.ext'
            have : (List.replicate n z).flatten = [] := by
              apply List.length_eq_zero_iff.1
              rw [List.length_flatten]; simp [z2, h0]
            rw [this, h0]; simp
          simp only [execOp, Instr.buildSlice, Sem.run_bind, run_underlying hu.1, Result.andThen_ok, run_sizeOf (info_of_ok hu.2), h24, if_false, h0, if_true, Sem.run_pure, pure_bind]
          rw [h0] at hcells
          rw [hcells, hps, hf2]
          simp [newRow]
        · have hcells : (Array.range (n * szT P el)).map (fun i => zz.cells[i % zz.cells.size]!) = ⟨(List.replicate n z).flatten⟩ := by
            apply Array.ext'
            have hsz : zz.cells.size = szT P el := by rw [← z2, ← z3]; simp
            have hpos : 0 < szT P el := Nat.pos_of_ne_zero fun h => h0 (by rw [h]; simp)
            rw [zeros_list zz.cells (szT P el) n hsz hpos, z3]
          simp only [execOp, Instr.buildSlice, Sem.run_bind, run_underlying hu.1, Result.andThen_ok, run_sizeOf (info_of_ok hu.2), h24, if_false, h0, z4, Sem.run_pure]
          rw [hcells, hps, hf2]
          simp [newRow]
      · intro id μ' hid
        refine .sl id 0 n (szT P el) ⟨w.heap.size, 0, L'.length⟩ n hid (Nat.le_refl _) ?_
        have := g2.1
        simp; omega
    · cases e
  · cases e

theorem A_fact (hF : RF μ dp nt F a.tmps) (hG : Gl P μ) {op : Op} (hA : isA op = true) {v : Value} (e : (loud P dp op).f F m = .ret v m') (dst : Option Tmp) (ty : TypeId) (pos : String) (after : Array Edge) (guard : Option (Nat × Bool)) :
    AF P μ w (execOp a.eval ⟨dst, op, ty, pos, after, guard⟩) m v m' := by
  have e0 := e
  unfold isA at hA
  split at hA
  · rename_i t
    unfold loud at e
    simp only at e
    split at e
    · rename_i z hz
      obtain ⟨z1, z2, _, zz, z3, z4⟩ := zL_ok hz
      simp only [appF_eq, List.append_nil] at e
      obtain ⟨hn, rfl, rfl⟩ := new_ok e
      refine AF.cells (f := ptV) (V := .pointer (some ⟨w.heap.size, 0, none⟩)) (vs := zz.cells) hn ?_ (by rw [← z3]; simp) (scs_ones z1) (RL.cell (by rw [z3]; exact scs_self z1)) fun id μ' hid => .ptr id 0 ⟨w.heap.size, 0, zz.cells.size⟩ hid
      simp [execOp, Instr.alloc, z4, newVar, newRow]
    · cases e
  · rename_i t x
    unfold loud at e
    obtain ⟨u, hu, hr⟩ := ev_sound hF hG x
    simp only [hu, cellsF_eq] at e
    split at e
    · rename_i hok
      obtain ⟨hc, ho⟩ := hr.cells hok
      obtain ⟨hn, rfl, rfl⟩ := new_ok e
      refine AF.cells (f := ptV) (V := .pointer (some ⟨w.heap.size, 0, none⟩)) (vs := (a.eval x).cells) hn ?_ (by rw [hc.size]; exact Nat.le_refl _) ho hc.cell fun id μ' hid => .ptr id 0 ⟨w.heap.size, 0, (a.eval x).cells.size⟩ hid
      simp [execOp, Instr.box, newVar, newRow]
    · cases e
  · exact buildSlice_fact hF hG e0 ..
  · rename_i t
    unfold loud at e
    simp only at e
    obtain ⟨hn, rfl, rfl⟩ := new_ok e
    refine ⟨.map [] 0, fun j => .map (some j), hn, rfl, rfl, .map (some w.heap.size), w.alloc (.map #[] 0), ⟨w.heap.size, 0, 0⟩, by simp [execOp, Instr.makeMap], rfl, size_alloc _ _, fun b hb => by rw [heap_alloc, if_neg (by omega)], ⟨rfl, rfl⟩, fun hr => (by cases hr), fun id μ' he hid => ⟨?_, .map _ _ hid⟩⟩
    exact ⟨_, #[], hid, by rw [heap_alloc, if_pos rfl], rfl, by simp⟩
  · cases hA
/-- whatever is made, something is put behind. -/
theorem A_push {op : Op} (hA : isA op = true) {v : Value} (e : (loud P dp op).f F m = .ret v m') : m.next < hdN ∧ ∃ ob, m' = m.push ob := by
  unfold isA at hA
  split at hA
  · unfold loud at e
    simp only at e
    split at e
    · simp only [appF_eq, List.append_nil] at e
      obtain ⟨hn, _, rfl⟩ := new_ok e
      exact ⟨hn, _, rfl⟩
    · cases e
  · unfold loud at e
    simp only [ev_evv, cellsF_eq] at e
    split at e
    · obtain ⟨hn, _, rfl⟩ := new_ok e
      exact ⟨hn, _, rfl⟩
    · cases e
  · unfold loud bslQ at e
    simp only at e
    split at e
    · split at e
      · cases e
      · rw [bi_eq] at e
        split at e
        · cases e
        · simp only [zeros_eq] at e
          split at e
          · simp only [onAgg_eq, natF_eq] at e
            split at e
            · obtain ⟨hn, _, rfl⟩ := new_ok e
              exact ⟨hn, _, rfl⟩
            · cases e
          · cases e
    · cases e
  · unfold loud at e
    simp only at e
    obtain ⟨hn, _, rfl⟩ := new_ok e
    exact ⟨hn, _, rfl⟩
  · cases hA
/-! # objects that are known of, but not there yet -/
/-- memory with objects behind it that stand for nothing. -/
inductive Pu : M → M → Prop
  | refl (x : M) : Pu x x
  | step (x y : M) (o : O) (h : Pu x y) (hn : y.next < hdN) : Pu x (y.push o)
theorem Pu.trans {a b c : M} (h : Pu a b) (k : Pu b c) : Pu a c := by
  induction k with
  | refl => exact h
  | step y o h' hn ih => exact .step _ _ _ ih hn
theorem Hp.ghost (h : Hp P μ m w) (hn : m.next < hdN) (o : O) : Hp P μ (m.push o) w ∧ Gn μ m w μ (m.push o) w := by
  have at_ : ∀ i x, μ i = some x → (m.push o).at i = m.at i := fun i x e => by
    have := h.idlt e
    exact M.at_push_other m i o (Nat.lt_trans hn hd_room) (h.idroom e) (by omega)
  refine ⟨⟨fun i x e => by rw [at_ i x e]; exact h.obj i x e, fun i hi => h.fresh i (by simp at hi; omega), by simp; omega, fun i x e hr => by rw [at_ i x e] at hr; exact h.root i x e hr, h.lt, fun i j x y hne hi hj ei ej => ?_⟩,
    ⟨.refl μ, by simp, Nat.le_refl _, fun _ _ _ => rfl, fun i x hw e => ?_, ⟨rfl, rfl⟩, fun _ _ => rfl⟩⟩
  · rw [at_ i x ei] at hi
    rw [at_ j y ej] at hj
    exact h.inj i j x y hne hi hj ei ej
  · rw [at_ i x e] at hw
    exact .inl ⟨i, x, hw, e, rfl⟩
theorem Hp.ghosts (h : Hp P μ m w) (hp : Pu m m') : Hp P μ m' w ∧ Gn μ m w μ m' w := by
  induction hp with
  | refl => exact ⟨h, .refl _ _ _⟩
  | step m' o _ hn ih =>
    obtain ⟨h1, g1⟩ := ih
    obtain ⟨h2, g2⟩ := h1.ghost hn o
    exact ⟨h2, g1.trans g2⟩
/-- an object that is known of is made. -/
theorem Hp.late (h : Hp P μ m w) {i : Nat} {x : Lc} {ob : O} (hi : i < m.next) (hno : μ i = none) (hob : m.at i = ob) (hx : x.b = w.heap.size) (hsz : w'.heap.size = w.heap.size + 1) (heap : ∀ b, b < w.heap.size → w'.heap[b]? = w.heap[b]?)
    (ho : OR (μ.set i x) w' i ob) (out : w'.os = w.os ∧ w'.output = w.output) (hroot : rootO P ob = true → x.o = 0) :
    Hp P (μ.set i x) m w' ∧ Ext μ (μ.set i x) ∧ (∀ q, q ≠ i → (μ.set i x) q = μ q) ∧ w.heap.size ≤ w'.heap.size ∧ (∀ b, b < w.heap.size → w'.heap[b]? = w.heap[b]?) := by
  have hext := Mu.set_ext x hno
  refine ⟨⟨fun q y e => ?_, fun q hq => by rw [Mu.set_other μ x (by omega)]; exact h.fresh q hq, h.room, fun q y e hr => ?_, fun q y e => ?_, fun p q y z hne hp hq ep eq => ?_⟩, hext, fun q hq => Mu.set_other μ x hq, by omega, heap⟩
  · by_cases hq : q = i
    · subst hq; rw [hob]; exact ho
    · rw [Mu.set_other μ x hq] at e
      exact (h.obj q y e).mono hext fun z ez => by
        rw [e] at ez; cases ez
        exact heap y.b (h.lt q y e)
  · by_cases hq : q = i
    · subst hq
      rw [Mu.set_same] at e; cases e
      rw [hob] at hr
      exact hroot hr
    · rw [Mu.set_other μ x hq] at e
      exact h.root q y e hr
  · by_cases hq : q = i
    · subst hq
      rw [Mu.set_same] at e; cases e
      omega
    · rw [Mu.set_other μ x hq] at e
      have := h.lt q y e
      omega
  · by_cases hpi : p = i
    · subst hpi
      rw [Mu.set_same] at ep; cases ep
      rw [Mu.set_other μ x (fun e => hne e.symm)] at eq
      have := h.lt q z eq
      omega
    · rw [Mu.set_other μ x hpi] at ep
      by_cases hqi : q = i
      · subst hqi
        rw [Mu.set_same] at eq; cases eq
        have := h.lt p y ep
        omega
      · rw [Mu.set_other μ x hqi] at eq
        exact h.inj p q y z hne hp hq ep eq
end
end E
end Go.Proofs.YtcclhfgbkohidaaGreat
namespace Go.Proofs.YtcclhfgbkohidaaGreat
namespace E
section
variable {P : Program} {dp nt : Nat} {rec : Rec} {ops : List Oper} {is : List Info}
/-! # the run that is made -/
def Tr (P : Program) (dp nt : Nat) (rec : Rec) (ops : List Oper) (is : List Info) : List Nat → T Value → M → T Value → M → List M → List M → List (Nat × Nat × O) → Prop
  | [], F, m, Fn, mn, as, bs, ob => Fn = F ∧ mn = m ∧ as = [] ∧ bs = [m] ∧ ob = []
  | i :: l, F, m, Fn, mn, as, bs, ob => ∃ o v m1 as' bs' ob', ops[i]? = some o ∧ eff P dp rec ops o F m = some (v, m1) ∧ Tr P dp nt rec ops is l (pF dp nt o.dst v F) m1 Fn mn as' bs' ob' ∧
      ((at_ is i).k = 3 → as = m1 :: as' ∧ bs = m :: bs') ∧ ((at_ is i).k ≠ 3 → as = as' ∧ bs = bs') ∧ ((at_ is i).k = 2 ∧ m.next ≠ m1.next → ob = (i, m.next, m1.at m.next) :: ob') ∧ (¬ ((at_ is i).k = 2 ∧ m.next ≠ m1.next) → ob = ob')
theorem runD_tr : ∀ (l : List Nat) (F : T Value) (m : M) (k : T Value → M → List M → List M → List (Nat × Nat × O) → Out) (F' : T Value) (m' : M), (runD P dp nt ops is l).f rec F m k = .go .norm F' m' →
    ∃ Fn mn as bs ob, Tr P dp nt rec ops is l F m Fn mn as bs ob ∧ k Fn mn as bs ob = .go .norm F' m'
  | [], F, m, k, F', m', e => ⟨F, m, [], [m], [], ⟨rfl, rfl, rfl, rfl, rfl⟩, e⟩
  | i :: l, F, m, k, F', m', e => by
    unfold runD at e
    split at e
    · cases e
    · rename_i o ho
      cases he : eff P dp rec ops o F m with
      | none =>
        exfalso
        rw [bi_eq] at e
        split at e
        · exact one1_none he _ _ _ e
        · rw [bi_eq] at e
          split at e
          · exact one1_none he _ _ _ e
          · exact one1_none he _ _ _ e
      | some y =>
        obtain ⟨v, m1⟩ := y
        rw [bi_eq] at e
        split at e
        · rename_i h3
          have h3 : (at_ is i).k = 3 := Nat.eq_of_beq_eq_true h3
          simp only [one1_some he] at e
          obtain ⟨Fn, mn, as, bs, ob, h1, h2⟩ := runD_tr l _ _ _ _ _ e
          exact ⟨Fn, mn, m1 :: as, m :: bs, ob, ⟨o, v, m1, as, bs, ob, ho, he, h1, fun _ => ⟨rfl, rfl⟩, fun h => absurd h3 h, fun h => (by omega), fun _ => rfl⟩, h2⟩
        · rename_i h3
          have h3 : (at_ is i).k ≠ 3 := fun h => h3 (by rw [h]; rfl)
          rw [bi_eq] at e
          split at e
          · rename_i h4
            have h4 : (at_ is i).k = 2 := Nat.eq_of_beq_eq_true h4
            simp only [one1_some he, bi_eq] at e
            split at e
            · rename_i hn
              have hn : m.next = m1.next := Nat.eq_of_beq_eq_true hn
              obtain ⟨Fn, mn, as, bs, ob, h1, h2⟩ := runD_tr l _ _ _ _ _ e
              exact ⟨Fn, mn, as, bs, ob, ⟨o, v, m1, as, bs, ob, ho, he, h1, fun h => absurd h h3, fun _ => ⟨rfl, rfl⟩, fun h => absurd hn h.2, fun _ => rfl⟩, h2⟩
            · rename_i hn
              have hn : m.next ≠ m1.next := fun h => hn (by rw [h]; exact Nat.beq_refl _)
              simp only [M.get_eq, natF_eq] at e
              obtain ⟨Fn, mn, as, bs, ob, h1, h2⟩ := runD_tr l _ _ _ _ _ e
              exact ⟨Fn, mn, as, bs, (i, m.next, m1.at m.next) :: ob, ⟨o, v, m1, as, bs, ob, ho, he, h1, fun h => absurd h h3, fun _ => ⟨rfl, rfl⟩, fun _ => rfl, fun h => absurd ⟨h4, hn⟩ h⟩, h2⟩
          · rename_i h4
            have h4 : (at_ is i).k ≠ 2 := fun h => h4 (by rw [h]; rfl)
            simp only [one1_some he] at e
            obtain ⟨Fn, mn, as, bs, ob, h1, h2⟩ := runD_tr l _ _ _ _ _ e
            exact ⟨Fn, mn, as, bs, ob, ⟨o, v, m1, as, bs, ob, ho, he, h1, fun h => absurd h h3, fun _ => ⟨rfl, rfl⟩, fun h => absurd h.1 h4, fun _ => rfl⟩, h2⟩
/-! ## kinds -/
theorem at_eq (his : is = ops.map (infoOf P ops)) {i : Nat} {o : Oper} (ho : ops[i]? = some o) : at_ is i = infoOf P ops o := by
  subst his
  simp [at_, ho]
theorem kind_lt2 {op : Op} (h : kindOf P op < 2) : isQ P op = true := by
  unfold kindOf at h
  rw [bi_eq] at h
  split at h
  · assumption
  · rw [bi_eq] at h
    split at h <;> omega
theorem kind_0 {op : Op} (h : kindOf P op = 0) : noM op = true := by
  unfold kindOf at h
  rw [bi_eq] at h
  split at h
  · rw [bi_eq] at h
    split at h
    · assumption
    · omega
  · rw [bi_eq] at h
    split at h <;> omega
theorem kind_2 {op : Op} (h : kindOf P op = 2) : isA op = true ∧ isQ P op ≠ true ∧ isR op ≠ true := by
  unfold kindOf at h
  rw [bi_eq] at h
  split at h
  · rw [bi_eq] at h
    split at h <;> omega
  · rename_i hq
    rw [bi_eq] at h
    split at h
    · rename_i hA
      refine ⟨hA, hq, fun hr => ?_⟩
      cases op <;> first | (cases hr; done) | (cases hA; done)
    · omega
theorem eff_quiet {o : Oper} {F : T Value} {m m1 : M} {v : Value} (hq : isQ P o.op = true) (e : eff P dp rec ops o F m = some (v, m1)) : m1 = m := by
  have hb : ∀ {v m1}, effB P dp rec o F m = some (v, m1) → m1 = m := by
    intro v m1 e
    unfold effB at e
    rw [if_pos hq] at e
    split at e
    · cases e; rfl
    · cases e
  unfold eff at e
  split at e
  · exact hb e
  · split at e
    · split at e
      · exact hb e
      · cases e; rfl
    · cases e; rfl
    · cases e
theorem effB_noM {o : Oper} {F : T Value} {m m1 : M} {v : Value} (hq : isQ P o.op = true) (hn : noM o.op = true) (e : effB P dp rec o F m = some (v, m1)) (m2 : M) : effB P dp rec o F m2 = some (v, m2) := by
  unfold effB at e ⊢
  rw [if_pos hq] at e ⊢
  rw [noM_local hn m2 m]
  cases hv : (quiet P dp o.op).f F m with
  | val u => rw [hv] at e; cases e; rfl
  | no k => rw [hv] at e; cases e
theorem eff_noM {o : Oper} {F : T Value} {m m1 : M} {v : Value} (hq : isQ P o.op = true) (hn : noM o.op = true) (e : eff P dp rec ops o F m = some (v, m1)) (m2 : M) : eff P dp rec ops o F m2 = some (v, m2) := by
  unfold eff at e ⊢
  cases hg : o.guard with
  | none => rw [hg] at e; exact effB_noM hq hn e m2
  | some g =>
    rw [hg] at e
    simp only at e ⊢
    cases hv : gVal P dp ops F g with
    | bool t =>
      rw [hv] at e
      simp only at e ⊢
      split at e
      · rename_i htg; rw [if_pos htg]; exact effB_noM hq hn e m2
      · rename_i htg; rw [if_neg htg]; cases e; rfl
    | tuple l => rw [hv] at e; cases e; rfl
    | _ => rw [hv] at e; cases e
theorem beq_no {a b : Nat} (h : a ≠ b) : Nat.beq a b = false := by
  cases h1 : Nat.beq a b with
  | false => rfl
  | true => exact absurd (Nat.eq_of_beq_eq_true h1) h
theorem eff_A {o : Oper} {F : T Value} {m m1 : M} {v : Value} (hA : isA o.op = true) (hq : isQ P o.op ≠ true) (hr : isR o.op ≠ true) (e : eff P dp rec ops o F m = some (v, m1)) : m1 = m ∨ (m.next < hdN ∧ ∃ ob, m1 = m.push ob) := by
  have hb : effB P dp rec o F m = some (v, m1) → (m.next < hdN ∧ ∃ ob, m1 = m.push ob) := by
    intro e
    unfold effB at e
    rw [if_neg hq, if_neg hr] at e
    split at e
    · rename_i h; cases e; exact A_push hA h
    · cases e
  unfold eff at e
  split at e
  · exact .inr (hb e)
  · split at e
    · split at e
      · exact .inr (hb e)
      · cases e; exact .inl rfl
    · cases e; exact .inl rfl
    · cases e
theorem Tr.pu1 {i : Nat} (his : is = ops.map (infoOf P ops)) {o : Oper} (ho : ops[i]? = some o) (hk : (at_ is i).k ≠ 3) {F : T Value} {m m1 : M} {v : Value} (e : eff P dp rec ops o F m = some (v, m1)) : Pu m m1 := by
  rw [at_eq his ho] at hk
  have hk : kindOf P o.op ≠ 3 := hk
  by_cases h2 : kindOf P o.op = 2
  · obtain ⟨h3, h4, h5⟩ := kind_2 h2
    rcases eff_A h3 h4 h5 e with rfl | ⟨hn, ob, rfl⟩
    · exact .refl _
    · exact .step _ _ _ (.refl _) hn
  · have : kindOf P o.op < 2 := by
      have : kindOf P o.op ≤ 3 := by unfold kindOf; simp only [bi_eq]; split <;> split <;> omega
      omega
    rw [eff_quiet (kind_lt2 this) e]
    exact .refl _
/-! ## what is known of the run -/
theorem Tr.mem (his : is = ops.map (infoOf P ops)) : ∀ (l : List Nat) (F : T Value) (m : M) (Fn : T Value) (mn : M) (as bs : List M) (ob : List (Nat × Nat × O)), Tr P dp nt rec ops is l F m Fn mn as bs ob →
    as.length = (louds is l).length ∧ bs.length = (louds is l).length + 1 ∧ bs[(louds is l).length]? = some mn ∧ (∃ m2, bs[0]? = some m2 ∧ Pu m m2) ∧ ∀ d ma, as[d]? = some ma → ∃ mb, bs[d + 1]? = some mb ∧ Pu ma mb
  | [], F, m, Fn, mn, as, bs, ob, h => by
    obtain ⟨rfl, rfl, rfl, rfl, rfl⟩ := h
    exact ⟨rfl, rfl, rfl, ⟨_, rfl, .refl _⟩, fun d ma h => by simp at h⟩
  | i :: l, F, m, Fn, mn, as, bs, ob, h => by
    obtain ⟨o, v, m1, as', bs', ob', ho, he, ht, h3, hn3, _, _⟩ := h
    obtain ⟨t1, t2, t3, ⟨m2, t4, t5⟩, t6⟩ := Tr.mem his l _ _ _ _ _ _ _ ht
    by_cases hk : (at_ is i).k = 3
    · obtain ⟨rfl, rfl⟩ := h3 hk
      have hl : (louds is (i :: l)).length = (louds is l).length + 1 := by simp [louds, hk]
      rw [hl]
      refine ⟨by simp [t1], by simp [t2], by simpa using t3, ⟨m, rfl, .refl _⟩, fun d ma h => ?_⟩
      cases d with
      | zero => simp at h; subst h; exact ⟨m2, by simpa using t4, t5⟩
      | succ d => obtain ⟨mb, q1, q2⟩ := t6 d ma (by simpa using h); exact ⟨mb, by simpa using q1, q2⟩
    · obtain ⟨rfl, rfl⟩ := hn3 hk
      have hl : (louds is (i :: l)).length = (louds is l).length := by
        have : (Nat.beq (at_ is i).k 3) = false := beq_no hk
        simp [louds, this]
      rw [hl]
      exact ⟨t1, t2, t3, ⟨m2, t4, (Tr.pu1 his ho hk he).trans t5⟩, t6⟩
def Wrt (is : List Info) (nt i t : Nat) : Prop := (at_ is i).dst = some t ∧ t < nt
theorem pF_look (hle : nt ≤ 4 ^ dp) {d : Option Tmp} {v : Value} {F : T Value} {t : Nat} (ht : t < 4 ^ dp) (h : ¬ (d = some t ∧ t < nt)) : T.look undef dp t (pF dp nt d v F) = T.look undef dp t F := by
  cases d with
  | none => rfl
  | some d =>
    unfold pF
    simp only
    split
    · rename_i hd
      have hd4 := Nat.lt_of_lt_of_le hd hle
      exact T.look_put_other _ _ _ _ _ _ ht hd4 fun e => h ⟨by rw [e], by rw [e]; exact hd⟩
    · rfl
theorem pF_same {d : Nat} {v : Value} {F : T Value} (hd : d < nt) : T.look undef dp d (pF dp nt (some d) v F) = v := by
  unfold pF
  simp only
  rw [if_pos hd]
  exact T.look_put_same _ _ _ _ _
theorem Tr.look (hle : nt ≤ 4 ^ dp) (his : is = ops.map (infoOf P ops)) {t : Nat} (ht : t < 4 ^ dp) : ∀ (l : List Nat) (F : T Value) (m : M) (Fn : T Value) (mn : M) (as bs : List M) (ob : List (Nat × Nat × O)), Tr P dp nt rec ops is l F m Fn mn as bs ob →
    (∀ x ∈ l, ¬ Wrt is nt x t) → T.look undef dp t Fn = T.look undef dp t F
  | [], F, m, Fn, mn, as, bs, ob, h, _ => by rw [h.1]
  | i :: l, F, m, Fn, mn, as, bs, ob, h, hw => by
    obtain ⟨o, v, m1, as', bs', ob', ho, he, htr, _⟩ := h
    rw [Tr.look hle his ht l _ _ _ _ _ _ _ htr fun x hx => hw x (List.mem_cons_of_mem _ hx)]
    refine pF_look hle ht fun h => hw i List.mem_cons_self ?_
    unfold Wrt
    rw [at_eq his ho]
    exact h
/-- one of the run's operations. -/
theorem Tr.split (hle : nt ≤ 4 ^ dp) (his : is = ops.map (infoOf P ops)) {i : Nat} {s : List Nat} : ∀ (p : List Nat) (F : T Value) (m : M) (Fn : T Value) (mn : M) (as bs : List M) (ob : List (Nat × Nat × O)), Tr P dp nt rec ops is (p ++ i :: s) F m Fn mn as bs ob →
    ∃ o Fi mi v m1, ops[i]? = some o ∧ eff P dp rec ops o Fi mi = some (v, m1) ∧ (∀ t, t < 4 ^ dp → (∀ x ∈ p, ¬ Wrt is nt x t) → T.look undef dp t Fi = T.look undef dp t F) ∧
      (∀ t, t < 4 ^ dp → (∀ x ∈ i :: s, ¬ Wrt is nt x t) → T.look undef dp t Fn = T.look undef dp t Fi) ∧
      (∀ d, o.dst = some d → d < nt → (∀ x ∈ s, ¬ Wrt is nt x d) → T.look undef dp d Fn = v) ∧
      ((at_ is i).k = 3 → bs[(louds is p).length]? = some mi ∧ as[(louds is p).length]? = some m1) ∧ ((at_ is i).k = 2 → mi.next ≠ m1.next → (i, mi.next, m1.at mi.next) ∈ ob)
  | [], F, m, Fn, mn, as, bs, ob, h => by
    obtain ⟨o, v, m1, as', bs', ob', ho, he, htr, h3, _, h4, _⟩ := h
    refine ⟨o, F, m, v, m1, ho, he, fun _ _ _ => rfl, fun t ht hw => ?_, fun d hd hdn hw => ?_, fun hk => ?_, fun hk hn => ?_⟩
    · exact Tr.look hle his ht (i :: s) F m Fn mn as bs ob ⟨o, v, m1, as', bs', ob', ho, he, htr, h3, by assumption, h4, by assumption⟩ hw
    · rw [Tr.look hle his (Nat.lt_of_lt_of_le hdn hle) s _ _ _ _ _ _ _ htr hw, hd]
      exact pF_same hdn
    · obtain ⟨rfl, rfl⟩ := h3 hk
      exact ⟨rfl, rfl⟩
    · rw [h4 ⟨hk, hn⟩]; exact List.mem_cons_self
  | x :: p, F, m, Fn, mn, as, bs, ob, h => by
    obtain ⟨o, v, m1, as', bs', ob', ho, he, htr, h3, hn3, h4, hn4⟩ := h
    obtain ⟨o2, Fi, mi, v2, m2, a1, a2, a3, a4, a5, a6, a7⟩ := Tr.split hle his p _ _ _ _ _ _ _ htr
    refine ⟨o2, Fi, mi, v2, m2, a1, a2, fun t ht hw => ?_, a4, a5, fun hk => ?_, fun hk hn => ?_⟩
    · rw [a3 t ht fun y hy => hw y (List.mem_cons_of_mem _ hy)]
      refine pF_look hle ht fun h => hw x List.mem_cons_self ?_
      unfold Wrt
      rw [at_eq his ho]
      exact h
    · obtain ⟨b1, b2⟩ := a6 hk
      by_cases hx : (at_ is x).k = 3
      · obtain ⟨rfl, rfl⟩ := h3 hx
        have hl : (louds is (x :: p)).length = (louds is p).length + 1 := by simp [louds, hx]
        rw [hl]
        exact ⟨by simpa using b1, by simpa using b2⟩
      · obtain ⟨rfl, rfl⟩ := hn3 hx
        have hl : (louds is (x :: p)).length = (louds is p).length := by
          have : (Nat.beq (at_ is x).k 3) = false := beq_no hx
          simp [louds, this]
        rw [hl]
        exact ⟨b1, b2⟩
    · have := a7 hk hn
      by_cases hx : (at_ is x).k = 2 ∧ m.next ≠ m1.next
      · rw [h4 hx]; exact List.mem_cons_of_mem _ this
      · rw [hn4 hx]; exact this
end
end E
end Go.Proofs.YtcclhfgbkohidaaGreat
namespace Go.Proofs.YtcclhfgbkohidaaGreat
namespace E
section
variable {P : Program} {dp nt : Nat} {rec : Rec} {ops : List Oper} {is : List Info} {befs : List Nat}
/-! # what was checked -/
theorem inL_iff {n : Nat} : ∀ {l : List Nat}, inL n l = true ↔ n ∈ l
  | [] => by simp [inL]
  | x :: l => by
    unfold inL
    rw [bi_eq]
    by_cases h : x = n
    · subst h; simp
    · rw [beq_no h]; simp only [Bool.false_eq_true, if_false, inL_iff, List.mem_cons]
      exact ⟨.inr, fun h1 => h1.resolve_left fun e => h e.symm⟩
theorem inD_iff {d : Option Nat} {l : List Nat} : inD d l = true ↔ ∃ t, d = some t ∧ t ∈ l := by
  cases d with
  | none => simp [inD]
  | some d => simp [inD, inL_iff]
theorem pairOk_ok {x y : Nat} (h : pairOk befs is x y = true) : x ≠ y ∧ (∀ t, (at_ is x).dst = some t → (at_ is y).dst ≠ some t) ∧ (∀ t, (at_ is y).dst = some t → t ∈ (at_ is x).rd → bef befs y x = true ∧ (at_ is x).k ≠ 1) ∧
    (bef befs y x = true ∨ ((∀ t, (at_ is x).dst = some t → t ∉ (at_ is y).rd) ∧ ¬ ((at_ is x).k = 3 ∧ 2 ≤ (at_ is y).k))) := by
  unfold pairOk at h
  simp only [andB_eq, orB_eq, notB_eq, Bool.and_eq_true, Bool.or_eq_true, Bool.not_eq_true'] at h
  obtain ⟨h1, h2, h3, h4⟩ := h
  refine ⟨fun e => ?_, fun t hx hy => ?_, fun t hy ht => ?_, h4.imp id fun h4 => ?_⟩
  · subst e; simp at h1
  · rw [hx, hy] at h2; simp [eqD] at h2
  · rcases h3 with h3 | ⟨h3, h3'⟩
    · have : inD (at_ is y).dst (at_ is x).rd = true := inD_iff.2 ⟨t, hy, ht⟩
      rw [this] at h3; cases h3
    · exact ⟨h3, fun e => by rw [e] at h3'; cases h3'⟩
  · rw [Bool.or_eq_false_iff] at h4
    refine ⟨fun t hx ht => ?_, fun hk => ?_⟩
    · have : inD (at_ is x).dst (at_ is y).rd = true := inD_iff.2 ⟨t, hx, ht⟩
      rw [this] at h4; cases h4.1
    · have : (Nat.beq (at_ is x).k 3 && Nat.ble 2 (at_ is y).k) = true := by simp [Nat.ble_eq, hk]
      rw [this] at h4; cases h4.2
theorem ordOk_ok {n : Nat} : ∀ {l : List Nat}, ordOk befs is n l = true → (∀ x ∈ l, x < n ∧ (∀ t, (at_ is x).dst = some t → t ∈ (at_ is x).rd → (at_ is x).k ≠ 1)) ∧ l.Pairwise fun x y => pairOk befs is x y = true
  | [], _ => ⟨by simp, .nil⟩
  | x :: l, h => by
    unfold ordOk at h
    simp only [andB_eq, notB_eq, Bool.and_eq_true, Bool.not_eq_true', List.all_eq_true] at h
    obtain ⟨h1, h2, h3, h4⟩ := h
    obtain ⟨i1, i2⟩ := ordOk_ok h4
    refine ⟨fun y hy => ?_, .cons h3 i2⟩
    rcases List.mem_cons.1 hy with rfl | hy
    · refine ⟨by simpa [Nat.blt_eq] using h1, fun t hd ht hk => ?_⟩
      have : (inD (at_ is y).dst (at_ is y).rd && Nat.beq (at_ is y).k 1) = true := by rw [inD_iff.2 ⟨t, hd, ht⟩, hk]; rfl
      rw [this] at h2; cases h2
    · exact i1 y hy
theorem edgesOk_sound : ∀ {l : List Oper} {j : Nat}, edgesOk j l = true → ∀ (k : Nat) o, l[k]? = some o → ∀ e ∈ o.after, Region.binds .any e = true → e.on < j + k
  | [], j, _, k, o, h => by simp at h
  | x :: l, j, h, k, o, ho => by
    simp only [edgesOk, andB_eq, orB_eq, notB_eq, Bool.and_eq_true, List.all_eq_true, Bool.or_eq_true, Bool.not_eq_true'] at h
    intro e he hb
    cases k with
    | zero =>
      simp only [List.getElem?_cons_zero, Option.some.injEq] at ho
      subst ho
      rcases h.1 e (by simpa using he) with h' | h'
      · rw [h'] at hb; cases hb
      · simpa [Nat.blt_eq] using h'
    | succ k =>
      have := edgesOk_sound h.2 k o (by simpa using ho) e he hb
      omega
/-- closed under what the edges put ahead. -/
def Down (ops : List Oper) (S : Nat → Prop) : Prop := ∀ (j : Nat) o, ops[j]? = some o → S j → ∀ e ∈ o.after, Region.binds .any e = true → S e.on
theorem befE_sound {acc : List Nat} {i : Nat} : ∀ {l : List Edge}, (befE acc l).testBit i = true → ∃ e ∈ l, Region.binds .any e = true ∧ (e.on = i ∨ ((acc[e.on]?).getD 0).testBit i = true)
  | [], h => by simp [befE] at h
  | e :: l, h => by
    simp only [befE, bi_eq] at h
    split at h
    · rename_i hb
      have h : (2 ^ e.on ||| (((acc[e.on]?).getD 0) ||| befE acc l)).testBit i = true := h
      simp only [Nat.testBit_or, Bool.or_eq_true] at h
      rcases h with h | h | h
      · refine ⟨e, List.mem_cons_self, hb, .inl ?_⟩
        rw [Nat.testBit_two_pow] at h
        simpa using h
      · exact ⟨e, List.mem_cons_self, hb, .inr h⟩
      · obtain ⟨e', h1, h2⟩ := befE_sound h
        exact ⟨e', List.mem_cons_of_mem _ h1, h2⟩
    · obtain ⟨e', h1, h2⟩ := befE_sound h
      exact ⟨e', List.mem_cons_of_mem _ h1, h2⟩
/-- what its edges put ahead is there. -/
def Fed (ops : List Oper) (S : Nat → Prop) (j : Nat) : Prop := ∀ o, ops[j]? = some o → ∀ e ∈ o.after, Region.binds .any e = true → S e.on
theorem befL_sound {all : List Oper} : ∀ (rest : List Oper) (acc : List Nat), (∀ k, rest[k]? = all[acc.length + k]?) → (∀ (j : Nat) m, acc[j]? = some m → ∀ i, m.testBit i = true → ∀ S, Down all S → Fed all S j → S i) →
    ∀ (j : Nat) m, (befL rest acc)[j]? = some m → ∀ i, m.testBit i = true → ∀ S, Down all S → Fed all S j → S i
  | [], acc, _, h, j, l, e => h j l e
  | o :: rest, acc, hr, h, j, m, e => by
    refine befL_sound rest _ (fun k => ?_) (fun j m e i hi S hS hj => ?_) j m e
    · have := hr (k + 1)
      simp only [List.length_append, List.length_singleton]
      rw [show acc.length + 1 + k = acc.length + (k + 1) by omega]
      simpa using this
    · by_cases hlt : j < acc.length
      · rw [List.getElem?_append_left hlt] at e
        exact h j m e i hi S hS hj
      · rw [List.getElem?_append_right (by omega)] at e
        have hj0 : j = acc.length := by
          have := (List.getElem?_eq_some_iff.1 e).1
          simp at this
          omega
        subst hj0
        simp only [Nat.sub_self, List.getElem?_cons_zero, Option.some.injEq] at e
        subst e
        obtain ⟨ed, hm, hb, hi⟩ := befE_sound hi
        have ho : all[acc.length]? = some o := by have := hr 0; simpa using this.symm
        have h1 := hj o ho ed (by simpa using hm) hb
        rcases hi with rfl | hi
        · exact h1
        · cases ha : acc[ed.on]? with
          | none => simp [ha] at hi
          | some m' =>
            simp only [ha, Option.getD_some] at hi
            exact h ed.on m' ha i hi S hS fun o ho => hS _ o ho h1
theorem bef_fed (hb : befs = befL ops []) {i j : Nat} (h : bef befs j i = true) : ∀ S, Down ops S → Fed ops S j → S i := by
  unfold bef at h
  subst hb
  cases hl : (befL ops [])[j]? with
  | none => simp [hl] at h
  | some l =>
    simp only [hl, Option.getD_some] at h
    exact fun S hS hSj => befL_sound ops [] (fun k => by simp) (fun j l e => by simp at e) j l hl i h S hS hSj
theorem bef_sound (hb : befs = befL ops []) {i j : Nat} (h : bef befs j i = true) : ∀ S, Down ops S → S j → S i := fun S hS hj => bef_fed hb h S hS fun o ho => hS j o ho hj
/-! ## values and objects that are the same -/
theorem allV_ok {f : Value → Value → Bool} (hf : ∀ a b, f a b = true → a = b) : ∀ {l m : List Value}, allV f l m = true → l = m
  | [], [], _ => rfl
  | a :: l, b :: m, h => by
    unfold allV at h
    rw [bi_eq] at h
    split at h
    · rename_i h1
      rw [hf a b h1, allV_ok hf h]
    · cases h
  | [], _ :: _, h => by cases h
  | _ :: _, [], h => by cases h
theorem veq_ok : ∀ {n : Nat} {a b : Value}, veq n a b = true → a = b
  | 0, a, b, h => by cases h
  | n + 1, a, b, h => by
    have ih : ∀ a b, veq n a b = true → a = b := fun a b h => veq_ok h
    unfold veq at h
    split at h
    all_goals try simp only [bi_eq, notB_eq] at h
    · rename_i a b; cases a <;> cases b <;> simp_all
    · split at h
      · rename_i hk
        rw [eqI_eq] at h
        rw [kN_inj (Nat.eq_of_beq_eq_true hk), eq_of_beq h]
      · cases h
    · rename_i a b
      rw [eqS_eq] at h
      have h1 := eq_of_beq h
      have h2 : a.data = b.data := Array.toList_inj.1 h1
      rw [show a = b from ByteArray.ext h2]
    · rfl
    · split at h
      · rename_i hk; rw [Nat.eq_of_beq_eq_true hk, Nat.eq_of_beq_eq_true h]
      · cases h
    · split at h
      · rename_i hk; rw [Nat.eq_of_beq_eq_true hk, Nat.eq_of_beq_eq_true h]
      · cases h
    · split at h
      · rename_i h1
        split at h
        · rename_i h2
          split at h
          · rename_i h3
            rw [Nat.eq_of_beq_eq_true h1, Nat.eq_of_beq_eq_true h2, Nat.eq_of_beq_eq_true h3, Nat.eq_of_beq_eq_true h]
          · cases h
        · cases h
      · cases h
    · rfl
    · rw [Nat.eq_of_beq_eq_true h]
    · rfl
    · rfl
    · split at h
      · rename_i h1
        split at h
        · rename_i h2
          rw [Nat.eq_of_beq_eq_true h1, allV_ok ih h2, allV_ok ih h]
        · cases h
      · cases h
    · split at h
      · rename_i h1
        rw [Nat.eq_of_beq_eq_true h1, ih _ _ h]
      · cases h
    · rw [allV_ok ih h]
    · rw [allV_ok ih h]
    · cases h
theorem oeq_ok {a b : O} (h : oeq a b = true) : a = b := by
  unfold oeq at h
  split at h
  · rename_i r t l r' t' l'
    simp only [bi_eq, notB_eq, orB_eq] at h
    split at h
    · rename_i h1
      split at h
      · rename_i h2
        have : r = r' := by cases r <;> cases r' <;> simp_all
        rw [this, Nat.eq_of_beq_eq_true h2, allV_ok (fun a b h => veq_ok h) h]
      · cases h
    · cases h
  · rw [Nat.eq_of_beq_eq_true h]
  · cases h
theorem sameA_ok {a : Nat} {x : O} : ∀ {l : List M}, sameA a x l = true → ∀ m ∈ l, a < m.next ∧ m.at a = x
  | [], _, m, hm => by cases hm
  | y :: l, h, m, hm => by
    unfold sameA at h
    simp only [bi_eq, M.get_eq] at h
    split at h
    · rename_i h1
      split at h
      · rename_i h2
        rcases List.mem_cons.1 hm with rfl | hm
        · exact ⟨by simpa [Nat.blt_eq] using h1, (oeq_ok h2).symm⟩
        · exact sameA_ok h m hm
      · cases h
    · cases h
theorem sameR_ok {o : Oper} {F : T Value} : ∀ {l : List M}, sameR P dp nt ops o F rec l = true → ∀ m ∈ l, ∃ v m1, eff P dp rec ops o F m = some (v, m1) ∧ ∀ d, o.dst = some d → d < nt → T.look undef dp d F = T.look undef dp d (pF dp nt o.dst v F)
  | [], _, m, hm => by cases hm
  | y :: l, h, m, hm => by
    unfold sameR at h
    rw [bi_eq] at h
    have both : ∀ c x : Bool, (if c = true then x else false) = true → c = true ∧ x = true := by intro c x; cases c <;> simp
    obtain ⟨h1, h2⟩ := both _ _ h
    rcases List.mem_cons.1 hm with rfl | hm
    · cases he : eff P dp rec ops o F m with
      | none =>
        exfalso
        cases hx : (one1 P dp nt ops o).f rec (fun F' m' => Out.go .norm F' m') F m with
        | no w => rw [hx] at h1; cases h1
        | go x F' m' =>
          rw [hx, onOut_eq] at h1
          cases x with
          | norm => exact one1_none he _ _ _ hx
          | _ => cases h1
      | some r =>
        obtain ⟨v, m1⟩ := r
        refine ⟨v, m1, rfl, fun d hd hdn => ?_⟩
        rw [one1_some he, onOut_eq] at h1
        simp only [onX_eq, hd, bi_eq, T.get_eq] at h1
        have hb : Nat.blt d nt = true := by simpa [Nat.blt_eq] using hdn
        rw [if_pos hb] at h1
        rw [hd]
        exact veq_ok h1
    · exact sameR_ok h2 m hm
theorem part_mem {α : Type} {lo hi j : Nat} {l : List α} {x : α} (h : l[j]? = some x) (h1 : lo ≤ j) (h2 : j ≤ hi) : x ∈ part_ lo hi l := by
  unfold part_
  refine List.mem_of_getElem? (i := j - lo) ?_
  rw [List.getElem?_take, if_pos (by omega), List.getElem?_drop, show lo + (j - lo) = j by omega, h]
theorem cnt_le {p : Nat → Bool} : ∀ {cs : List Nat} {j : Nat}, (∀ d c, cs[d]? = some c → p c = true → d < j) → cnt p cs ≤ j
  | [], j, _ => Nat.zero_le _
  | x :: l, j, h => by
    unfold cnt
    rw [bi_eq]
    have ih := cnt_le (p := p) (cs := l) (j := j - 1) fun d c hc hp => by have := h (d + 1) c (by simpa using hc) hp; omega
    split
    · rename_i hx
      have := h 0 x rfl hx
      omega
    · omega
theorem cnt_ge {p : Nat → Bool} : ∀ {cs : List Nat} {j : Nat}, j ≤ cs.length → (∀ d c, d < j → cs[d]? = some c → p c = true) → j ≤ cnt p cs
  | [], j, h, _ => h
  | x :: l, j, hl, h => by
    cases j with
    | zero => exact Nat.zero_le _
    | succ j =>
      unfold cnt
      rw [bi_eq, if_pos (h 0 x (by omega) rfl)]
      have := cnt_ge (p := p) (cs := l) (j := j) (by simpa using hl) fun d c hd hc => h (d + 1) c (by omega) (by simpa using hc)
      omega
theorem chkAll_ok {cs : List Nat} {F : T Value} {bs : List M} : ∀ {l : List Nat}, chkAll P dp nt ops befs is cs rec F bs l = true → ∀ i ∈ l, (at_ is i).k = 1 → ∀ o, ops[i]? = some o → sameR P dp nt ops o F rec (part_ (loOf befs cs i) (hiOf befs cs i) bs) = true
  | [], _, i, hi => by cases hi
  | x :: l, h, i, hi => by
    unfold chkAll at h
    rw [andB_eq, Bool.and_eq_true, bi_eq] at h
    rcases List.mem_cons.1 hi with rfl | hi
    · intro hk o ho
      have h1 := h.1
      rw [if_pos (by rw [hk]; rfl)] at h1
      simpa only [ho] using h1
    · exact chkAll_ok h.2 i hi
theorem chkObj_ok {cs : List Nat} {as bs : List M} : ∀ {l : List (Nat × Nat × O)}, chkObj befs cs as bs l = true → ∀ i a x, (i, a, x) ∈ l → ∃ m, as[loOf befs cs i]? = some m ∧ m.next ≤ a ∧ sameA a x (part_ (loOf befs cs i) (hiOf befs cs i) bs) = true
  | [], _, i, a, x, hi => by cases hi
  | (i', a', x') :: l, h, i, a, x, hi => by
    unfold chkObj at h
    rw [andB_eq, Bool.and_eq_true] at h
    rcases List.mem_cons.1 hi with he | hi
    · cases he
      have h1 := h.1
      split at h1
      · rename_i m hm
        rw [andB_eq, Bool.and_eq_true] at h1
        exact ⟨m, hm, Nat.le_of_ble_eq_true h1.1, h1.2⟩
      · cases h1
    · exact chkObj_ok h.2 i a x hi
theorem newIds_ok {n : Nat} : ∀ {l : List (Nat × Nat × O)}, newIds n l = true → (∀ r ∈ l, n ≤ r.2.1) ∧ ∀ r ∈ l, ∀ r' ∈ l, r ≠ r' → r.2.1 ≠ r'.2.1
  | [], _ => ⟨by simp, by simp⟩
  | (i, a, x) :: l, h => by
    unfold newIds at h
    simp only [andB_eq, notB_eq, Bool.and_eq_true, List.all_eq_true, Bool.not_eq_true'] at h
    obtain ⟨h1, h2, h3⟩ := h
    obtain ⟨i1, i2⟩ := newIds_ok h3
    refine ⟨fun r hr => ?_, fun r hr r' hr' hne => ?_⟩
    · rcases List.mem_cons.1 hr with rfl | hr
      · exact Nat.le_of_ble_eq_true h1
      · exact i1 r hr
    · have no : ∀ q ∈ l, a ≠ q.2.1 := fun q hq e => by have := h2 q hq; rw [e] at this; simp at this
      rcases List.mem_cons.1 hr with rfl | hr
      · rcases List.mem_cons.1 hr' with rfl | hr'
        · exact absurd rfl hne
        · exact no r' hr'
      · rcases List.mem_cons.1 hr' with rfl | hr'
        · exact fun e => no r hr e.symm
        · exact i2 r hr r' hr' hne
end
end E
end Go.Proofs.YtcclhfgbkohidaaGreat
namespace Go.Proofs.YtcclhfgbkohidaaGreat
namespace E
section
variable {D : List Deferred} {ro : Option Nat} {P : Program} {dp nt : Nat} {rec : Rec} {ops : Array Oper} {is : List Info} {befs ord : List Nat} {F0 Fn : T Value} {mr mn : M} {as bs : List M} {ob : List (Nat × Nat × O)} {μr : Mu} {wr : World}
/-- what is known of a region and of the run that was made. -/
structure Fac (P : Program) (dp nt : Nat) (rec : Rec) (ops : Array Oper) (is : List Info) (befs ord : List Nat) (F0 Fn : T Value) (mr mn : M) (as bs : List M) (ob : List (Nat × Nat × O)) : Prop where
  his : is = ops.toList.map (infoOf P ops.toList)
  hbef : befs = befL ops.toList []
  hle : nt ≤ 4 ^ dp
  hlt : ∀ x ∈ ord, x < ops.toList.length ∧ (∀ t, (at_ is x).dst = some t → t ∈ (at_ is x).rd → (at_ is x).k ≠ 1)
  hpw : ord.Pairwise fun x y => pairOk befs is x y = true
  hall : ∀ i, i < ops.size → i ∈ ord
  tr : Tr P dp nt rec ops.toList is ord F0 mr Fn mn as bs ob
  ids : newIds mr.next ob = true
  chkO : chkObj befs (louds is ord) (mr :: as) bs ob = true
  chkA : chkAll P dp nt ops.toList befs is (louds is ord) rec Fn bs ord = true
/-- how it stands when some have been done. -/
structure Inv (D : List Deferred) (P : Program) (dp nt : Nat) (is : List Info) (befs ord : List Nat) (F0 Fn : T Value) (mr : M) (bs : List M) (ob : List (Nat × Nat × O)) (μr : Mu) (wr : World) (n : Nat) (S : Nat → Prop) (j : Nat) (F : T Value) (m : M) (a : Act) (w : World) (μ : Mu) : Prop where
  inS : ∀ x, S x → x < n
  jcs : ∀ d c, (louds is ord)[d]? = some c → (S c ↔ d < j)
  mem : bs[j]? = some m
  lk1 : ∀ t, t < 4 ^ dp → ∀ i, S i → Wrt is nt i t → T.look undef dp t F = T.look undef dp t Fn
  lk0 : ∀ t, t < 4 ^ dp → (∀ i, S i → ¬ Wrt is nt i t) → T.look undef dp t F = T.look undef dp t F0
  gh : ∀ i b x, (i, b, x) ∈ ob → ¬ S i → loOf befs (louds is ord) i ≤ j → μ b = none
  hp : Hp P μ m w
  gn : Gn μr mr wr μ m w
  gl : Gl P μ
  rf : RF μ dp nt F a.tmps
  df : a.defers = D
theorem Gn.late {μ : Mu} {m : M} {w w' : World} (h : Gn μr mr wr μ m w) {i : Nat} {x : Lc} (hi : mr.next ≤ i) (hno : μ i = none) (hx : x.b = w.heap.size) (hsz : w'.heap.size = w.heap.size + 1) (heap : ∀ b, b < w.heap.size → w'.heap[b]? = w.heap[b]?)
    (out : w'.os = w.os ∧ w'.output = w.output) : Gn μr mr wr (μ.set i x) m w' where
  ext := h.ext.trans (Mu.set_ext x hno)
  next := h.next
  size := by have := h.size; omega
  rest b hb hn := by rw [heap b (Nat.lt_of_lt_of_le hb h.size)]; exact h.rest b hb hn
  own q y hw e := by
    by_cases hq : q = i
    · subst hq
      rw [Mu.set_same] at e; cases e
      have := h.size
      exact .inr (by omega)
    · rw [Mu.set_other μ x hq] at e
      exact h.own q y hw e
  out := ⟨out.1.trans h.out.1, out.2.trans h.out.2⟩
  old q hq := by rw [Mu.set_other μ x (by omega)]; exact h.old q hq
section
variable (fac : Fac P dp nt rec ops is befs ord F0 Fn mr mn as bs ob)
include fac
theorem Fac.dst_ne {p s : List Nat} {i : Nat} (hsp : ord = p ++ i :: s) {x t : Nat} (hx : x ∈ ord) (hne : x ≠ i) (h : (at_ is i).dst = some t) : (at_ is x).dst ≠ some t := by
  have hpw := fac.hpw
  rw [hsp] at hpw hx
  rcases List.mem_append.1 hx with hx | hx
  · intro hd
    exact (pairOk_ok ((List.pairwise_append.1 hpw).2.2 x hx i List.mem_cons_self)).2.1 t hd h
  · rcases List.mem_cons.1 hx with rfl | hx
    · exact absurd rfl hne
    · exact (pairOk_ok ((List.pairwise_cons.1 (List.pairwise_append.1 hpw).2.1).1 x hx)).2.1 t h
theorem Fac.louds_len : bs.length = (louds is ord).length + 1 := (Tr.mem fac.his _ _ _ _ _ _ _ _ fac.tr).2.1
variable {S : Nat → Prop} {j : Nat} {F : T Value} {m : M} {a : Act} {w : World} {μ : Mu}
theorem Fac.j_le (inv : Inv D P dp nt is befs ord F0 Fn mr bs ob μr wr ops.size S j F m a w μ) : j ≤ (louds is ord).length := by
  have h1 := (List.getElem?_eq_some_iff.1 inv.mem).1
  have := fac.louds_len
  omega
/-- an object that is not made yet: it lies untouched. -/
theorem Fac.obj (inv : Inv D P dp nt is befs ord F0 Fn mr bs ob μr wr ops.size S j F m a w μ) (hdown : Down ops.toList S) {i b : Nat} {x : O} (hm : (i, b, x) ∈ ob) (hnS : ¬ S i) (hlo : loOf befs (louds is ord) i ≤ j) : b < m.next ∧ m.at b = x := by
  obtain ⟨m0, _, _, h3⟩ := chkObj_ok fac.chkO i b x hm
  refine sameA_ok h3 m (part_mem inv.mem hlo (cnt_ge (fac.j_le inv) fun d c hd hc => ?_))
  rw [notB_eq]
  cases hb : bef befs c i with
  | false => rfl
  | true => exact absurd (bef_sound fac.hbef hb S hdown ((inv.jcs d c hc).2 hd)) hnS
theorem Fac.agree (inv : Inv D P dp nt is befs ord F0 Fn mr bs ob μr wr ops.size S j F m a w μ) {p s : List Nat} {i : Nat} (hsp : ord = p ++ i :: s) (hnS : ¬ S i) (hdn : ∀ y, bef befs i y = true → S y) (hup : ∀ y, bef befs y i = true → ¬ S y) {Fi : T Value}
    (a3 : ∀ t, t < 4 ^ dp → (∀ x ∈ p, ¬ Wrt is nt x t) → T.look undef dp t Fi = T.look undef dp t F0) (a4 : ∀ t, t < 4 ^ dp → (∀ x ∈ i :: s, ¬ Wrt is nt x t) → T.look undef dp t Fn = T.look undef dp t Fi) :
    ∀ t ∈ (at_ is i).rd, t < 4 ^ dp → T.look undef dp t Fi = T.look undef dp t F := by
  intro t ht ht4
  have hpw := fac.hpw
  rw [hsp] at hpw
  obtain ⟨_, hp2, hp3⟩ := List.pairwise_append.1 hpw
  have hp2' := (List.pairwise_cons.1 hp2).1
  by_cases hy : ∃ y, y ∈ p ∧ Wrt is nt y t
  · obtain ⟨y, hyp, hw⟩ := hy
    have hpair := pairOk_ok (hp3 y hyp i List.mem_cons_self)
    have hb : bef befs i y = true := hpair.2.2.2.resolve_right fun h => h.1 t hw.1 ht
    rw [inv.lk1 t ht4 y (hdn y hb) hw]
    refine (a4 t ht4 fun x hx hwx => ?_).symm
    exact (pairOk_ok (hp3 y hyp x hx)).2.1 t hw.1 hwx.1
  · have hyp : ∀ x ∈ p, ¬ Wrt is nt x t := fun x hx hw => hy ⟨x, hx, hw⟩
    rw [a3 t ht4 hyp]
    refine (inv.lk0 t ht4 fun y hS hw => ?_).symm
    have hyo : y ∈ ord := fac.hall y (inv.inS y hS)
    rw [hsp] at hyo
    rcases List.mem_append.1 hyo with h | h
    · exact hyp y h hw
    · rcases List.mem_cons.1 h with rfl | h
      · exact hnS hS
      · exact hup y ((pairOk_ok (hp2' y h)).2.2.1 t hw.1 ht).1 hS
/-- what is written. -/
theorem Fac.frame (inv : Inv D P dp nt is befs ord F0 Fn mr bs ob μr wr ops.size S j F m a w μ) {p s : List Nat} {i : Nat} (hsp : ord = p ++ i :: s) (hnS : ¬ S i) {o : Oper} (ho : ops.toList[i]? = some o) {v : Value}
    (a5 : ∀ d, o.dst = some d → d < nt → (∀ x ∈ s, ¬ Wrt is nt x d) → T.look undef dp d Fn = v) :
    (∀ t, t < 4 ^ dp → ∀ x, (S x ∨ x = i) → Wrt is nt x t → T.look undef dp t (pF dp nt o.dst v F) = T.look undef dp t Fn) ∧
    (∀ t, t < 4 ^ dp → (∀ x, (S x ∨ x = i) → ¬ Wrt is nt x t) → T.look undef dp t (pF dp nt o.dst v F) = T.look undef dp t F0) := by
  have hdst : (at_ is i).dst = o.dst := by rw [at_eq fac.his ho]; rfl
  refine ⟨fun t ht x hx hw => ?_, fun t ht hw => ?_⟩
  · rcases hx with hx | rfl
    · rw [pF_look fac.hle ht fun h => ?_]
      · exact inv.lk1 t ht x hx hw
      · exact fac.dst_ne hsp (fac.hall x (inv.inS x hx)) (fun e => hnS (e ▸ hx)) (by rw [hdst]; exact h.1) hw.1
    · have hd : o.dst = some t := by rw [← hdst]; exact hw.1
      rw [hd, pF_same hw.2]
      refine (a5 t hd hw.2 fun y hy hwy => ?_).symm
      have hpw := fac.hpw
      rw [hsp] at hpw
      exact (pairOk_ok ((List.pairwise_cons.1 (List.pairwise_append.1 hpw).2.1).1 y hy)).2.1 t hw.1 hwy.1
  · rw [pF_look fac.hle ht fun h => hw i (.inr rfl) ⟨by rw [hdst]; exact h.1, h.2⟩]
    exact inv.lk0 t ht fun x hx => hw x (.inl hx)
/-- one of them is done. -/
theorem Fac.step (hrec : RecSound P rec) (inv : Inv D P dp nt is befs ord F0 Fn mr bs ob μr wr ops.size S j F m a w μ) (hdown : Down ops.toList S) {i : Nat} {o : Oper} (ho : ops[i]? = some o) (hnS : ¬ S i) (hdn : ∀ y, bef befs i y = true → S y)
    {K : Act → World → Prop} {Q : Exit → Act → World → Prop} (hK : ∀ j1 F1 m1 a1 w1 μ1, Inv D P dp nt is befs ord F0 Fn mr bs ob μr wr ops.size (fun x => S x ∨ x = i) j1 F1 m1 a1 w1 μ1 → K a1 w1) :
    if Region.wanted o (yielded ops a.tmps) then o.wpIn (FW ro) 0 P a w K Q else K (a.put o.dst Go.undef) w := by
  have hi : i < ops.size := (Array.getElem?_eq_some_iff.1 ho).1
  have ho' : ops.toList[i]? = some o := by rw [Array.getElem?_toList]; exact ho
  have hup : ∀ y, bef befs y i = true → ¬ S y := fun y hb hS => hnS (bef_sound fac.hbef hb S hdown hS)
  obtain ⟨p, s, hsp⟩ := List.append_of_mem (fac.hall i hi)
  have htr := fac.tr
  rw [hsp] at htr
  obtain ⟨o2, Fi, mi, v, m1, b1, b2, b3, b4, b5, b6, b7⟩ := Tr.split fac.hle fac.his p _ _ _ _ _ _ _ htr
  rw [ho'] at b1; cases b1
  have hag := fac.agree inv hsp hnS hdn hup b3 b4
  have hrd : (at_ is i).rd = readsOf ops.toList o := by rw [at_eq fac.his ho']; rfl
  have hk : (at_ is i).k = kindOf P o.op := by rw [at_eq fac.his ho']; rfl
  have hag' : ∀ t ∈ readsOf ops.toList o, t < 4 ^ dp → T.look undef dp t Fi = T.look undef dp t F := by rw [← hrd]; exact hag
  have eF : eff P dp rec ops.toList o F mi = some (v, m1) := by rw [← eff_local hag' mi]; exact b2
  obtain ⟨f1, f0⟩ := fac.frame inv hsp hnS ho' b5
  have inS' : ∀ x, (S x ∨ x = i) → x < ops.size := fun x hx => hx.elim (inv.inS x) fun e => e ▸ hi
  have mem3 : ∀ d c, (louds is ord)[d]? = some c → (at_ is c).k = 3 := fun d c h => by
    have := List.mem_of_getElem? h
    simp only [louds, List.mem_filter] at this
    exact Nat.eq_of_beq_eq_true this.2
  have hk3 : kindOf P o.op ≤ 3 := by unfold kindOf; simp only [bi_eq]; split <;> split <;> omega
  have st0 : St D P dp nt μ m w F m a w μ := ⟨inv.hp, .refl _ _ _, inv.gl, inv.rf, inv.df⟩
  -- those that leave memory as it is
  have quietly : kindOf P o.op < 2 → eff P dp rec ops.toList o F m = some (v, m) → if Region.wanted o (yielded ops a.tmps) then o.wpIn (FW ro) 0 P a w K Q else K (a.put o.dst Go.undef) w := by
    intro hk2 e
    refine step_sound hrec st0 e fun a1 w1 μ1 h1 _ => hK j _ m a1 w1 μ1 ⟨inS', fun d c hc => ?_, inv.mem, f1, f0, fun i' b' x' hm' hS' hlo => ?_, h1.hp, inv.gn.trans h1.gn, h1.gl, h1.rf, h1.df⟩
    · rw [← inv.jcs d c hc]
      refine ⟨fun h => h.resolve_right fun e => ?_, .inl⟩
      have := mem3 d c hc
      rw [e, hk] at this
      omega
    · have hS2 : ¬ S i' := fun h => hS' (.inl h)
      rw [h1.gn.old b' (fac.obj inv hdown hm' hS2 hlo).1]
      exact inv.gh i' b' x' hm' hS2 hlo
  rcases (by omega : kindOf P o.op = 0 ∨ kindOf P o.op = 1 ∨ kindOf P o.op = 2 ∨ kindOf P o.op = 3) with h0 | h0 | h0 | h0
  · have hq := kind_lt2 (P := P) (op := o.op) (by omega)
    exact quietly (by omega) (eff_noM hq (kind_0 h0) eF m)
  · -- it reads memory
    have hq := kind_lt2 (P := P) (op := o.op) (by omega)
    have hio : i ∈ ord := fac.hall i hi
    have hlo : loOf befs (louds is ord) i ≤ j := cnt_le fun d c hc hb => (inv.jcs d c hc).1 (hdn c hb)
    have hhi : j ≤ hiOf befs (louds is ord) i := cnt_ge (fac.j_le inv) fun d c hd hc => by
      rw [notB_eq]
      cases hb : bef befs c i with
      | false => rfl
      | true => exact absurd ((inv.jcs d c hc).2 hd) (hup c hb)
    obtain ⟨v', m', c1, c2⟩ := sameR_ok (chkAll_ok fac.chkA i hio (by rw [hk]; exact h0) o ho') m (part_mem inv.mem hlo hhi)
    have hagn : ∀ t ∈ readsOf ops.toList o, t < 4 ^ dp → T.look undef dp t Fn = T.look undef dp t F := by
      intro t ht ht4
      rw [b4 t ht4 fun x hx hw => ?_, hag' t ht ht4]
      rw [← hrd] at ht
      rcases List.mem_cons.1 hx with rfl | hx
      · exact (fac.hlt x hio).2 t hw.1 ht (by rw [hk]; exact h0)
      · have hpw := fac.hpw
        rw [hsp] at hpw
        exact ((pairOk_ok ((List.pairwise_cons.1 (List.pairwise_append.1 hpw).2.1).1 x hx)).2.2.1 t hw.1 ht).2 (by rw [hk]; exact h0)
    have c3 : eff P dp rec ops.toList o F m = some (v', m') := by rw [← eff_local hagn m]; exact c1
    have c4 := eff_quiet hq c3
    subst c4
    have c5 : pF dp nt o.dst v' F = pF dp nt o.dst v F := by
      cases hd : o.dst with
      | none => rfl
      | some d =>
        unfold pF
        simp only
        by_cases hdn : d < nt
        · have h1 := c2 d hd hdn
          rw [hd, pF_same hdn] at h1
          have h2 := b5 d hd hdn fun y hy hwy => by
            have hpw := fac.hpw
            rw [hsp] at hpw
            exact (pairOk_ok ((List.pairwise_cons.1 (List.pairwise_append.1 hpw).2.1).1 y hy)).2.1 d (by rw [at_eq fac.his ho']; exact hd) hwy.1
          rw [← h1, h2]
        · rw [if_neg hdn, if_neg hdn]
    refine step_sound hrec st0 c3 fun a1 w1 μ1 h1 _ => hK j _ m' a1 w1 μ1 ⟨inS', fun d c hc => ?_, inv.mem, by rw [c5]; exact f1, by rw [c5]; exact f0, fun i' b' x' hm' hS' hlo => ?_, h1.hp, inv.gn.trans h1.gn, h1.gl, h1.rf, h1.df⟩
    · rw [← inv.jcs d c hc]
      refine ⟨fun h => h.resolve_right fun e => ?_, .inl⟩
      have := mem3 d c hc
      rw [e, hk] at this
      omega
    · have hS2 : ¬ S i' := fun h => hS' (.inl h)
      rw [h1.gn.old b' (fac.obj inv hdown hm' hS2 hlo).1]
      exact inv.gh i' b' x' hm' hS2 hlo
  · -- an object is made
    obtain ⟨hA, hq, hr⟩ := kind_2 h0
    have hlo : loOf befs (louds is ord) i ≤ j := cnt_le fun d c hc hb => (inv.jcs d c hc).1 (hdn c hb)
    have jcs' : ∀ d c, (louds is ord)[d]? = some c → ((S c ∨ c = i) ↔ d < j) := fun d c hc => by
      rw [← inv.jcs d c hc]
      refine ⟨fun h => h.resolve_right fun e => ?_, .inl⟩
      have := mem3 d c hc
      rw [e, hk] at this
      omega
    have skip : some (undef, mi) = some (v, m1) → K (a.put o.dst Go.undef) w := by
      intro e
      cases e
      obtain ⟨F1, h1, h2⟩ := undef_put st0 o.dst fun F => F
      rw [putD_pF] at h1
      subst h1
      exact hK j _ m _ w μ ⟨inS', jcs', inv.mem, f1, f0, fun i' b' x' hm' hS' hlo => inv.gh i' b' x' hm' (fun h => hS' (.inl h)) hlo, inv.hp, inv.gn, inv.gl, h2.rf, h2.df⟩
    have run : effB P dp rec o F mi = some (v, m1) → o.wpIn (FW ro) 0 P a w K Q := by
      intro e
      unfold effB at e
      rw [if_neg hq, if_neg hr] at e
      split at e
      case h_2 => cases e
      rename_i v0 m0 hl
      cases e
      obtain ⟨obj, f, hn, rfl, rfl, V, w', x, r1, x1, x2, x3, x4, x5, x6⟩ := A_fact (w := w) inv.rf inv.gl hA hl o.dst o.type o.pos o.after o.guard
      refine ⟨fun _ _ => trivial, ?_⟩
      rw [Oper.semAt_eq _ _ _ fun c hc => by rw [hc] at hA; cases hA]
      have r1' : (execOp a.eval o).run P w = .ok (.value V) w' := r1
      rw [r1']
      show K (a.put o.dst V) w'
      have hrec' := b7 (by rw [hk]; exact h0) (by simp)
      rw [M.at_push_same] at hrec'
      obtain ⟨g1, g2⟩ := fac.obj inv hdown hrec' hnS hlo
      have g3 := inv.gh i _ _ hrec' hnS hlo
      have g4 : mr.next ≤ mi.next := (newIds_ok fac.ids).1 _ hrec'
      obtain ⟨k1, k2⟩ := x6 mi.next (μ.set mi.next x) (Mu.set_ext x g3) (Mu.set_same _ _ _)
      obtain ⟨l1, l2, l3, _⟩ := inv.hp.late g1 g3 g2 x1 x2 x3 k1 x4 x5
      obtain ⟨F1, h1, h2⟩ := (inv.rf.mono l2).put k2 o.dst fun F => F
      rw [putD_pF] at h1
      subst h1
      refine hK j _ m _ w' (μ.set mi.next x) ⟨inS', jcs', inv.mem, f1, f0, fun i' b' x' hm' hS' hlo' => ?_, l1, inv.gn.late g4 g3 x1 x2 x3 x4, inv.gl.mono l2, h2, by rw [put_defers]; exact inv.df⟩
      have hne : b' ≠ mi.next := (newIds_ok fac.ids).2 _ hm' _ hrec' fun e => hS' (.inr (by cases e; rfl))
      rw [Mu.set_other μ x hne]
      exact inv.gh i' b' x' hm' (fun h => hS' (.inl h)) hlo'
    unfold eff at eF
    split at eF
    · rename_i hg
      have hw : Region.wanted o (yielded ops a.tmps) = true := by simp only [Region.wanted, hg]
      rw [if_pos hw]
      exact run eF
    · rename_i g hg
      obtain ⟨v0, hv, hw⟩ := guard_sound (ops := ops) (g := g) st0
      obtain ⟨hw1, hw2⟩ := hw o hg
      rw [gVal_eq hv] at eF
      split at eF
      · rename_i t
        have := hw1 t rfl
        split at eF
        · rename_i htw
          rw [if_pos (by rw [this, htw]; simp)]
          exact run eF
        · rename_i htw
          rw [if_neg (by rw [this]; simpa using htw)]
          exact skip eF
      · rename_i l
        rw [if_neg (by rw [hw2 l rfl]; simp)]
        exact skip eF
      · cases eF
  · -- it is loud
    have hlp : louds is ord = louds is p ++ i :: louds is s := by
      rw [hsp]
      simp [louds, hk, h0]
    obtain ⟨d1, d2⟩ := b6 (by rw [hk]; exact h0)
    have hpw := fac.hpw
    rw [hsp] at hpw
    obtain ⟨_, hp2, hp3⟩ := List.pairwise_append.1 hpw
    have hj : j = (louds is p).length := by
      have hci : (louds is ord)[(louds is p).length]? = some i := by rw [hlp]; simp
      have h1 : ¬ (louds is p).length < j := fun h => hnS ((inv.jcs _ _ hci).2 h)
      by_cases h2 : j < (louds is p).length
      · exfalso
        obtain ⟨c, hc⟩ : ∃ c, (louds is p)[j]? = some c := ⟨_, List.getElem?_eq_getElem h2⟩
        have hc' : (louds is ord)[j]? = some c := by rw [hlp, List.getElem?_append_left h2]; exact hc
        have hcp : c ∈ p := (List.mem_filter.1 (List.mem_of_getElem? hc)).1
        have hb : bef befs i c = true := (pairOk_ok (hp3 c hcp i List.mem_cons_self)).2.2.2.resolve_right fun h => h.2 ⟨mem3 _ _ hc', by rw [hk]; omega⟩
        have := (inv.jcs j c hc').1 (hdn c hb)
        omega
      · omega
    have hm : m = mi := by
      have h1 := inv.mem
      rw [hj, d1] at h1
      exact (Option.some.inj h1).symm
    subst hm
    obtain ⟨mb, q1, q2⟩ := (Tr.mem fac.his _ _ _ _ _ _ _ _ fac.tr).2.2.2.2 _ _ d2
    refine step_sound hrec st0 eF fun a1 w1 μ1 h1 _ => ?_
    obtain ⟨g1, g2⟩ := h1.hp.ghosts q2
    refine hK (j + 1) _ mb a1 w1 μ1 ⟨inS', fun d c hc => ?_, by rw [hj]; exact q1, f1, f0, fun i' b' x' hm' hS' hlo => ?_, g1, (inv.gn.trans h1.gn).trans g2, h1.gl, h1.rf, h1.df⟩
    · have hi' := inv.jcs d c hc
      constructor
      · rintro (h | rfl)
        · have := hi'.1 h; omega
        · by_cases hd : d < (louds is p).length
          · rw [hlp, List.getElem?_append_left hd] at hc
            have hcp : c ∈ p := (List.mem_filter.1 (List.mem_of_getElem? hc)).1
            exact absurd rfl (pairOk_ok (hp3 c hcp c List.mem_cons_self)).1
          · rw [hlp, List.getElem?_append_right (by omega)] at hc
            by_cases hd2 : d - (louds is p).length = 0
            · omega
            · obtain ⟨e, he⟩ : ∃ e, d - (louds is p).length = e + 1 := ⟨_, (Nat.succ_pred hd2).symm⟩
              rw [he, List.getElem?_cons_succ] at hc
              have hcs : c ∈ s := (List.mem_filter.1 (List.mem_of_getElem? hc)).1
              exact absurd rfl (pairOk_ok ((List.pairwise_cons.1 hp2).1 c hcs)).1
      · intro hd
        by_cases hd2 : d < j
        · exact .inl (hi'.2 hd2)
        · have : d = (louds is p).length := by omega
          subst this
          rw [hlp] at hc
          simp at hc
          exact .inr hc.symm
    · have hS2 : ¬ S i' := fun h => hS' (.inl h)
      by_cases hl2 : loOf befs (louds is ord) i' ≤ j
      · rw [h1.gn.old b' (fac.obj inv hdown hm' hS2 hl2).1]
        exact inv.gh i' b' x' hm' hS2 hl2
      · obtain ⟨m0, e1, e2, _⟩ := chkObj_ok fac.chkO i' b' x' hm'
        have hlo2 : loOf befs (louds is ord) i' = (louds is p).length + 1 := by omega
        rw [hlo2, List.getElem?_cons_succ, d2] at e1
        cases e1
        exact h1.hp.fresh b' e2
end
/-- whatever order is drawn. -/
theorem any_sound (fac : Fac P dp nt rec ops is befs ord F0 Fn mr mn as bs ob) (hrec : RecSound P rec) {Q : Exit → Act → World → Prop} (hed : ∀ (k : Nat) o, ops[k]? = some o → ∀ e ∈ o.after, Region.binds .any e = true → e.on < k)
    (hQ : ∀ S j F m a w μ, Inv D P dp nt is befs ord F0 Fn mr bs ob μr wr ops.size S j F m a w μ → (∀ i, i < ops.size → S i) → Q .normal a w) :
    ∀ (fuel : Nat) (listed : Array Bool) (c : List Nat) (j : Nat) (F : T Value) (m : M) (a : Act) (w : World) (μ : Mu), c.length = fuel → (∀ i, i ∈ c ↔ i < ops.size ∧ listed.getD i true = false) → listed.size = ops.size →
      c.Pairwise (· < ·) → Down ops.toList (fun i => i < ops.size ∧ listed.getD i true = true) → Inv D P dp nt is befs ord F0 Fn mr bs ob μr wr ops.size (fun i => i < ops.size ∧ listed.getD i true = true) j F m a w μ →
      wpAnyIn (FW ro) 0 P .any ops Q fuel listed a w
  | 0, listed, c, j, F, m, a, w, μ, hl, hm, hs, _, _, inv => by
    have hc : c = [] := List.length_eq_zero_iff.1 hl
    subst hc
    have all : ∀ i, i < ops.size → listed.getD i true = true := fun i hi => by
      have := hm i
      simp only [List.not_mem_nil, false_iff, not_and, Bool.not_eq_false] at this
      exact this hi
    refine ⟨?_, hQ _ _ _ _ _ _ _ inv fun i hi => ⟨hi, all i hi⟩⟩
    unfold Region.ready
    rw [List.filter_eq_nil_iff]
    intro i hi
    rw [all i (by simpa using hi)]
    simp
  | fuel + 1, listed, c, j, F, m, a, w, μ, hl, hm, hs, hp, hdn, inv => by
    have rdy : ∀ i, i ∈ Region.ready .any ops listed ↔ i < ops.size ∧ listed.getD i true = false ∧ ∃ o, ops[i]? = some o ∧ ∀ e ∈ o.after, Region.binds .any e = true → listed.getD e.on false = true := by
      intro i
      unfold Region.ready
      simp only [List.mem_filter, List.mem_range, Bool.and_eq_true, Bool.not_eq_true']
      constructor
      · rintro ⟨h1, h2, h3⟩
        cases ho : ops[i]? with
        | none => simp [ho] at h3
        | some o =>
          simp only [ho, Option.map_some, Option.getD_some, Array.all_eq_true_iff_forall_mem, Bool.or_eq_true, Bool.not_eq_true'] at h3
          exact ⟨h1, h2, o, rfl, fun e he hb => (h3 e he).resolve_left (by rw [hb]; simp)⟩
      · rintro ⟨h1, h2, o, ho, h3⟩
        refine ⟨h1, h2, ?_⟩
        simp only [ho, Option.map_some, Option.getD_some, Array.all_eq_true_iff_forall_mem, Bool.or_eq_true, Bool.not_eq_true']
        intro e he
        cases hb : Region.binds .any e with
        | false => exact .inl rfl
        | true => exact .inr (h3 e he hb)
    refine ⟨fun hnil => ?_, fun i hi => ?_⟩
    · exfalso
      cases c with
      | nil => simp at hl
      | cons m c =>
        have hmm := (hm m).1 List.mem_cons_self
        have ho : ops[m]? = some (ops[m]'hmm.1) := Array.getElem?_eq_getElem hmm.1
        have : m ∈ Region.ready .any ops listed := (rdy m).2 ⟨hmm.1, hmm.2, _, ho, fun e he hb => by
          have hlt := hed m _ ho e he hb
          have hnot : e.on ∉ m :: c := by
            intro hmem
            rcases List.mem_cons.1 hmem with h' | h'
            · omega
            · have := (List.pairwise_cons.1 hp).1 _ h'
              omega
          have hx := mt (hm e.on).2 hnot
          simp only [not_and, Bool.not_eq_false] at hx
          have hlt' : e.on < ops.size := by omega
          have := hx hlt'
          rw [Array.getD_eq_getD_getElem?] at this ⊢
          rw [Array.getElem?_eq_getElem (by omega)] at this ⊢
          simpa using this⟩
        rw [hnil] at this
        simp at this
    · obtain ⟨h1, h2, o, ho, h3⟩ := (rdy i).1 hi
      have hic : i ∈ c := (hm i).2 ⟨h1, h2⟩
      obtain ⟨pre, post, rfl⟩ := List.append_of_mem hic
      have hlt : ∀ y ∈ pre, y < i := fun y hy => (List.pairwise_append.1 hp).2.2 y hy i List.mem_cons_self
      have gl : ∀ {x : Nat}, x < ops.size → listed.getD x false = listed.getD x true := fun hx => by
        rw [Array.getD_eq_getD_getElem?, Array.getD_eq_getD_getElem?, Array.getElem?_eq_getElem (by omega)]; rfl
      have hnS : ¬ (i < ops.size ∧ listed.getD i true = true) := fun h => by rw [h2] at h; cases h.2
      have hdn2 : ∀ y, bef befs i y = true → y < ops.size ∧ listed.getD y true = true := fun y hy =>
        bef_fed fac.hbef hy (fun k => k < ops.size ∧ listed.getD k true = true) hdn fun o' ho' e he hb => by
          have ho2 : o' = o := by
            rw [Array.getElem?_toList, ho] at ho'
            exact (Option.some.inj ho').symm
          subst ho2
          have hx := h3 e he hb
          have hxl : e.on < ops.size := by have := hed i o' ho e he hb; omega
          exact ⟨hxl, by rw [← gl hxl]; exact hx⟩
      unfold wpOpIn
      simp only [ho]
      have key := fac.step (ro := ro) (Q := Q) (K := wpAnyIn (FW ro) 0 P .any ops Q fuel (listed.setIfInBounds i true)) hrec inv hdn ho hnS hdn2 (fun j1 F1 m1 a1 w1 μ1 inv1 => by
        have hset : ∀ x, (x < ops.size ∧ (listed.setIfInBounds i true).getD x true = true) ↔ ((x < ops.size ∧ listed.getD x true = true) ∨ x = i) := fun x => by
          rw [Array.getD_eq_getD_getElem?, Array.getElem?_setIfInBounds]
          by_cases hxi : i = x
          · subst hxi
            rw [if_pos rfl, if_pos (by omega)]
            simp [h1]
          · rw [if_neg hxi, ← Array.getD_eq_getD_getElem?]
            exact ⟨.inl, fun h => h.resolve_right fun e => hxi e.symm⟩
        have hfun : (fun x => x < ops.size ∧ (listed.setIfInBounds i true).getD x true = true) = (fun x => (x < ops.size ∧ listed.getD x true = true) ∨ x = i) := funext fun x => propext (hset x)
        refine any_sound fac hrec hed hQ fuel _ (pre ++ post) j1 F1 m1 a1 w1 μ1 ?_ (fun x => ?_) (by simp [hs]) ?_ ?_ (by rw [hfun]; exact inv1)
        · simp at hl ⊢; omega
        · have hx := hm x
          simp only [List.mem_append, List.mem_cons] at hx ⊢
          rw [Array.getD_eq_getD_getElem?, Array.getElem?_setIfInBounds]
          by_cases hxi : i = x
          · subst hxi
            rw [if_pos rfl, if_pos (by omega)]
            simp only [Option.getD_some, Bool.true_eq_false, and_false, iff_false, not_or]
            refine ⟨fun hy => ?_, fun hy => ?_⟩
            · have := hlt i hy; omega
            · have := (List.pairwise_cons.1 (List.pairwise_append.1 hp).2.1).1 i hy; omega
          · rw [if_neg hxi, ← Array.getD_eq_getD_getElem?, ← hx]
            constructor
            · rintro (h' | h')
              · exact .inl h'
              · exact .inr (.inr h')
            · rintro (h' | h' | h')
              · exact .inl h'
              · exact absurd h'.symm hxi
              · exact .inr h'
        · rw [List.pairwise_append] at hp ⊢
          refine ⟨hp.1, (List.pairwise_cons.1 hp.2.1).2, fun x hx y hy => hp.2.2 x hx y (List.mem_cons_of_mem _ hy)⟩
        · rw [hfun]
          intro j oj hj hS e he hb
          have hj' : ops[j]? = some oj := by rw [← Array.getElem?_toList]; exact hj
          have hlt' := hed j oj hj' e he hb
          rcases hS with hS | rfl
          · exact .inl (hdn j oj hj hS e he hb)
          · rw [ho] at hj'
            cases hj'
            have hxl : e.on < ops.size := by omega
            exact .inl ⟨hxl, by rw [← gl hxl]; exact h3 e he hb⟩)
      split
      · rename_i hw
        rw [if_pos hw] at key
        exact key
      · rename_i hw
        rw [if_neg hw] at key
        exact ⟨fun _ _ => trivial, key⟩
end
end E
end Go.Proofs.YtcclhfgbkohidaaGreat
namespace Go.Proofs.YtcclhfgbkohidaaGreat
namespace E
section
variable {D : List Deferred} {ro : Option Nat} {P : Program} {dp nt : Nat} {μ0 : Mu} {m0 : M} {w0 : World} {rec : Rec}
theorem Gn.drew (μ : Mu) (m : M) (w : World) : Gn μ m w μ m { w with drawn := w.drawn + 1 } := ⟨.refl μ, Nat.le_refl _, Nat.le_refl _, fun _ _ _ => rfl, fun i x h e => .inl ⟨i, x, h, e, rfl⟩, ⟨rfl, rfl⟩, fun _ _ => rfl⟩
theorem rng_mem : ∀ (n i k : Nat), k < n → i + k ∈ rng i n
  | 0, i, k, h => by omega
  | n + 1, i, k, h => by
    unfold rng
    cases k with
    | zero => exact List.mem_cons_self
    | succ k =>
      have := rng_mem n (i + 1) k (by omega)
      rw [show i + (k + 1) = i + 1 + k by omega]
      exact List.mem_cons_of_mem _ this
theorem draw_sound (hle : nt ≤ 4 ^ dp) (hrec : RecSound P rec) (hmix : P.follows .mixedOrders = true) {id : Nat} {ops : Array Oper} {F : T Value} {m : M} {a : Act} {w : World} {μ : Mu} {x : X} {F' : T Value} {m' : M} {Q : Exit → Act → World → Prop}
    (h : St D P dp nt μ0 m0 w0 F m a w μ) (e : (drawC P dp nt ops.toList).f rec F m = .go x F' m') (hq : ∀ e a' w', Stands D P dp nt μ0 m0 w0 x F' m' e a' w' → Q e a' w') : (Code.region id ops true).wpIn (FW ro) 0 P Q a w := by
  unfold drawC at e
  generalize hb : befL ops.toList [] = befs at e
  generalize hi : ops.toList.map (infoOf P ops.toList) = is at e
  generalize (ordR befs is (rng 0 ops.toList.length) []).reverse = ord at e
  unfold drawN at e
  rw [bi_eq] at e
  split at e
  case isFalse => cases e
  rename_i hst
  rw [andB_eq, andB_eq, Bool.and_eq_true, Bool.and_eq_true, List.all_eq_true] at hst
  obtain ⟨hs1, hs2, hs3⟩ := hst
  obtain ⟨o1, o2⟩ := ordOk_ok hs3
  simp only at e
  rw [onOut_eq] at e
  split at e
  case h_2 => cases e
  rename_i x1 F1 m1 hrun
  cases x1 with
  | norm =>
    have e : Out.go .norm F1 m1 = .go x F' m' := e
    cases e
    obtain ⟨Fn, mn, as, bs, ob, htr, hk⟩ := runD_tr ord F m _ _ _ hrun
    rw [bi_eq] at hk
    split at hk
    case isFalse => cases hk
    rename_i hck
    cases hk
    rw [andB_eq, andB_eq, Bool.and_eq_true, Bool.and_eq_true] at hck
    obtain ⟨c1, c2, c3⟩ := hck
    have fac : Fac P dp nt rec ops is befs ord F F' m m' as bs ob := ⟨hi.symm, hb.symm, hle, o1, o2, fun i hi => by
      have := hs2 i (by have := rng_mem ops.toList.length 0 i (by simpa using hi); simpa using this)
      exact inL_iff.1 this, htr, c1, c2, c3⟩
    obtain ⟨_, _, t3, ⟨m2, t4, t5⟩, _⟩ := Tr.mem hi.symm _ _ _ _ _ _ _ _ htr
    have hp1 : Hp P μ m { w with drawn := w.drawn + 1 } := h.hp.drew
    obtain ⟨hp2, gn2⟩ := hp1.ghosts t5
    have noS : ∀ i, ¬ (i < ops.size ∧ (Array.replicate ops.size false).getD i true = true) := fun i hS => by
      obtain ⟨h1, h2⟩ := hS
      rw [Array.getD_eq_getD_getElem?, Array.getElem?_eq_getElem (by simpa using h1)] at h2
      simp at h2
    refine wpIn_region_any hmix (any_sound (ro := ro) (μr := μ) (wr := { w with drawn := w.drawn + 1 }) fac hrec (fun k o ho e he hb => ?_) (fun S j F2 m3 a2 w2 μ2 inv hS => ?_) ops.size _ (List.range' 0 ops.size) 0 F m2 a _ μ (by simp) (fun i => ?_) (by simp) List.pairwise_lt_range' (fun j oj hj hS => absurd hS (noS j))
      ⟨fun i hS => hS.1, fun d c hc => ⟨fun hS => absurd hS (noS c), fun hd => by omega⟩, t4, fun t ht i hS => absurd hS (noS i), fun t ht _ => rfl, fun i b x hm hS hlo => ?_, hp2, gn2, h.gl, h.rf, h.df⟩)
    · have := edgesOk_sound hs1 k o (by rw [Array.getElem?_toList]; exact ho) e he hb
      omega
    · have hj : j = (louds is ord).length := by
        have h1 := fac.j_le inv
        by_cases h2 : j < (louds is ord).length
        · have hc : (louds is ord)[j]? = some (louds is ord)[j] := List.getElem?_eq_getElem h2
          have hmem : (louds is ord)[j] ∈ ord := (List.mem_filter.1 (List.getElem_mem h2)).1
          have := (inv.jcs j _ hc).1 (hS _ (by have := (o1 _ hmem).1; simpa using this))
          omega
        · omega
      have hm : m3 = m' := by
        have h1 := inv.mem
        rw [hj, t3] at h1
        exact (Option.some.inj h1).symm
      subst hm
      refine hq _ _ _ ⟨μ2, .norm, inv.hp, (h.gn.trans (Gn.drew μ m w)).trans inv.gn, inv.gl, ⟨inv.rf.size, inv.rf.le, fun t ht => ?_⟩, inv.df⟩
      have : T.look undef dp t F' = T.look undef dp t F2 := by
        by_cases hw : ∃ i, i < ops.size ∧ Wrt is nt i t
        · obtain ⟨i, hi, hw⟩ := hw
          exact (inv.lk1 t ht i (hS i hi) hw).symm
        · rw [inv.lk0 t ht fun i hS hwi => hw ⟨i, inv.inS i hS, hwi⟩]
          exact Tr.look hle hi.symm ht ord _ _ _ _ _ _ _ htr fun i hio hwi => hw ⟨i, by have := (o1 i hio).1; simpa using this, hwi⟩
      rw [this]
      exact inv.rf.at_ t ht
    · simp only [List.mem_range'_1, Nat.zero_le, true_and, Nat.zero_add]
      constructor
      · intro hi
        refine ⟨hi, ?_⟩
        rw [Array.getD_eq_getD_getElem?, Array.getElem?_eq_getElem (by simpa using hi)]
        simp
      · exact fun h => h.1
    · obtain ⟨m5, e1, e2, _⟩ := chkObj_ok c2 i b x hm
      have : loOf befs (louds is ord) i = 0 := by omega
      rw [this] at e1
      cases e1
      exact hp1.fresh b e2
  | _ => cases e
end
end E
end Go.Proofs.YtcclhfgbkohidaaGreat
namespace Go.Proofs.YtcclhfgbkohidaaGreat
namespace E
/-! # ranges over functions -/
def mkD (r : Nat) : Deferred := { target := .collected r, args := #[] }
/-- the marks among the deferred calls: blocks of no calls, that nothing else leads to. -/
def Mk (w0 : World) (μ : Mu) (m : M) (w : World) : List Deferred → Prop
  | [] => True
  | d :: ds => (∃ r, d = mkD r ∧ w0.heap.size ≤ r ∧ r < w.heap.size ∧ w.heap[r]? = some (.deferred (some [])) ∧ (∀ i x, wr (m.at i) = true → μ i = some x → x.b ≠ r) ∧ ∀ d' ∈ ds, d' ≠ d) ∧ Mk w0 μ m w ds
theorem Mk.step {w0 : World} {μ μ' : Mu} {m m' : M} {w w' : World} (g : Gn μ m w μ' m' w') : ∀ {D : List Deferred}, Mk w0 μ m w D → Mk w0 μ' m' w' D
  | [], _ => trivial
  | d :: ds, ⟨⟨r, h1, h2, h3, h4, h5, h6⟩, h⟩ => ⟨⟨r, h1, h2, Nat.lt_of_lt_of_le h3 g.size, by rw [g.rest r h3 h5]; exact h4, fun i x hw e => by
      rcases g.own i x hw e with ⟨j, y, k1, k2, k3⟩ | hge
      · have := h5 j y k1 k2; omega
      · omega, h6⟩, Mk.step g h⟩
theorem Mk.lt {w0 : World} {μ : Mu} {m : M} {w : World} : ∀ {D : List Deferred}, Mk w0 μ m w D → ∀ d ∈ D, ∃ r, d = mkD r ∧ r < w.heap.size
  | [], _, d, hd => by cases hd
  | d :: ds, ⟨⟨r, h1, h2, h3, h4, h5, h6⟩, h⟩, d', hd => by
    rcases List.mem_cons.1 hd with rfl | hd
    · exact ⟨r, h1, h3⟩
    · exact Mk.lt h d' hd
section
variable {P : Program} {μ : Mu} {w w' : World} {m : M}
/-- a block that nothing leads to. -/
theorem Hp.extra (h : Hp P μ m w) (o : Obj) : Hp P μ m (w.alloc o) ∧ Gn μ m w μ m (w.alloc o) := by
  have hb : ∀ b, b < w.heap.size → (w.alloc o).heap[b]? = w.heap[b]? := fun b hb => by rw [heap_alloc, if_neg (by omega)]
  have hs := size_alloc w o
  refine ⟨⟨fun i x e => (h.obj i x e).mono (.refl μ) fun y ey => ?_, h.fresh, h.room, h.root, fun i x e => ?_, h.inj⟩, ⟨.refl μ, Nat.le_refl _, by omega, fun b hlt _ => hb b hlt, fun i x hw e => .inl ⟨i, x, hw, e, rfl⟩, ⟨rfl, rfl⟩, fun _ _ => rfl⟩⟩
  · rw [e] at ey; cases ey
    exact hb _ (h.lt i x e)
  · have := h.lt i x e; omega
/-- a block that nothing leads to is turned. -/
theorem Hp.aside (h : Hp P μ m w) {r : Nat} (hr : ∀ i x, wr (m.at i) = true → μ i = some x → x.b ≠ r) (hs : w'.heap.size = w.heap.size) (hb : ∀ b, b ≠ r → w'.heap[b]? = w.heap[b]?) : Hp P μ m w' := by
  refine ⟨fun i x e => ?_, h.fresh, h.room, h.root, fun i x e => by rw [hs]; exact h.lt i x e, h.inj⟩
  cases hw : wr (m.at i) with
  | true =>
    refine (h.obj i x e).mono (.refl μ) fun y ey => ?_
    rw [e] at ey; cases ey
    exact hb _ (hr i x hw e)
  | false =>
    have : m.at i = .dead := by
      cases hm : m.at i <;> first | rfl | (rw [hm] at hw; cases hw)
    rw [this]; trivial
theorem run_newObj (o : Obj) (w : World) : (newObj o).run P w = .ok w.heap.size (w.alloc o) := rfl
theorem run_setLoop {i : Nat} {r : Loop} {w : World} (h : w.heap[i]? = some (.loop r)) (o : Obj) : (setObj i o).run P w = .ok () { w with heap := w.heap.setIfInBounds i o } := by
  simp [setObj, Sem.run, h]
theorem run_getLoop {l : Nat} {r : Loop} (h : w.heap[l]? = some (.loop r)) : (Instr.getLoop l).run P w = .ok r w := by
  simp [Instr.getLoop, getObj, Sem.run, h]
theorem set_at {w : World} {i : Nat} {o' : Obj} (h : w.heap[i]? = some o') (o : Obj) (b : Nat) : (w.heap.setIfInBounds i o)[b]? = if b = i then some o else w.heap[b]? := by
  have hi : i < w.heap.size := (Array.getElem?_eq_some_iff.1 h).1
  rw [Array.getElem?_setIfInBounds]
  by_cases hb : i = b
  · subst hb; simp [hi]
  · rw [if_neg hb, if_neg (fun e => hb e.symm)]
/-- an object's record is turned where it lies. -/
theorem Hp.loop (h : Hp P μ m w) {j : Nat} {x : Lc} (hx : μ j = some x) (hw : wr (m.at j) = true) {r r' : Loop} (hr : w.heap[x.b]? = some (.loop r)) {o : O} (ho : ∀ w' : World, w'.heap[x.b]? = some (.loop r') → OR μ w' j o) (hro : rootO P o = false) :
    (setObj x.b (.loop r')).run P w = .ok () { w with heap := w.heap.setIfInBounds x.b (.loop r') } ∧ Hp P μ (m.setA j o) { w with heap := w.heap.setIfInBounds x.b (.loop r') } ∧ Gn μ m w μ (m.setA j o) { w with heap := w.heap.setIfInBounds x.b (.loop r') } := by
  refine ⟨run_setLoop hr _, h.put hx hw (by simp) (fun b hb => ?_) (ho _ ?_) ⟨rfl, rfl⟩ (fun h => by rw [hro] at h; cases h)⟩
  · show (w.heap.setIfInBounds x.b (.loop r'))[b]? = _
    rw [set_at hr, if_neg hb]
  · show (w.heap.setIfInBounds x.b (.loop r'))[x.b]? = _
    rw [set_at hr, if_pos rfl]
end
section
variable {P : Program} {dp nt : Nat} {μ0 : Mu} {m0 : M} {w0 : World} {rec : Rec}
/-- how a piece of code that may hold ranges over functions stands. -/
def StandsM (P : Program) (dp nt : Nat) (μ0 : Mu) (m0 : M) (w0 : World) (x : X) (F : T Value) (m : M) (e : Exit) (a : Act) (w : World) : Prop :=
  ∃ D μ, Ex μ x e ∧ St D P dp nt μ0 m0 w0 F m a w μ ∧ Mk w0 μ m w D
theorem hasB_ok {f : FuncId} (h : hasB P f = true) : ∃ fn, P.funcs[f]? = some fn ∧ ∃ c, fn.body = some c := by
  unfold hasB at h
  split at h
  · rename_i fn hf
    split at h
    · rename_i c hc; exact ⟨fn, hf, c, hc⟩
    · cases h
  · cases h
theorem rangeFunc_sound (hrec : RecSound P rec) {n : Nat} {g : Operand} {ps : Array Tmp} {as bo : Code} {D : List Deferred} {F : T Value} {m : M} {a : Act} {w : World} {μ : Mu} {x : X} {F' : T Value} {m' : M} {Q : Exit → Act → World → Prop}
    (h : St D P dp nt μ0 m0 w0 F m a w μ) (hk : Mk w0 μ m w D) (e : rangeC P dp nt g ps.toList as bo rec n F m = .go x F' m') (hq : ∀ e a' w', StandsM P dp nt μ0 m0 w0 x F' m' e a' w' → Q e a' w') : (Code.rangeFunc g ps as bo).wpIn (FW none) 0 P Q a w := by
  unfold rangeC at e
  obtain ⟨u, hu, hr⟩ := ev_sound h.rf h.gl g
  simp only [hu, onFn_eq] at e
  split at e
  case h_2 => cases e
  rename_i f l1 l2
  obtain ⟨b1, b2, hV, hr1, hr2⟩ := hr.fnI
  rw [bi_eq] at e
  split at e
  case isFalse => cases e
  rename_i hb
  obtain ⟨fn0, hf0, c0, hc0⟩ := hasB_ok hb
  rw [M.new_eq] at e
  split at e
  case isFalse => cases e
  rename_i hnx
  simp only [appF_eq] at e
  refine wpIn_rangeFunc fun fid _ => ?_
  obtain ⟨w1, hw1⟩ : ∃ w1, w1 = w.alloc (.deferred (some [])) := ⟨_, rfl⟩
  obtain ⟨lr, hlr⟩ : ∃ lr : Loop, lr = { state := .ready, pending := none, fn := fid, tmps := a.tmps, params := ps, assign := as, body := bo, defers := w.heap.size } := ⟨_, rfl⟩
  obtain ⟨w2, hw2⟩ : ∃ w2, w2 = w1.alloc (.loop lr) := ⟨_, rfl⟩
  have hs1 : w1.heap.size = w.heap.size + 1 := by rw [hw1]; exact size_alloc _ _
  have hs2 : w2.heap.size = w1.heap.size + 1 := by rw [hw2]; exact size_alloc _ _
  obtain ⟨hpa, gna⟩ := h.hp.extra (.deferred (some []))
  rw [← hw1] at hpa gna
  have hset := Mu.set_same μ m.next ⟨w1.heap.size, 0, 0⟩
  have hext := Mu.set_ext (μ := μ) (j := m.next) ⟨w1.heap.size, 0, 0⟩ (h.hp.fresh _ (Nat.le_refl _))
  obtain ⟨hpb, gnb⟩ := Hp.new (w := w1) (w' := w2) hpa hnx (o := .loop F dp nt ps.toList as bo 0 .norm) (x := ⟨w1.heap.size, 0, 0⟩) rfl hs2 (fun b hb => by rw [hw2, heap_alloc, if_neg (by omega)])
    ⟨_, lr, hset, by rw [hw2, heap_alloc, if_pos rfl], by rw [hlr], by rw [hlr], by rw [hlr], by rw [hlr]; exact h.rf.mono hext, by rw [hlr]; exact ⟨rfl, rfl, rfl⟩⟩ ⟨by rw [hw2]; rfl, by rw [hw2]; rfl⟩ (fun hr => by cases hr)
  have mk1 : Mk w0 μ m w1 (mkD w.heap.size :: D) := by
    refine ⟨⟨w.heap.size, rfl, h.gn.size, by omega, by rw [hw1, heap_alloc, if_pos rfl], fun i y _ ey => ?_, fun d' hd he => ?_⟩, hk.step gna⟩
    · have := h.hp.lt i y ey; omega
    · obtain ⟨r', e1, e2⟩ := hk.lt d' hd
      rw [e1] at he
      unfold mkD at he
      simp at he
      omega
  have mk2 := mk1.step gnb
  have hL : RL (μ.set m.next ⟨w1.heap.size, 0, 0⟩) (l1.toList ++ ([ydV m.next] ++ l2.toList)) (b1 ++ #[ydV w1.heap.size] ++ b2).toList := by
    simp only [Array.toList_append, List.append_assoc]
    exact (hr1.mono hext).append ((RL.cons (.yd m.next _ hset) .nil).append (hr2.mono hext))
  generalize hcall : rec (.fn f) (l1.toList ++ ([ydV m.next] ++ l2.toList)) (m.push (.loop F dp nt ps.toList as bo 0 .norm)) = r at e
  rw [onCO_eq] at e
  have hno : ∀ k, r ≠ .no k := by rintro k rfl; cases e
  have key := hrec (.fn f) _ _ r hcall hno _ w2 _ hpb (h.gl.mono hext) hL
  rcases key with ⟨fn, f1, f2, f3, f4⟩ | ⟨_, _, _, _, _, f1⟩
  case inr => rw [f1 fn0 hf0] at hc0; cases hc0
  have rfn : RF (μ.set m.next ⟨w1.heap.size, 0, 0⟩) dp nt F a.tmps := h.rf.mono hext
  refine ⟨w1.heap.size, [mkD w.heap.size], w2, { target := .fn (.func f) b2, args := b1 ++ #[ydV w1.heap.size] }, w2, f, b1 ++ #[ydV w1.heap.size] ++ b2, w2, ?_, ?_, fun _ _ => trivial, ?_, fun h => FW.room h, callsFW (f4.mono fun en w3 hfin => ?_)⟩
  · show (Instr.enterLoop fid a.tmps ps as bo none).run P w = _
    simp only [Instr.enterLoop, Sem.run_bind, run_newObj, Result.andThen_ok, Sem.run_pure]
    rw [hw2, hlr, hw1]
    rfl
  · have hc : a.eval (.const (.func (.yield w1.heap.size) #[] #[])) = ydV w1.heap.size := rfl
    simp only [resolve, hV, Deferred.ofValue]
    simp [hc]
  · exact run_callFunc f1 f2 f3 _ _
  · cases r with
    | no k => exact absurd rfl (hno k)
    | ret v m2 =>
      cases en with
      | returned V =>
        obtain ⟨μ3, hv, hp3, gn3⟩ := hfin
        simp only [M.get_eq, onLoop_eq] at e
        split at e
        case h_2 => cases e
        rename_i F1 dp1 nt1 ps1 as1 bo1 st pend hat
        rw [bi_eq] at e
        split at e
        case isFalse => cases e
        rename_i hst
        rw [M.put_eq] at e
        cases e
        have hx3 : μ3 m.next = some ⟨w1.heap.size, 0, 0⟩ := gn3.ext _ _ hset
        have ho := hp3.obj m.next _ hx3
        rw [hat] at ho
        obtain ⟨y, r, o1, o2, o3, o4, o5, o6, o7⟩ := ho
        rw [hx3] at o1; cases o1
        obtain ⟨t1, t2, t3⟩ := hp3.loop hx3 (by rw [hat]; rfl) (r' := { r with state := .exhausted }) o2 (o := .dead) (fun _ _ => trivial) rfl
        have hnb : (r.state == .busy) = false := by
          match st, o7 with
          | 0, o7 => rw [o7.1]; rfl
          | 1, o7 => rw [o7.1]; rfl
        have hend : (Instr.endLoop w1.heap.size).run P w3 = .ok r.pending { w3 with heap := w3.heap.setIfInBounds w1.heap.size (.loop { r with state := .exhausted }) } := by
          simp only [Instr.endLoop, Sem.run_bind, run_getLoop o2, Result.andThen_ok, hnb, Bool.false_eq_true, if_false, Sem.run_pure, t1]
        have stand : ∀ e', Ex μ3 x e' → StandsM P dp nt μ0 m0 w0 x F (m2.setA m.next .dead) e' { a with defers := [mkD w.heap.size] ++ a.defers } { w3 with heap := w3.heap.setIfInBounds w1.heap.size (.loop { r with state := .exhausted }) } := fun e' he =>
          ⟨mkD w.heap.size :: D, μ3, he, ⟨t2, (((h.gn.trans gna).trans gnb).trans gn3).trans t3, (h.gl.mono hext).mono gn3.ext, (rfn.mono gn3.ext).mono t3.ext, by show [mkD w.heap.size] ++ a.defers = _; rw [h.df]; rfl⟩, (mk2.step gn3).step t3⟩
        generalize ({ w3 with heap := w3.heap.setIfInBounds w1.heap.size (.loop { r with state := .exhausted }) } : World) = w4 at hend stand
        refine ⟨r.pending, w4, hend, ?_⟩
        match st, o7 with
        | 0, o7 =>
          obtain ⟨_, hx, hp⟩ := o7
          rw [hp]
          exact hq _ _ _ (stand _ (by rw [hx]; exact .norm))
        | 1, o7 =>
          obtain ⟨_, ⟨hx, hp⟩ | ⟨id, hx, hp⟩⟩ := o7
          · rw [hp]
            exact wpIn_ret (hq _ _ _ (stand _ (by rw [hx]; exact .ret)))
          · rw [hp]
            exact wpIn_exit (hq _ _ _ (stand _ (by rw [hx]; exact .exit id)))
      | _ => exact hfin.elim
    | pan v m2 =>
      cases en with
      | panicked chain =>
        obtain ⟨V, μ3, rfl, hv, hp3, gn3⟩ := hfin
        cases e
        exact hq _ _ _ ⟨mkD w.heap.size :: D, μ3, .pan _ _ hv, ⟨hp3, ((h.gn.trans gna).trans gnb).trans gn3, (h.gl.mono hext).mono gn3.ext, rfn.mono gn3.ext, by show [mkD w.heap.size] ++ a.defers = _; rw [h.df]; rfl⟩, mk2.step gn3⟩
      | _ => exact hfin.elim
end
end E
end Go.Proofs.YtcclhfgbkohidaaGreat
namespace Go.Proofs.YtcclhfgbkohidaaGreat
namespace E
section
variable {ro : Option Nat} {rg : Bool} {P : Program} {dp nt : Nat} {μ0 : Mu} {m0 : M} {w0 : World} {rec : Rec}
theorem rounds_sound {body : Code} {n0 : Nat} {Q : Exit → Act → World → Prop} {x : X} {F' : T Value} {m' : M} (hq : ∀ e a' w', StandsM P dp nt μ0 m0 w0 x F' m' e a' w' → Q e a' w')
    (hb : ∀ D F m a w μ x F' m' Q, St D P dp nt μ0 m0 w0 F m a w μ → Mk w0 μ m w D → (code P dp nt rg body).f rec n0 F m = .go x F' m' → (∀ e a' w', StandsM P dp nt μ0 m0 w0 x F' m' e a' w' → Q e a' w') → body.wpIn (FW ro) 0 P Q a w) :
    ∀ (n : Nat) (D : List Deferred) (F : T Value) (m : M) (a : Act) (w : World) (μ : Mu), St D P dp nt μ0 m0 w0 F m a w μ → Mk w0 μ m w D →
      rN (A := T Value) (B := M → Out) (fun _ _ => .no 141) (fun _ ih F m => onOut ((code P dp nt rg body).f rec n0 F m) (fun x F m => onX x (ih F m) (.go x F m)) Out.no) n F m = .go x F' m' → Code.roundsIn (FW ro) 0 P body Q n a w
  | 0, D, F, m, a, w, μ, h, hk, e => by cases e
  | n + 1, D, F, m, a, w, μ, h, hk, e => by
    rw [rN_succ, onOut_eq] at e
    rw [roundsIn_succ]
    split at e
    · rename_i x1 F1 m1 h1
      refine hb D F m a w μ x1 F1 m1 _ h hk h1 fun e1 a1 w1 hs => ?_
      obtain ⟨D1, μ1, hx, hst, hk1⟩ := hs
      rw [onX_eq] at e
      cases hx with
      | norm => exact rounds_sound hq hb n D1 F1 m1 a1 w1 μ1 hst hk1 e
      | ret => cases e; exact hq _ _ _ ⟨D1, μ1, .ret, hst, hk1⟩
      | exit id => cases e; exact hq _ _ _ ⟨D1, μ1, .exit id, hst, hk1⟩
      | pan v V hv => cases e; exact hq _ _ _ ⟨D1, μ1, .pan v V hv, hst, hk1⟩
    · cases e
theorem code_sound (hle : nt ≤ 4 ^ dp) (hrec : RecSound P rec) (hmix : P.follows .mixedOrders = true) (hrg : rg = true → ro = none) (n : Nat) : ∀ (c : Code) (D : List Deferred) (F : T Value) (m : M) (a : Act) (w : World) (μ : Mu) (x : X) (F' : T Value) (m' : M) (Q : Exit → Act → World → Prop), St D P dp nt μ0 m0 w0 F m a w μ → Mk w0 μ m w D →
    (code P dp nt rg c).f rec n F m = .go x F' m' → (∀ e a' w', StandsM P dp nt μ0 m0 w0 x F' m' e a' w' → Q e a' w') → c.wpIn (FW ro) 0 P Q a w
  | .skip, D, F, m, a, w, μ, x, F', m', Q, h, hk, e, hq => by
    cases e
    exact wpIn_skip (hq _ _ _ ⟨D, μ, .norm, h, hk⟩)
  | .region id ops draw, D, F, m, a, w, μ, x, F', m', Q, h, hk, e, hq => by
    unfold code at e
    cases draw with
    | true => exact draw_sound (μ0 := μ) (m0 := m) (w0 := w) hle hrec hmix ⟨h.hp, .refl _ _ _, h.gl, h.rf, h.df⟩ e fun e a' w' ⟨μ', hx, hs⟩ => hq _ _ _ ⟨D, μ', hx, ⟨hs.hp, h.gn.trans hs.gn, hs.gl, hs.rf, hs.df⟩, hk.step hs.gn⟩
    | false =>
      refine wpIn_region ?_
      have hr : List.range ops.size = List.range' 0 ops.toList.length := by rw [List.range_eq_range']; simp
      rw [hr]
      exact opers_sound (μ0 := μ) (m0 := m) (w0 := w) hrec ops.toList 0 F m a w μ x F' m' (fun k => by simp) ⟨h.hp, .refl _ _ _, h.gl, h.rf, h.df⟩ e fun e a' w' ⟨μ', hx, hs⟩ => hq _ _ _ ⟨D, μ', hx, ⟨hs.hp, h.gn.trans hs.gn, hs.gl, hs.rf, hs.df⟩, hk.step hs.gn⟩
  | .seq c1 c2, D, F, m, a, w, μ, x, F', m', Q, h, hk, e, hq => by
    unfold code seqC at e
    simp only [onOut_eq] at e
    split at e
    · rename_i x1 F1 m1 h1
      refine wpIn_seq (code_sound hle hrec hmix hrg n c1 D F m a w μ x1 F1 m1 _ h hk h1 fun e1 a1 w1 hs => ?_)
      obtain ⟨D1, μ1, hx, hst, hk1⟩ := hs
      rw [onX_eq] at e
      cases hx with
      | norm => exact code_sound hle hrec hmix hrg n c2 D1 F1 m1 a1 w1 μ1 x F' m' Q hst hk1 e hq
      | ret => cases e; exact hq _ _ _ ⟨D1, μ1, .ret, hst, hk1⟩
      | exit id => cases e; exact hq _ _ _ ⟨D1, μ1, .exit id, hst, hk1⟩
      | pan v V hv => cases e; exact hq _ _ _ ⟨D1, μ1, .pan v V hv, hst, hk1⟩
    · cases e
  | .cond c c1 c2, D, F, m, a, w, μ, x, F', m', Q, h, hk, e, hq => by
    unfold code condC at e
    obtain ⟨v, hv, hr⟩ := ev_sound h.rf h.gl c
    simp only [hv, onBool_eq] at e
    split at e
    · rename_i t
      have hV := hr.bool
      rw [bi_eq] at e
      cases t with
      | true => exact wpIn_cond_true hV (code_sound hle hrec hmix hrg n c1 D F m a w μ x F' m' Q h hk e hq)
      | false => exact wpIn_cond_false hV (code_sound hle hrec hmix hrg n c2 D F m a w μ x F' m' Q h hk e hq)
    · cases e
  | .block id b, D, F, m, a, w, μ, x, F', m', Q, h, hk, e, hq => by
    unfold code blockC at e
    simp only [onOut_eq, inX_eq] at e
    split at e
    · rename_i x1 F1 m1 h1
      refine wpIn_block (code_sound hle hrec hmix hrg n b D F m a w μ x1 F1 m1 _ h hk h1 fun e1 a1 w1 hs => ?_)
      obtain ⟨D1, μ1, hx, hst, hk1⟩ := hs
      cases hx with
      | norm => cases e; exact hq _ _ _ ⟨D1, μ1, .norm, hst, hk1⟩
      | ret => cases e; exact hq _ _ _ ⟨D1, μ1, .ret, hst, hk1⟩
      | exit id' =>
        simp only [Exit.inBlock]
        simp only at e
        split at e
        · rename_i hid
          rw [if_pos hid]
          cases e; exact hq _ _ _ ⟨D1, μ1, .norm, hst, hk1⟩
        · rename_i hid
          rw [if_neg hid]
          cases e; exact hq _ _ _ ⟨D1, μ1, .exit id', hst, hk1⟩
      | pan v V hv => cases e; exact hq _ _ _ ⟨D1, μ1, .pan v V hv, hst, hk1⟩
    · cases e
  | .loop b, D, F, m, a, w, μ, x, F', m', Q, h, hk, e, hq => by
    unfold code loopC at e
    exact wpIn_loop_rounds n (rounds_sound (rg := rg) hq (fun D F m a w μ x F' m' Q h hk e hq => code_sound hle hrec hmix hrg n b D F m a w μ x F' m' Q h hk e hq) n D F m a w μ h hk e)
  | .exit id, D, F, m, a, w, μ, x, F', m', Q, h, hk, e, hq => by
    cases e
    exact wpIn_exit (hq _ _ _ ⟨D, μ, .exit id, h, hk⟩)
  | .ret, D, F, m, a, w, μ, x, F', m', Q, h, hk, e, hq => by
    cases e
    exact wpIn_ret (hq _ _ _ ⟨D, μ, .ret, h, hk⟩)
  | .rangeFunc g ps as bo, D, F, m, a, w, μ, x, F', m', Q, h, hk, e, hq => by
    unfold code at e
    rw [bi_eq] at e
    split at e
    · rename_i h1
      have := hrg h1
      subst this
      exact rangeFunc_sound (n := n) hrec h hk e hq
    · cases e
  | .scope _, _, _, _, _, _, _, _, _, _, _, _, _, e, _ => by cases e
  | .label _, _, _, _, _, _, _, _, _, _, _, _, _, e, _ => by cases e
  | .goto _, _, _, _, _, _, _, _, _, _, _, _, _, e, _ => by cases e
  | .refuse _, _, _, _, _, _, _, _, _, _, _, _, _, e, _ => by cases e
end
end E
end Go.Proofs.YtcclhfgbkohidaaGreat
namespace Go.Proofs.YtcclhfgbkohidaaGreat
namespace E
section
variable {P : Program} {dp nt : Nat}
theorem look_e (z : Value) : ∀ (dp k : Nat), T.look z dp k .e = z
  | 0, k => rfl
  | dp + 1, k => by
    have : T.kid (k % 4) (.e : T Value) = .e := by
      rcases k % 4 with _ | _ | _ | _ <;> rfl
    show T.look z dp (k / 4) (T.kid (k % 4) .e) = z
    rw [this]
    exact look_e z dp (k / 4)
theorem argsF_ok (hle : nt ≤ 4 ^ dp) {c : T Value → CO} {r : CO} (hno : ∀ j, r ≠ .no j) : ∀ (l : List Value) (k : Nat) (F : T Value), k ≤ nt → argsF dp nt l k F c = r →
    k + l.length ≤ nt ∧ ∃ F1, c F1 = r ∧ ∀ t, t < 4 ^ dp → T.look undef dp t F1 = if k ≤ t then (l[t - k]?).getD (T.look undef dp t F) else T.look undef dp t F
  | [], k, F, hk, e => ⟨by simpa using hk, F, e, fun t _ => by simp⟩
  | v :: l, k, F, hk, e => by
    unfold argsF at e
    rw [bi_eq] at e
    split at e
    · rename_i hlt
      have hlt : k < nt := by simpa [Nat.blt_eq] using hlt
      rw [T.set_eq] at e
      obtain ⟨h1, F1, h2, h3⟩ := argsF_ok hle hno l (k + 1) _ hlt e
      refine ⟨by simp only [List.length_cons]; omega, F1, h2, fun t ht => ?_⟩
      rw [h3 t ht]
      have hk4 := Nat.lt_of_lt_of_le hlt hle
      by_cases htk : t = k
      · subst htk
        rw [if_neg (by omega), if_pos (Nat.le_refl _), T.look_put_same]
        simp
      · rw [T.look_put_other _ _ _ _ _ _ ht hk4 htk]
        by_cases h4 : k + 1 ≤ t
        · rw [if_pos h4, if_pos (by omega), show t - k = t - (k + 1) + 1 by omega, List.getElem?_cons_succ]
        · rw [if_neg h4, if_neg (by omega)]
    · exact absurd e.symm (hno _)
theorem begin_RF {μ : Mu} (hle : nt ≤ 4 ^ dp) {l L : List Value} (h : RL μ l L) (hn : l.length ≤ nt) {F1 : T Value} (hl : ∀ t, t < 4 ^ dp → T.look undef dp t F1 = if 0 ≤ t then (l[t - 0]?).getD (T.look undef dp t .e) else T.look undef dp t .e) :
    RF μ dp nt F1 ((⟨L⟩ : Array Value) ++ Array.replicate (nt - (⟨L⟩ : Array Value).size) Go.undef) := by
  have hLl := h.1
  refine ⟨by simp; omega, hle, fun t ht => ?_⟩
  rw [hl t ht, if_pos (Nat.zero_le _), look_e, Nat.sub_zero]
  cases hv : l[t]? with
  | none =>
    have h1 : l.length ≤ t := List.getElem?_eq_none_iff.1 hv
    have : ((⟨L⟩ : Array Value) ++ Array.replicate (nt - (⟨L⟩ : Array Value).size) Go.undef).getD t Go.undef = Go.undef := by
      rw [Array.getD_eq_getD_getElem?, Array.getElem?_append_right (by simp; omega), Array.getElem?_replicate]
      split <;> rfl
    rw [this]; exact .undef
  | some v =>
    obtain ⟨V, hV, hr⟩ := h.get hv
    have h1 := (List.getElem?_eq_some_iff.1 hV).1
    have : ((⟨L⟩ : Array Value) ++ Array.replicate (nt - (⟨L⟩ : Array Value).size) Go.undef).getD t Go.undef = V := by
      rw [Array.getD_eq_getD_getElem?, Array.getElem?_append_left (by simpa using h1)]
      have : (⟨L⟩ : Array Value)[t]? = some V := by simpa using hV
      rw [this]; rfl
    rw [this]; exact hr
/-! ## results -/
def resVal (Us : Array Value) : Value := if h : Us.size = 1 then Us[0] else .tuple Us
theorem run_results {P : Program} {fn : Func} {tmps : Array Value} {w : World} {Us : List Value}
    (h : (fn.results.toList.mapM (fun x => (match x with
        | .tmp t => pure (tmps.getD t Go.undef)
        | .cell b t => do loadVar t (← asAddr (tmps.getD b Go.undef)) : Sem Value))).run P w = .ok Us w) : (results fn tmps).run P w = .ok (resVal Us.toArray) w := by
  unfold results
  rw [Array.mapM_eq_mapM_toList]
  simp only [Sem.run_bind, Sem.run_map]
  exact congrArg (fun r : Result (List Value) => (r.andThen fun a w' => Result.ok a.toArray w').andThen fun a w' => Sem.run P (pure (if h : a.size = 1 then a[0] else Value.tuple a)) w') h
theorem one_rel {μ : Mu} {vs Us : List Value} (h : RL μ vs Us) : R μ (E.one vs) (resVal Us.toArray) := by
  match vs, Us, h with
  | [], Us, h =>
    have := h.nil_inv; subst this
    exact .mkTup .nil
  | [v], Us, h =>
    obtain ⟨V, l', rfl, h1, h2⟩ := h.cons_inv
    have := h2.nil_inv; subst this
    exact h1
  | v :: v2 :: vs, Us, h =>
    obtain ⟨V, l', rfl, h1, h2⟩ := h.cons_inv
    obtain ⟨V2, l'', rfl, h3, h4⟩ := h2.cons_inv
    have : resVal (V :: V2 :: l'').toArray = .tuple ⟨V :: V2 :: l''⟩ := by unfold resVal; rw [dif_neg (by simp)]
    rw [this]
    exact .mkTup h
theorem resL_sound {μ : Mu} {F : T Value} {m : M} {a : Act} {w : World} (hF : RF μ dp nt F a.tmps) (hG : Gl P μ) (hO : HO μ w m) {r : CO} (hno : ∀ j, r ≠ .no j) : ∀ (rs : List ResultVar) (c : List Value → CO), (resL P dp rs).f F m c = r →
    ∃ vs Us, c vs = r ∧ RL μ vs Us ∧ (rs.mapM (fun x => (match x with
        | .tmp t => pure (a.tmps.getD t Go.undef)
        | .cell b t => do loadVar t (← asAddr (a.tmps.getD b Go.undef)) : Sem Value))).run P w = .ok Us w
  | [], c, e => ⟨[], [], e, .nil, rfl⟩
  | x :: rs, c, e => by
    unfold resL at e
    simp only [onQV_eq] at e
    split at e
    · rename_i v hv
      obtain ⟨vs, Us, e1, e2, e3⟩ := resL_sound hF hG hO hno rs _ e
      have hx : ∃ V, (match x with
          | .tmp t => pure (a.tmps.getD t Go.undef)
          | .cell b t => do loadVar t (← asAddr (a.tmps.getD b Go.undef)) : Sem Value).run P w = .ok V w ∧ R μ v V := by
        unfold resV at hv
        cases x with
        | tmp t =>
          obtain ⟨u, hu, hr⟩ := ev_sound hF hG (.tmp t)
          simp only [hu] at hv
          cases hv
          exact ⟨_, rfl, hr⟩
        | cell b t =>
          obtain ⟨u, hu, hr⟩ := ev_sound hF hG (.tmp b)
          simp only [hu, onPtr_eq] at hv
          split at hv
          · rename_i ad
            obtain ⟨_, y, hy, hV⟩ := hr.ptrI
            obtain ⟨V, h1, h2⟩ := ld_sound (P := P) (w := w) hv (hO _ _ hy) hy
            refine ⟨V, ?_, h2⟩
            have hV' : a.tmps.getD b Go.undef = .pointer (some ⟨y.b, y.o + ad.off, none⟩) := hV
            simp only [hV', asAddr, Sem.run_bind, Sem.run_pure, Result.andThen_ok]
            exact h1
          · cases hv
      obtain ⟨V, hV, hr⟩ := hx
      refine ⟨v :: vs, V :: Us, e1, .cons hr e2, ?_⟩
      rw [List.mapM_cons, Sem.run_bind, hV, Result.andThen_ok, Sem.run_bind, e3, Result.andThen_ok]; rfl
    · exact absurd e.symm (hno _)
def NE (P : Program) (ne : Nat) : Prop := ∀ fn, P.funcs[ne]? = some fn → fn.body = none → (fn.name == "runtime.NumGoroutine") = false ∧ Extern.findNext fn = none ∧ Extern.find fn = some Extern.AbiNoEscape.same
theorem dpOf_le {n : Nat} (h : n ≤ 1024) : n ≤ 4 ^ dpOf n := by
  unfold dpOf
  simp only [bi_eq]
  split
  · rename_i h1; exact Nat.le_of_ble_eq_true h1
  · split
    · rename_i h1; exact Nat.le_of_ble_eq_true h1
    · exact h
/-! ## leaving, the marks and all -/
theorem takeDef {P : Program} {w : World} {r : Nat} (h : w.heap[r]? = some (.deferred (some []))) : (Instr.takeDeferred r).run P w = .ok [] { w with heap := w.heap.setIfInBounds r (.deferred none) } := by
  simp [Instr.takeDeferred, getObj, setObj, Sem.run, h]
theorem leaves_marks {P : Program} {fn : Func} {tmps : Array Value} {R : Ending → World → Prop} {μ0 μ : Mu} {m0 m : M} {w0 : World} {u : FrameMode} (hu : u ≠ .run) (K : ∀ w', Hp P μ m w' → Gn μ0 m0 w0 μ m w' → LeavesIn (FW none) 0 P fn tmps R [] u w') :
    ∀ (D : List Deferred) (w : World), Mk w0 μ m w D → Hp P μ m w → Gn μ0 m0 w0 μ m w → LeavesInM (FW none) 0 P fn tmps R D u w
  | [], w, _, hp, gn => K w hp gn
  | d :: ds, w, ⟨⟨r, h1, h2, h3, h4, h5, h6⟩, hk⟩, hp, gn => by
    have hb : ∀ b, b ≠ r → (w.heap.setIfInBounds r (.deferred none))[b]? = w.heap[b]? := fun b hb => by rw [set_at h4, if_neg hb]
    refine ⟨hu, .inl ⟨r, _, by rw [h1]; rfl, takeDef h4, ?_⟩⟩
    refine leaves_marks hu K ds _ ?_ (hp.aside h5 (by simp) hb) ⟨gn.ext, gn.next, by simpa using gn.size, fun b hlt hn => ?_, gn.own, gn.out, gn.old⟩
    · clear gn
      have key : ∀ l : List Deferred, Mk w0 μ m w l → (∀ d' ∈ l, d' ≠ d) → Mk w0 μ m { w with heap := w.heap.setIfInBounds r (.deferred none) } l := by
        intro l
        induction l with
        | nil => intro _ _; trivial
        | cons e l ih =>
          rintro ⟨⟨r', k1, k2, k3, k4, k5, k6⟩, k⟩ hne
          refine ⟨⟨r', k1, k2, by simpa using k3, ?_, k5, k6⟩, ih k fun d' hd => hne d' (List.mem_cons_of_mem _ hd)⟩
          show (w.heap.setIfInBounds r (.deferred none))[r']? = _
          rw [hb r' fun e' => hne e List.mem_cons_self (by rw [k1, h1, e'])]
          exact k4
      exact key ds hk h6
    · show (w.heap.setIfInBounds r (.deferred none))[b]? = _
      rw [hb b (by omega)]
      exact gn.rest b hlt hn
/-! ## rounds -/
theorem prm_ok {μ : Mu} {c : T Value → CO} {r : CO} (hno : ∀ j, r ≠ .no j) : ∀ (ps : List Tmp) (l L : List Value) (F : T Value) (ts : Array Value), RL μ l L → RF μ dp nt F ts → prmF dp nt ps l F c = r →
    ps.length = L.length ∧ ∃ F1, c F1 = r ∧ RF μ dp nt F1 ((ps.zip L).foldl (fun tmps x => tmps.setIfInBounds x.1 x.2) ts)
  | [], l, L, F, ts, hl, hF, e => by
    unfold prmF at e
    rw [cL_eq] at e
    cases l with
    | nil => have := hl.nil_inv; subst this; exact ⟨rfl, F, e, hF⟩
    | cons v l => exact absurd e.symm (hno _)
  | p :: ps, l, L, F, ts, hl, hF, e => by
    unfold prmF at e
    rw [cL_eq] at e
    cases l with
    | nil => exact absurd e.symm (hno _)
    | cons v l =>
      obtain ⟨V, L', rfl, h1, h2⟩ := hl.cons_inv
      obtain ⟨F1, k1, k2⟩ := RF.put (a := { tmps := ts, defers := [] }) hF h1 (some p) (fun F => prmF dp nt ps l F c)
      simp only at e
      rw [k1] at e
      obtain ⟨q1, F2, q2, q3⟩ := prm_ok hno ps l L' F1 _ h2 k2 e
      exact ⟨by simp [q1], F2, q2, q3⟩
theorem yield_run {P : Program} {w : World} {b : Nat} {r : Loop} {L : List Value} (h : w.heap[b]? = some (.loop r)) (hs : r.params.toList.length = L.length) :
    (Instr.yield b ⟨L⟩).run P w = .ok (.round b r.fn ((r.params.toList.zip L).foldl (fun tmps x => tmps.setIfInBounds x.1 x.2) r.tmps) r.assign r.body) w := by
  have hs' : ¬ ((⟨L⟩ : Array Value).size ≠ r.params.size) := by
    have : r.params.size = L.length := by rw [← hs]; simp
    simp [this]
  simp only [Instr.yield, Sem.run_bind, run_getLoop h, Result.andThen_ok, hs', if_false, Sem.run_pure]
  congr 2
  rw [← Array.foldl_toList, Array.toList_zip]
theorem round_sound {P : Program} {rec : Rec} (hrec : RecSound P rec) (hmix : P.follows .mixedOrders = true) {n j : Nat} {l L : List Value} {m : M} {r : CO} (e : rnd P rec n j l m = r) (hno : ∀ k, r ≠ .no k) {μ : Mu} {w : World} (hp : Hp P μ m w) (hg : Gl P μ) (hL : RL μ l L) :
    TgOk P (.yd j) m r μ w L := by
  intro x hx
  unfold rnd at e
  rw [M.get_eq, onLoop_eq] at e
  split at e
  case h_2 => exact absurd e.symm (hno _)
  rename_i F dp nt ps as bo st pend hat
  rw [bi_eq] at e
  split at e
  case isFalse => exact absurd e.symm (hno _)
  have ho := hp.obj j x hx
  rw [hat] at ho
  obtain ⟨y, rr, o1, o2, o3, o4, o5, o6, o7⟩ := ho
  rw [hx] at o1; cases o1
  obtain ⟨q1, F1, q2, q3⟩ := prm_ok hno ps l L F rr.tmps hL o6 e
  subst o3; subst o4; subst o5
  refine ⟨rr.fn, _, rr.assign, rr.body, yield_run o2 q1, ?_⟩
  refine roundIn_of_wpIn trivial ?_
  rw [onOut_eq] at q2
  split at q2
  case h_2 => exact absurd q2.symm (hno _)
  rename_i x1 F2 m2 hc
  refine code_sound (ro := some x.b) (rg := false) (μ0 := μ) (m0 := m) (w0 := w) q3.le hrec hmix (fun h => by cases h) n rr.assign [] F1 m _ w μ x1 F2 m2 _ ⟨hp, .refl _ _ _, hg, q3, rfl⟩ trivial hc fun e1 a1 w1 hs => ?_
  obtain ⟨D1, μ1, hx1, st1, hk1⟩ := hs
  rw [onX_eq] at q2
  cases hx1 with
  | norm =>
    simp only at q2
    rw [M.get_eq, onLoop_eq] at q2
    split at q2
    case h_2 => exact absurd q2.symm (hno _)
    rename_i F3 dp3 nt3 ps3 as3 bo3 st3 pend3 hat3
    rw [bi_eq] at q2
    split at q2
    case isFalse => exact absurd q2.symm (hno _)
    rename_i hst3
    have hst3 : st3 = 0 := Nat.eq_of_beq_eq_true hst3
    subst hst3
    rw [M.put_eq, onOut_eq] at q2
    have hx1 : μ1 j = some x := st1.gn.ext _ _ hx
    have ho := st1.hp.obj j x hx1
    rw [hat3] at ho
    obtain ⟨y, r3, p1, p2, p3, p4, p5, p6, p7⟩ := ho
    rw [hx1] at p1; cases p1
    obtain ⟨t1, t2, t3⟩ := st1.hp.loop hx1 (by rw [hat3]; rfl) (r' := { r3 with state := .busy }) p2 (o := .loop F3 dp3 nt3 ps3 as3 bo3 2 .norm) (fun w' h => ⟨x, _, hx1, h, p3, p4, p5, p6, trivial⟩) rfl
    have hbr : (Instr.beginRound x.b).run P w1 = .ok () { w1 with heap := w1.heap.setIfInBounds x.b (.loop { r3 with state := .busy }) } := by
      simp only [Instr.beginRound, Sem.run_bind, run_getLoop p2, Result.andThen_ok, t1, p7.1]
      rfl
    refine ⟨_, hbr, ?_⟩
    generalize ({ w1 with heap := w1.heap.setIfInBounds x.b (.loop { r3 with state := .busy }) } : World) = w2 at t1 t2 t3 hbr
    split at q2
    case h_2 => exact absurd q2.symm (hno _)
    rename_i x4 F4 m4 hc4
    refine code_sound (ro := some x.b) (rg := false) (μ0 := μ) (m0 := m) (w0 := w) q3.le hrec hmix (fun h => by cases h) n rr.body D1 F2 _ a1 w2 μ1 x4 F4 m4 _ ⟨t2, st1.gn.trans t3, st1.gl, st1.rf, st1.df⟩ (hk1.step t3) hc4 fun e4 a4 w4 hs => ?_
    obtain ⟨D4, μ4, hx4, st4, hk4⟩ := hs
    rw [M.get_eq, onLoop_eq] at q2
    split at q2
    case h_2 => exact absurd q2.symm (hno _)
    rename_i F5 dp5 nt5 ps5 as5 bo5 st5 pend5 hat5
    have hx5 : μ4 j = some x := st4.gn.ext _ _ hx
    have ho := st4.hp.obj j x hx5
    rw [hat5] at ho
    obtain ⟨y, r5, u1, u2, u3, u4, u5, u6, u7⟩ := ho
    rw [hx5] at u1; cases u1
    rw [endX_eq] at q2
    have fin : ∀ (jump : Option Code) (o : O), (∀ w' : World, w'.heap[x.b]? = some (.loop { r5 with state := if jump.isNone then .ready else .done, pending := jump }) → OR μ4 w' j o) → rootO P o = false → r = .ret (yes jump.isNone) (m4.setA j o) →
        ∃ v w', (Instr.endRound x.b jump).run P w4 = .ok v w' ∧ Fin P μ m w r (.returned v) w' := by
      intro jump o ho1 ho2 hr
      obtain ⟨z1, z2, z3⟩ := st4.hp.loop hx5 (by rw [hat5]; rfl) (r' := { r5 with state := if jump.isNone then .ready else .done, pending := jump }) u2 (o := o) ho1 ho2
      refine ⟨.bool jump.isNone, { w4 with heap := w4.heap.setIfInBounds x.b (.loop { r5 with state := if jump.isNone then .ready else .done, pending := jump }) }, ?_, ?_⟩
      · simp only [Instr.endRound, Sem.run_bind, run_getLoop u2, Result.andThen_ok, z1, Sem.run_pure]
      · subst hr
        exact ⟨μ4, .sc _ rfl, z2, st4.gn.trans z3⟩
    cases hx4 with
    | norm =>
      simp only [M.put_eq] at q2
      exact fin none (.loop F5 dp5 nt5 ps5 as5 bo5 0 .norm) (fun w' h => ⟨x, _, hx5, h, u3, u4, u5, u6, rfl, rfl, rfl⟩) rfl q2.symm
    | ret =>
      simp only [M.put_eq] at q2
      exact fin (some .ret) (.loop F5 dp5 nt5 ps5 as5 bo5 1 .ret) (fun w' h => ⟨x, _, hx5, h, u3, u4, u5, u6, rfl, .inl ⟨rfl, rfl⟩⟩) rfl q2.symm
    | exit id =>
      simp only [M.put_eq] at q2
      exact fin (some (.exit id)) (.loop F5 dp5 nt5 ps5 as5 bo5 1 (.exit id)) (fun w' h => ⟨x, _, hx5, h, u3, u4, u5, u6, rfl, .inr ⟨id, rfl, rfl⟩⟩) rfl q2.symm
    | pan v V hv => exact absurd q2.symm (hno _)
  | ret => exact absurd q2.symm (hno _)
  | exit id => exact absurd q2.symm (hno _)
  | pan v V hv => exact absurd q2.symm (hno _)
theorem call_sound {ne : Nat} (hne : NE P ne) (hmix : P.follows .mixedOrders = true) (hnum : ∀ (f : Nat) (fn : Func), P.funcs[f]? = some fn → (fn.name == "runtime.NumGoroutine") = false) : ∀ n, RecSound P (call P ne n)
  | 0 => fun f l m r e hno => absurd e.symm (hno _)
  | n + 1 => by
    have hrec := call_sound hne hmix hnum n
    intro t l m r e hno μ w L hp hg hL
    have e : onTg t (fun f => (func P ne f).f (call P ne n) n l m) (fun j => rnd P (call P ne n) n j l m) = r := e
    rw [onTg_eq] at e
    cases t with
    | yd j => exact round_sound hrec hmix e hno hp hg hL
    | fn f =>
    simp only at e
    show (∃ fn, _) ∨ _
    unfold func at e
    split at e
    · exact absurd e.symm (hno _)
    · rename_i fn hf
      split at e
      · rename_i hb
        rw [bi_eq] at e
        split at e
        · rename_i hfe
          have hfe : f = ne := Nat.eq_of_beq_eq_true hfe
          subst hfe
          cases l with
          | nil => exact absurd e.symm (hno _)
          | cons v t =>
            cases t with
            | cons v2 t => exact absurd e.symm (hno _)
            | nil =>
              obtain ⟨V, L', rfl, h1, h2⟩ := hL.cons_inv
              have := h2.nil_inv; subst this
              obtain ⟨k1, k2, k3⟩ := hne fn hf hb
              refine .inr ⟨v, V, ?_, h1, e.symm, fun fn' hf' => by rw [hf] at hf'; cases hf'; exact hb⟩
              have hbn : fn.body.isNone = true := by rw [hb]; rfl
              simp only [callFunc, program, bind, Sem.bind, Sem.run, hf, k1, hbn, k2, k3, mark, Bool.false_eq_true, if_false, if_true]
              rfl
        · exact absurd e.symm (hno _)
      · rename_i c hb
        rw [bi_eq] at e
        split at e
        · exact absurd e.symm (hno _)
        · rename_i hnt
          have hnt : fn.ntmps ≤ 1024 := by
            rw [notB_eq] at hnt
            exact Nat.le_of_ble_eq_true (by simpa using hnt)
          have hle := dpOf_le hnt
          obtain ⟨h1, F1, h2, h3⟩ := argsF_ok hle hno l 0 .e (Nat.zero_le _) e
          have hrf := begin_RF hle hL (by omega) h3
          refine .inl ⟨fn, hf, by rw [hb]; rfl, hnum f fn hf, ?_⟩
          rw [onOut_eq] at h2
          split at h2
          · rename_i x F m1 hc
            refine callsIn_wide.1 (callsIn_of_wp_marks (F := FW none) (n := 0) hf hb trivial (code_sound (ro := none) (rg := true) (μ0 := μ) (m0 := m) (w0 := w) hle hrec hmix (fun _ => rfl) n c [] F1 m _ w μ x F m1 _ ⟨hp, .refl _ _ _, hg, hrf, rfl⟩ trivial hc fun e1 a1 w1 hs => ?_))
            obtain ⟨D1, μ1, hx, hst, hk1⟩ := hs
            have normal : (resL P (dpOf fn.ntmps) fn.results.toList).f F m1 (fun vs => CO.ret (E.one vs) m1) = r → LeavesInM (FW none) 0 P fn a1.tmps (Fin P μ m w r) a1.defers .returning w1 := by
              intro e
              rw [hst.df]
              refine leaves_marks (by simp) (fun w' hp' gn' => ?_) D1 w1 hk1 hst.hp hst.gn
              obtain ⟨vs, Us, e1, e2, e3⟩ := resL_sound hst.rf hst.gl hp'.obj hno fn.results.toList _ e
              subst e1
              exact ⟨_, run_results e3, μ1, one_rel e2, hp', gn'⟩
            cases hx with
            | norm => exact normal h2
            | ret => exact normal h2
            | exit id => exact absurd h2.symm (hno _)
            | pan v V hv =>
              have h2 : CO.pan v m1 = r := h2
              subst h2
              show LeavesInM (FW none) 0 P fn a1.tmps _ a1.defers (.panicking _) w1
              rw [hst.df]
              refine leaves_marks (by simp) (fun w' hp' gn' => ?_) D1 w1 hk1 hst.hp hst.gn
              exact ⟨V, μ1, rfl, hv, hp', gn'⟩
          · exact absurd h2.symm (hno _)
end
end E
end Go.Proofs.YtcclhfgbkohidaaGreat
namespace Go.Proofs.YtcclhfgbkohidaaGreat
namespace E
open Go.ChangeShapes Go.WideShapes Go.ChangeAt Go.RowKit
/-! # a law without arguments -/
noncomputable def isTrue (r : CO) : Bool := onCO r (fun v _ => onBool v (fun b => b) false) (fun _ _ => false) (fun _ => false)
theorem isTrue_ok {r : CO} (h : isTrue r = true) : ∃ m, r = .ret (.bool true) m := by
  unfold isTrue at h
  rw [onCO_eq] at h
  split at h
  · rename_i v m
    rw [onBool_eq] at h
    split at h
    · subst h; exact ⟨m, rfl⟩
    · cases h
  · cases h
  · cases h
theorem Hp.start (P : Program) (w : World) : Hp P (fun _ => none) (.mk 0 .e) w :=
  ⟨fun i x e => (by cases e), fun _ _ => rfl, Nat.zero_le _, fun i x e => (by cases e), fun i x e => (by cases e), fun i j x y _ _ _ e => (by cases e)⟩
theorem closed_calls {P : Program} {ne n f : Nat} (h : isTrue (call P ne n (.fn f) [] (.mk 0 .e)) = true) (hne : NE P ne) (hmix : P.follows .mixedOrders = true) (hnum : (P.funcs.toList.all fun fn => !(fn.name == "runtime.NumGoroutine")) = true)
    {fn : Func} (hf : P.funcs[f]? = some fn) (hb : fn.body.isSome = true) (w : World) : Calls P f #[] w fun en w' => en = .returned (.bool true) ∧ w.heap.size ≤ w'.heap.size ∧ (∀ b, b < w.heap.size → w'.heap[b]? = w.heap[b]?) ∧ w'.os = w.os ∧ w'.output = w.output := by
  have hnum' : ∀ (f : Nat) (fn : Func), P.funcs[f]? = some fn → (fn.name == "runtime.NumGoroutine") = false := by
    intro f fn hf
    have := (List.all_eq_true.1 hnum) fn (List.mem_of_getElem? (by rw [Array.getElem?_toList]; exact hf))
    simpa using this
  obtain ⟨m, hr⟩ := isTrue_ok h
  rcases call_sound hne hmix hnum' n (.fn f) [] (.mk 0 .e) _ hr (by intro k h; cases h) (fun _ => none) w [] (Hp.start P w) ⟨rfl, rfl⟩ .nil with ⟨fn', h1, h2, h3, h4⟩ | ⟨v, V, h1, _, _⟩
  · refine Calls.mono h4 fun en w' hfin => ?_
    cases en with
    | returned V =>
      obtain ⟨μ', hv, hp, hg⟩ := hfin
      rw [hv.bool]
      exact ⟨rfl, hg.size, fun b hb => hg.rest b hb fun i x _ e => (by cases e), hg.out⟩
    | _ => exact hfin.elim
  · exfalso
    rw [run_callFunc hf hb (hnum' f fn hf)] at h1
    cases h1
theorem kept_of {w w' : World} (h1 : w'.os = w.os) (h2 : w'.output = w.output) (h : ∀ b, b < w.heap.size → w'.heap[b]? = w.heap[b]?) (may : MemPlace → Prop) : w.keptBut w' may := by
  refine ⟨h1, h2, fun i hi => ?_⟩
  rw [h i hi]
  cases w.heap[i]? with
  | none => rfl
  | some o => cases o <;> simp
theorem post_same {H : Type} {enc : TypeId × Value → H} {P : Program} {f : Func} {s : ChangeSpec} {apart fresh handsOn again : Bool} {W W' : World} {args : Array Value} {v : Value} {ds gs : List (DataW H)} {before pa pv : List MemPlace}
    (hW : DataW.Whole enc P f.params.toList s.vars apart W args.toList ds gs before)
    (hres : ∀ (b : Nat) (sp : Nat → Bool) (hd : Bool), DataW.TrodAll enc P W' b sp hd f.resultTypes.toList (v.resultList f.resultTypes.size) (s.fn H (ds ++ gs)).results [])
    (hargs : ∀ sp : Nat → Bool, (∀ p ∈ before, sp p.block = true) → DataW.TrodAll enc P W' 0 sp true f.params.toList args.toList (s.fn H (ds ++ gs)).args pa)
    (hvars : ∀ sp : Nat → Bool, (∀ p ∈ before, sp p.block = true) → DataW.TrodVars enc P W' sp s.vars (s.fn H (ds ++ gs)).vars pv)
    (hps : before = pa ++ pv) (hk : W.keptBut W' (· ∈ before)) (hfz : ∀ a : Addr, a.block < W.heap.size → W'.frozen? a = W.frozen? a)
    (hok : ∀ (j : Nat) (t : TypeId) (r : Value), f.resultTypes[j]? = some t → (v.resultList f.resultTypes.size)[j]? = some r → Value.okWide P W' .any 0 t r) :
    s.post enc P f apart fresh handsOn again W args v W' := by
  have hold : ∀ p ∈ before, (fun b => decide (b < W.heap.size)) p.block = true := fun p hp => by simpa using hW.lt p hp
  have hlt : ∀ p ∈ before, p.block < W.heap.size := fun p hp => by simpa using hW.lt p hp
  refine ⟨ds, gs, before, [], pa, pv, hW, hres _ _ _, hargs _ hold, hvars _ hold, World.keptBut_mono (fun p hp => ⟨hp, ?_⟩) hk, fun _ => ?_⟩
  · rw [hps, List.mem_append] at hp
    exact Or.inr hp
  · obtain ⟨_, _, _, _, _, hz, hn⟩ := hW
    refine ⟨hok, _, _, ([] ++ pa) ++ pv, ⟨[] ++ pa, pv, ChangeShapes.trodAll_append (hargs _ (fun _ _ => rfl)) (hres _ _ _), hvars _ (fun _ _ => rfl), rfl, ?_, ?_⟩, ?_⟩
    · intro b off hp
      have hb : MemPlace.cell b off ∈ before := by rw [hps]; simpa using hp
      rw [hfz _ (hlt _ hb)]
      exact hz b off hb
    · intro ha
      have := hn ha
      rw [hps] at this
      simpa using this
    · intro p hp _
      rw [hps]
      simpa using hp

/-- A LAW's CONTRACT: the answer is true. -/
theorem closed_post {H : Type} {enc : TypeId × Value → H} {P : Program} {fn : Func} {s : ChangeSpec} {w w' : World} {ds gs : List (DataW H)} {before : List MemPlace} (hp : fn.params.toList = []) (hvars : s.vars = [])
    (hspec : s.fn H [] = { results := [.lit (.bool true)], args := [] }) (hres : ∃ t, fn.resultTypes = #[t] ∧ P.underlying t = some .bool) (hW : DataW.Whole enc P fn.params.toList s.vars false w [] ds gs before)
    (h1 : w'.os = w.os) (h2 : w'.output = w.output) (h : ∀ b, b < w.heap.size → w'.heap[b]? = w.heap[b]?) : s.post enc P fn false true false false w #[] (.bool true) w' := by
  have hW' := hW
  obtain ⟨p, q, hA, hV, rfl, hfz, hnd⟩ := hW
  rw [hvars] at hV
  obtain ⟨rfl, rfl⟩ := trodVars_none hV
  rw [hp] at hA
  obtain ⟨_, rfl, rfl⟩ := trodAll_nil hA
  obtain ⟨t, hrt, hub⟩ := hres
  have hfz' : ∀ a : Addr, a.block < w.heap.size → w'.frozen? a = w.frozen? a := fun a ha => by simp [World.frozen?, h a.block ha]
  refine post_same (pa := []) (pv := []) (before := []) (ds := []) (gs := []) (by simpa using hW') (fun b sp hd => ?_) (fun sp hsp => ?_) (fun sp hsp => ?_) rfl (kept_of h1 h2 h _) hfz' (ok_one hrt rfl (okWide_bool_mk hub _))
  · rw [List.append_nil, hspec, hrt]
    exact trodAll_cons_mk (shut_bool hub _) trodAll_mk0
  · rw [List.append_nil, hspec, hp]
    exact trodAll_mk0
  · rw [hvars, List.append_nil, hspec]
    rfl
end E
end Go.Proofs.YtcclhfgbkohidaaGreat
