/-
  Code with sharing: no instruction is there twice, and there are no more of them than without; inputs and constants are as many.
-/
import Derived.Test.YtebmcaceklbopaaM11
set_option linter.unusedVariables false
set_option linter.unusedSimpArgs false
namespace Go.Proofs.Ytebmcaceklbopaa
namespace Ab

def key3 (x : Ins4) : Int × Int × Int := (x.op, x.a, x.b)
def ND (L : List Ins4) : Prop := (L.map key3).Nodup
theorem fi_none {α : Type} (p : α → Bool) : ∀ (l : List α) (i : Nat), fi p l i = none → ∀ x ∈ l, p x = false
  | [], _, _ => by simp
  | y :: l, i, h => by
    simp only [fi] at h
    split at h
    · cases h
    · rename_i hp
      intro x hx
      rcases List.mem_cons.1 hx with rfl | hx
      · simpa using hp
      · exact fi_none p l (i + 1) h x hx
theorem putR_nd {sh : Bool} (hs : sh = true) (op a b : Int) {L : List Ins4} (h : ND L) : ND (putR sh op a b L).2 := by
  unfold putR
  split
  · exact h
  · rename_i hf
    have hn := fi_none _ _ _ hf
    unfold ND at *
    rw [List.map_append, List.nodup_append]
    refine ⟨h, by simp, ?_⟩
    intro k hk k' hk' e
    simp only [List.map_cons, List.map_nil, List.mem_singleton] at hk'
    subst hk'; subst e
    obtain ⟨x, hx, hxe⟩ := List.mem_map.1 hk
    have := hn x hx
    simp only [key3, Prod.mk.injEq] at hxe
    simp [hs, same3, hxe] at this
theorem nodeR_nd {sh : Bool} (hs : sh = true) (n : Nd) (s : SR) : ND s.L → ND (nodeR sh n s).2.L := by
  fun_induction nodeR sh n s
  · exact fun h => h
  · exact fun h => putR_nd hs _ _ _ h
  · exact fun h => putR_nd hs _ _ _ h
  · exact fun h => h
  · rename_i ih
    exact fun h => putR_nd hs _ _ _ (ih h)
  · exact fun h => h
  · rename_i ih1 ih2
    exact fun h => putR_nd hs _ _ _ (ih2 (ih1 h))
  · exact fun h => h
theorem goR_nd {sh : Bool} (hs : sh = true) : ∀ (l : List Nd) (i : Nat) (a : Int) (s : SR), ND s.L → ND (goR sh l i a s).2.L
  | [], _, _, _, h => h
  | n :: l, i, a, s, h => by
    have h1 := nodeR_nd hs n s h
    simp only [goR]
    split
    · exact goR_nd hs l _ _ _ h1
    · exact goR_nd hs l _ _ _ (putR_nd hs _ _ _ h1)

theorem putR_app {sh : Bool} (hs : sh = false) (op a b : Int) (L : List Ins4) : (putR sh op a b L).2 = L ++ [⟨op, L.length, a, b⟩] := by
  unfold putR
  rw [hs]
  have := fi_no (same3 op a b) L 0
  rw [this]
theorem right_args {op kind vk vb pos attr : Int} {args : List Nd} (h : rightB (.mk op kind args vk vb pos attr) = true) : args.length ≤ 2 ∧ rightBs args = true := by
  by_cases h0 : args = []
  · subst h0; exact ⟨by simp, rfl⟩
  · rw [rightB_node (n := .mk op kind args vk vb pos attr) h0] at h
    simp only [Nd.args, Nd.op, Bool.and_eq_true, beq_iff_eq] at h
    have := nOps_cases op
    exact ⟨by omega, h.2⟩
/-- without sharing there is an instruction for each node. -/
theorem nodeR_all {sh : Bool} (hs : sh = false) (n : Nd) (s : SR) : rightB n = true → (nodeR sh n s).2.L.length ≤ 3000 → (nodeR sh n s).2.L.length = s.L.length + cnt n := by
  fun_induction nodeR sh n s
  · intro _ h; simp only at h; omega
  · intro _ h; simp [putRR, putR_app hs, cnt, cnts]
  · intro _ h; simp [putRR, putR_app hs, cnt, cnts]
  · intro _ h; simp only at h; omega
  · rename_i op _ x _ _ _ _ s _ ih
    intro hr h
    have hr2 := (right_args hr).2
    simp only [rightBs, Bool.and_true] at hr2
    simp only [putRR, putR_app hs, List.length_append, List.length_singleton] at h ⊢
    have := ih hr2 (by omega)
    simp only [cnt, cnts]; omega
  · intro _ h; simp only at h; omega
  · rename_i op _ x y _ _ _ _ s _ ih1 ih2
    intro hr h
    have hr2 := (right_args hr).2
    simp only [rightBs, Bool.and_true, Bool.and_eq_true] at hr2
    simp only [putRR, putR_app hs, List.length_append, List.length_singleton] at h ⊢
    have hle := (nodeR_bd sh y (nodeR sh x s).2).le
    have h2 := ih2 hr2.2 (by omega)
    have h1 := ih1 hr2.1 (by omega)
    simp only [cnt, cnts]; omega
  · intro hr _
    have := (right_args hr).1
    simp at this
def sofar (l : List Nd) (i : Nat) : Nat := if i = 0 then cnts l + l.length - 1 else cnts l + l.length
theorem goR_all {sh : Bool} (hs : sh = false) : ∀ (l : List Nd) (i : Nat) (a : Int) (s : SR), rightBs l = true → (goR sh l i a s).2.L.length ≤ 3000 → (goR sh l i a s).2.L.length = s.L.length + sofar l i
  | [], i, _, s, _, _ => by simp [goR, sofar, cnts]
  | n :: l, i, a, s, hr, h => by
    simp only [rightBs, Bool.and_eq_true] at hr
    simp only [goR] at h ⊢
    by_cases hi : i = 0
    · rw [if_pos hi] at h ⊢
      have hle := (goR_bd sh l 1 (nodeR sh n s).1 (nodeR sh n s).2).le
      have h1 := nodeR_all hs n s hr.1 (by omega)
      have h2 := goR_all hs l 1 _ _ hr.2 h
      rw [h2, h1, hi]
      have : 1 ≤ cnt n := by cases n; simp [cnt]
      simp only [sofar, cnts, List.length_cons]; simp only [if_pos, Nat.one_ne_zero, if_false]; omega
    · rw [if_neg hi] at h ⊢
      have hle := (goR_bd sh l (i + 1) (putRR sh 13 a (nodeR sh n s).1 (nodeR sh n s).2).1 (putRR sh 13 a (nodeR sh n s).1 (nodeR sh n s).2).2).le
      have hp : (putRR sh 13 a (nodeR sh n s).1 (nodeR sh n s).2).2.L.length = (nodeR sh n s).2.L.length + 1 := by simp [putRR, putR_app hs]
      have h1 := nodeR_all hs n s hr.1 (by omega)
      have h2 := goR_all hs l (i + 1) _ _ hr.2 h
      rw [h2, hp, h1]
      simp only [sofar, cnts, List.length_cons, if_neg hi, if_neg (Nat.succ_ne_zero i)]; omega
theorem goR_most (sh : Bool) : ∀ (l : List Nd) (i : Nat) (a : Int) (s : SR), (goR sh l i a s).2.L.length ≤ s.L.length + sofar l i
  | [], i, _, s => by simp [goR, sofar, cnts]
  | n :: l, i, a, s => by
    simp only [goR]
    have h1 := (nodeR_bd sh n s).L
    by_cases hi : i = 0
    · rw [if_pos hi, hi]
      have h2 := goR_most sh l 1 (nodeR sh n s).1 (nodeR sh n s).2
      have : 1 ≤ cnt n := by cases n; simp [cnt]
      simp only [sofar, cnts, List.length_cons] at h2 ⊢; simp only [if_pos, Nat.one_ne_zero, if_false] at h2 ⊢; omega
    · rw [if_neg hi]
      have h2 := goR_most sh l (i + 1) (putRR sh 13 a (nodeR sh n s).1 (nodeR sh n s).2).1 (putRR sh 13 a (nodeR sh n s).1 (nodeR sh n s).2).2
      have h3 := (putRR_bd sh 13 a (nodeR sh n s).1 (nodeR sh n s).2).L
      simp only [sofar, cnts, List.length_cons, if_neg hi, if_neg (Nat.succ_ne_zero i)] at h2 ⊢; omega

/-! inputs and constants -/
def lvI : Nd → List In4
  | .mk op kind [] _ _ pos attr => if op = 40 then [] else [⟨op, kind, pos, attr⟩]
  | .mk _ _ [x] _ _ _ _ => lvI x
  | .mk _ _ [x, y] _ _ _ _ => lvI x ++ lvI y
  | .mk _ _ (_ :: _ :: _ :: _) _ _ _ _ => []
def lvC : Nd → List Vl
  | .mk op _ [] vk vb _ _ => if op = 40 then [⟨vk, vb⟩] else []
  | .mk _ _ [x] _ _ _ _ => lvC x
  | .mk _ _ [x, y] _ _ _ _ => lvC x ++ lvC y
  | .mk _ _ (_ :: _ :: _ :: _) _ _ _ _ => []
def plcs {α : Type} [DecidableEq α] (xs : List α) (l : List α) : List α := xs.foldl (fun l x => (plc x l).2) l
theorem plcs_app {α : Type} [DecidableEq α] (xs ys l : List α) : plcs (xs ++ ys) l = plcs ys (plcs xs l) := by simp [plcs]
theorem nodeR_ic (sh : Bool) (n : Nd) (s : SR) : (nodeR sh n s).2.L.length ≤ 3000 → (nodeR sh n s).2.I = plcs (lvI n) s.I ∧ (nodeR sh n s).2.C = plcs (lvC n) s.C := by
  fun_induction nodeR sh n s
  · intro h; simp only at h; omega
  · intro h; simp [putRR, lvI, lvC, plcs]
  · rename_i h40
    intro h; simp [putRR, lvI, lvC, plcs, h40]
  · intro h; simp only at h; omega
  · rename_i op _ x _ _ _ _ s _ ih
    intro h
    have hp := (putR_len sh op (nodeR sh x s).1 0 (nodeR sh x s).2.L).2
    simp only [putRR] at h ⊢
    have := ih (by omega)
    simpa only [lvI, lvC] using this
  · intro h; simp only at h; omega
  · rename_i op _ x y _ _ _ _ s _ ih1 ih2
    intro h
    have hp := (putR_len sh op (nodeR sh x s).1 (nodeR sh y (nodeR sh x s).2).1 (nodeR sh y (nodeR sh x s).2).2.L).2
    simp only [putRR] at h ⊢
    have hle := (nodeR_bd sh y (nodeR sh x s).2).le
    have h2 := ih2 (by omega)
    have h1 := ih1 (by omega)
    simp only [lvI, lvC, plcs_app]
    rw [h2.1, h2.2, h1.1, h1.2]
    exact ⟨rfl, rfl⟩
  · intro _; simp [lvI, lvC, plcs]
theorem goR_ic (sh : Bool) : ∀ (l : List Nd) (i : Nat) (a : Int) (s : SR), (goR sh l i a s).2.L.length ≤ 3000 → (goR sh l i a s).2.I = plcs (l.flatMap lvI) s.I ∧ (goR sh l i a s).2.C = plcs (l.flatMap lvC) s.C
  | [], _, _, _, _ => by simp [goR, plcs]
  | n :: l, i, a, s, h => by
    simp only [goR] at h ⊢
    simp only [List.flatMap_cons, plcs_app]
    by_cases hi : i = 0
    · rw [if_pos hi] at h ⊢
      have hle := (goR_bd sh l 1 (nodeR sh n s).1 (nodeR sh n s).2).le
      have h1 := nodeR_ic sh n s (by omega)
      have h2 := goR_ic sh l 1 _ _ h
      rw [h2.1, h2.2, h1.1, h1.2]
      exact ⟨rfl, rfl⟩
    · rw [if_neg hi] at h ⊢
      have hle := (goR_bd sh l (i + 1) (putRR sh 13 a (nodeR sh n s).1 (nodeR sh n s).2).1 (putRR sh 13 a (nodeR sh n s).1 (nodeR sh n s).2).2).le
      have hp := (putRR_bd sh 13 a (nodeR sh n s).1 (nodeR sh n s).2).le
      have h1 := nodeR_ic sh n s (by omega)
      have h2 := goR_ic sh l (i + 1) _ _ h
      rw [h2.1, h2.2]
      simp only [putRR]
      rw [h1.1, h1.2]
      exact ⟨rfl, rfl⟩

/-! the law -/
def esB (K : List (Int × Int × Int)) : Es := K.map fun k => (keyV k, [bc true])
theorem esB_find (k : Int × Int × Int) : ∀ K : List (Int × Int × Int), k ∉ K → mapFind Try.prog 48 (keyV k) (esB K) = some none
  | [], _ => rfl
  | k' :: l, h => by
    have ih := esB_find k l (fun hm => h (List.mem_cons_of_mem _ hm))
    have hn : ¬ k = k' := fun e => h (by rw [e]; exact List.mem_cons_self)
    simp only [esB, List.map_cons, mapFind, key_eq, hn, decide_false] at ih ⊢
    exact ih
theorem esB_put (k : Int × Int × Int) : ∀ K : List (Int × Int × Int), k ∉ K → mapPut Try.prog 48 (keyV k) [bc true] (esB K) = some (esB (K ++ [k]))
  | [], _ => rfl
  | k' :: l, h => by
    have ih := esB_put k l (fun hm => h (List.mem_cons_of_mem _ hm))
    have hn : ¬ k = k' := fun e => h (by rw [e]; exact List.mem_cons_self)
    simp only [esB, List.map_cons, mapPut, key_eq, hn, decide_false, List.cons_append] at ih ⊢
    rw [ih]; rfl

theorem g5_loop {L : List Ins4} {I1 C1 I2 C2 L1 L2 : Rs} {n1 n2 z1 z2 : Int} (hnd : ND L) (hl : L.length < 1073741824) (h1 : n1 ≤ n2) (h2 : I1.length = I2.length) (h3 : C1.length = C2.length) : ∀ (m i : Nat), i + m = L.length →
    Goes step5 (.h1 (esB ((L.take i).map key3)) (L.map insR) (L.length : Int) (i : Int) n2 z2 I2 C2 L2 n1 z1 I1 C1 L1) true
  | 0, i, hi => by
    refine Goes.fin0 fun k rec => ?_
    show t5_h1 k rec _ _ _ _ _ _ _ _ _ _ _ _ _ _ = _
    unfold t5_h1
    have hlt : decide ((i : Int) < (L.length : Int)) = false := by simp; omega
    have h1' : decide (n1 ≤ n2) = true := by simpa using h1
    rw [hlt, cond_false, h1', cond_true, h2, h3]
    simp
  | m + 1, i, hi => by
    have hx : L[i]? = some (L[i]'(by omega)) := List.getElem?_eq_getElem _
    generalize hy : L[i]'(by omega) = x at hx
    have ih := g5_loop (I1 := I1) (C1 := C1) (I2 := I2) (C2 := C2) (L1 := L1) (L2 := L2) (z1 := z1) (z2 := z2) hnd hl h1 h2 h3 m (i + 1) (by omega)
    have hnk : key3 x ∉ (L.take i).map key3 := by
      have e : L.map key3 = (L.take i).map key3 ++ (L.drop i).map key3 := by rw [← List.map_append, List.take_append_drop]
      unfold ND at hnd
      rw [e, List.nodup_append] at hnd
      intro hm
      refine hnd.2.2 _ hm (key3 x) ?_ rfl
      refine List.mem_map.2 ⟨x, ?_, rfl⟩
      rw [← hy]
      rw [List.drop_eq_getElem_cons (by omega)]
      exact List.mem_cons_self
    have ht : (L.take (i + 1)).map key3 = (L.take i).map key3 ++ [key3 x] := by
      rw [List.take_add_one, hx]; simp
    have hlt : decide ((i : Int) < (L.length : Int)) = true := by simp; omega
    have e3 : Goes step5 (.h3 (esB ((L.take i).map key3 ++ [key3 x])) (L.map insR) (L.length : Int) (i : Int) n2 z2 I2 C2 L2 n1 z1 I1 C1 L1) true := by
      rw [← ht]
      refine ih.rec0 fun k rec => ?_
      show rec (.h1 _ _ _ (IntKind.i64.wrap ((i : Int) + 1)) _ _ _ _ _ _ _ _ _ _) = _
      rw [wrap1 i (by omega)]
    have e2 : Goes step5 (.h2 (esB ((L.take i).map key3)) (L.map insR) (L.length : Int) (i : Int) false x.op 0 x.a x.b n2 z2 I2 C2 L2 n1 z1 I1 C1 L1) true := by
      refine e3.rec0 fun k rec => ?_
      show t5_h2 k rec _ _ _ _ _ _ _ _ _ _ _ _ _ _ _ _ _ _ _ = _
      unfold t5_h2
      have := esB_put (key3 x) _ hnk
      rw [cond_false, show (Value.agg #[.int .i64 x.op, .int .i64 0, .int .i64 x.a, .int .i64 x.b]) = keyV (key3 x) from rfl, this]
      rfl
    refine e2.rec0 fun k rec => ?_
    show t5_h1 k rec _ _ _ _ _ _ _ _ _ _ _ _ _ _ = _
    unfold t5_h1
    have := esB_find (key3 x) _ hnk
    rw [hlt, cond_true, ixR_at (map_at hx), un_ins, show (Value.agg #[.int .i64 x.op, .int .i64 0, .int .i64 x.a, .int .i64 x.b]) = keyV (key3 x) from rfl, this]
    rfl

theorem g5_true (l : List Nd) (hb : cnts l < 1048577) : Tot (fun k => g5 k (ndRows l)) true := by
  obtain ⟨N1, hN1⟩ := g11_make true l hb
  obtain ⟨N2, hN2⟩ := g11_make false l hb
  have key : ∀ r0 r1 r2 r3 r4 r5 q0 q1 q2 q3 q4 q5, makeB true l = (r0, r1, r2, r3, r4, r5) → makeB false l = (q0, q1, q2, q3, q4, q5) →
      Goes step5 (.h0 r5 q5 (bif r5 != 0 then true else q5 != 0) q0 q1 q2 q3 q4 r0 r1 r2 r3 r4) true := by
    intro r0 r1 r2 r3 r4 r5 q0 q1 q2 q3 q4 q5 e1 e2
    unfold makeB at e1 e2
    by_cases ho : okL l = true
    · rw [if_pos ho] at e1 e2
      unfold endR at e1 e2
      by_cases c1 : 1024 < (goR true l 0 0 t0).2.L.length + 1
      · rw [if_pos c1] at e1
        simp only [Prod.mk.injEq] at e1
        obtain ⟨_, _, _, _, _, rfl⟩ := e1
        exact Goes.fin0 fun k rec => rfl
      · rw [if_neg c1] at e1
        simp only [Prod.mk.injEq] at e1
        obtain ⟨rfl, rfl, rfl, rfl, rfl, rfl⟩ := e1
        by_cases c2 : 1024 < (goR false l 0 0 t0).2.L.length + 1
        · rw [if_pos c2] at e2
          simp only [Prod.mk.injEq] at e2
          obtain ⟨_, _, _, _, _, rfl⟩ := e2
          exact Goes.fin0 fun k rec => rfl
        · rw [if_neg c2] at e2
          simp only [Prod.mk.injEq] at e2
          obtain ⟨rfl, rfl, rfl, rfl, rfl, rfl⟩ := e2
          have hr : rightBs l = true := by simp only [okL, Bool.and_eq_true] at ho; exact ho.2
          have hnd : ND (goR true l 0 0 t0).2.L := goR_nd rfl l 0 0 t0 (by simp [ND, t0])
          have i1 := goR_ic true l 0 0 t0 (by omega)
          have i2 := goR_ic false l 0 0 t0 (by omega)
          have m1 := goR_most true l 0 0 t0
          have m2 := goR_all rfl l 0 0 t0 hr (by omega)
          have eI : ((goR true l 0 0 t0).2.I.map inR).length = ((goR false l 0 0 t0).2.I.map inR).length := by rw [i1.1, i2.1]
          have eC : ((goR true l 0 0 t0).2.C.map vlR).length = ((goR false l 0 0 t0).2.C.map vlR).length := by rw [i1.2, i2.2]
          generalize goR true l 0 0 t0 = x at *
          generalize goR false l 0 0 t0 = y at *
          have lp := g5_loop (L := x.2.L) (I1 := x.2.I.map inR) (C1 := x.2.C.map vlR) (I2 := y.2.I.map inR) (C2 := y.2.C.map vlR) (L1 := (x.2.L ++ [(⟨52, 0, x.1, 0⟩ : Ins4)]).map insR) (L2 := (y.2.L ++ [(⟨52, 0, y.1, 0⟩ : Ins4)]).map insR) (n1 := (x.2.L.length : Int)) (n2 := (y.2.L.length : Int)) (z1 := 0) (z2 := 0)
            hnd (by omega) (by omega) eI eC x.2.L.length 0 (by omega)
          refine lp.rec0 fun k rec => ?_
          show t5_h0 k rec _ _ _ _ _ _ _ _ _ _ _ _ _ = _
          unfold t5_h0
          have hs : slOk 0 (x.2.L.length : Int) ((x.2.L ++ [(⟨52, 0, x.1, 0⟩ : Ins4)]).map insR) 4 = true := by
            simp only [slOk, List.length_map, List.length_append, List.length_singleton]
            cases hL : x.2.L with
            | nil => simp [insR]
            | cons a L => simp [insR]; omega
          have ht : List.drop (Int.toNat 0) (List.take (Int.toNat (x.2.L.length : Int)) ((x.2.L ++ [(⟨52, 0, x.1, 0⟩ : Ins4)]).map insR)) = x.2.L.map insR := by
            rw [Int.toNat_natCast, ← List.map_take, List.take_left']
            · rfl
            · rfl
          rw [show (bif ((0 : Int) != 0) then true else ((0 : Int) != 0)) = false from rfl, cond_false, hs, ht, List.length_map]
          rfl
    · rw [if_neg ho] at e1
      simp only [Prod.mk.injEq] at e1
      obtain ⟨_, _, _, _, _, rfl⟩ := e1
      exact Goes.fin0 fun k rec => rfl
  rcases e1 : makeB true l with ⟨r0, r1, r2, r3, r4, r5⟩
  rcases e2 : makeB false l with ⟨q0, q1, q2, q3, q4, q5⟩
  rw [e1] at hN1; rw [e2] at hN2
  refine Tot.of_goes (s := S5.e _) ((key _ _ _ _ _ _ _ _ _ _ _ _ e1 e2).rec ⟨N1 + N2, fun k hk rec => ?_⟩)
  show t5_e k rec _ = _
  unfold t5_e
  rw [show g11 k (ndRows l) true = _ from hN1 k (by omega), show g11 k (ndRows l) false = _ from hN2 k (by omega)]
  cases h : (r5 != 0) <;> simp only [Option.bind_some, tup6, h, cond_true, cond_false]
end Ab
end Go.Proofs.Ytebmcaceklbopaa
