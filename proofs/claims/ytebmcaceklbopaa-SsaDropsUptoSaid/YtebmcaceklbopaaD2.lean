/-
  Whether code is plain, by the document's answer.
-/
import Derived.Test.YtebmcaceklbopaaD1
set_option linter.unusedVariables false
set_option linter.unusedSimpArgs false
namespace Go.Proofs.Ytebmcaceklbopaa
namespace Ab
theorem no_or {A : Prop} (h : A → False) : ¬ (false = true ∨ A) := fun hh => hh.elim (fun h' => by cases h') h
section
variable {regs slots : Int} {ins cs l V : Rs} {n : Int} {i : Nat} {op dst a b : Int} {r : Bool}

theorem r9 (hs : i < 4611686018427387904) {t : Bool} (h1 : t = true → r = false) (h2 : t = false → Goes step16 (.h1 V n ((i + 1 : Nat) : Int) regs slots ins cs l) r) :
    Goes step16 (.h9 V n (i : Int) t regs slots ins cs l) r := by
  cases t with
  | true => rw [h1 rfl]; exact Goes.fin0 fun k rec => rfl
  | false =>
    refine (h2 rfl).rec0 fun k rec => ?_
    show rec (.h1 V n (IntKind.i64.wrap ((i : Int) + 1)) regs slots ins cs l) = _
    rw [wrap1 i hs]

def bad6 (nn op : Int) : Prop := nn = 0 ∧ op ≠ 50 ∧ op ≠ 51 ∧ op ≠ 52
theorem r6 (hs : i < 4611686018427387904) {nn : Int} {t : Bool} (h1 : t = true ∨ bad6 nn op → r = false) (h2 : ¬ (t = true ∨ bad6 nn op) → Goes step16 (.h1 V n ((i + 1 : Nat) : Int) regs slots ins cs l) r) :
    Goes step16 (.h6 nn V n (i : Int) t op dst a b regs slots ins cs l) r := by
  cases t with
  | true => rw [h1 (.inl rfl)]; exact Goes.fin0 fun k rec => rfl
  | false =>
    have go : ∀ t' : Bool, (t' = true ↔ bad6 nn op) → (∀ k rec, step16 k rec (.h6 nn V n (i : Int) false op dst a b regs slots ins cs l) = rec (.h9 V n (i : Int) t' regs slots ins cs l)) →
        Goes step16 (.h6 nn V n (i : Int) false op dst a b regs slots ins cs l) r := fun t' ht e =>
      (r9 hs (fun h => h1 (.inr (ht.1 h))) (fun h => h2 (no_or fun h' => by rw [ht.2 h'] at h; cases h))).rec0 e
    have op1 : ∀ k rec, step16 k rec (.h6 nn V n (i : Int) false op dst a b regs slots ins cs l) = t16_h6 k rec nn V n (i : Int) false op dst a b regs slots ins cs l := fun _ _ => rfl
    by_cases c1 : nn = 0
    · by_cases c2 : op = 50
      · exact go false (by simp [bad6, c2]) fun k rec => by rw [op1]; unfold t16_h6; simp [c1, c2]
      · have e2 : (op != 50) = true := by simpa using c2
        by_cases c3 : op = 51
        · exact go false (by simp [bad6, c3]) fun k rec => by rw [op1]; unfold t16_h6; simp [c1, c3]
        · have e3 : (op != 51) = true := by simpa using c3
          exact go (op != 52) (by simp [bad6, c1, c2, c3]) fun k rec => by rw [op1]; unfold t16_h6; simp [c1, e2, e3]
    · have e1 : (nn == 0) = false := by simpa using c1
      exact go false (by simp [bad6, c1]) fun k rec => by rw [op1]; unfold t16_h6; simp [e1]

def bad10 (nn op a nC : Int) : Prop := (op = 51 ∧ a ≥ nC) ∨ bad6 nn op
theorem r10 (hs : i < 4611686018427387904) {nn : Int} {t : Bool} (h1 : t = true ∨ bad10 nn op a cs.length → r = false) (h2 : ¬ (t = true ∨ bad10 nn op a cs.length) → Goes step16 (.h1 V n ((i + 1 : Nat) : Int) regs slots ins cs l) r) :
    Goes step16 (.h10 nn V n (i : Int) t op dst a b regs slots ins cs l) r := by
  cases t with
  | true => exact (r6 (op := op) (dst := dst) (a := a) (b := b) (V := V) (n := n) (i := i) (regs := regs) (slots := slots) (ins := ins) (cs := cs) (l := l) (r := r) hs (t := true) (fun _ => h1 (.inl rfl)) (fun h => absurd (.inl rfl) h)).rec0 fun k rec => rfl
  | false =>
    have go : ∀ t' : Bool, (t' = true ↔ (op = 51 ∧ a ≥ (cs.length : Int))) → (∀ k rec, step16 k rec (.h10 nn V n (i : Int) false op dst a b regs slots ins cs l) = rec (.h6 nn V n (i : Int) t' op dst a b regs slots ins cs l)) →
        Goes step16 (.h10 nn V n (i : Int) false op dst a b regs slots ins cs l) r := fun t' ht e =>
      (r6 hs (t := t') (fun h => h1 (.inr (h.imp ht.1 id))) (fun h => h2 (no_or fun h' => h (h'.imp ht.2 id)))).rec0 e
    have op1 : ∀ k rec, step16 k rec (.h10 nn V n (i : Int) false op dst a b regs slots ins cs l) = t16_h10 k rec nn V n (i : Int) false op dst a b regs slots ins cs l := fun _ _ => rfl
    by_cases c1 : op = 51
    · exact go (decide (a ≥ (cs.length : Int))) (by simp [c1]) fun k rec => by rw [op1]; unfold t16_h10; simp [c1]
    · have e1 : (op == 51) = false := by simpa using c1
      exact go false (by simp [c1]) fun k rec => by rw [op1]; unfold t16_h10; simp [e1]

def bad7 (nn op a nI nC : Int) : Prop := (op = 50 ∧ a ≥ nI) ∨ bad10 nn op a nC
theorem r7 (hs : i < 4611686018427387904) {nn : Int} {t : Bool} (h1 : t = true ∨ bad7 nn op a ins.length cs.length → r = false) (h2 : ¬ (t = true ∨ bad7 nn op a ins.length cs.length) → Goes step16 (.h1 V n ((i + 1 : Nat) : Int) regs slots ins cs l) r) :
    Goes step16 (.h7 nn V n (i : Int) t op dst a b regs slots ins cs l) r := by
  cases t with
  | true => exact (r6 (op := op) (dst := dst) (a := a) (b := b) (V := V) (n := n) (i := i) (regs := regs) (slots := slots) (ins := ins) (cs := cs) (l := l) (r := r) hs (t := true) (fun _ => h1 (.inl rfl)) (fun h => absurd (.inl rfl) h)).rec0 fun k rec => rfl
  | false =>
    have go : ∀ t' : Bool, (t' = true ↔ (op = 50 ∧ a ≥ (ins.length : Int))) → (∀ k rec, step16 k rec (.h7 nn V n (i : Int) false op dst a b regs slots ins cs l) = rec (.h10 nn V n (i : Int) t' op dst a b regs slots ins cs l)) →
        Goes step16 (.h7 nn V n (i : Int) false op dst a b regs slots ins cs l) r := fun t' ht e =>
      (r10 hs (t := t') (fun h => h1 (.inr (h.imp ht.1 id))) (fun h => h2 (no_or fun h' => h (h'.imp ht.2 id)))).rec0 e
    have op1 : ∀ k rec, step16 k rec (.h7 nn V n (i : Int) false op dst a b regs slots ins cs l) = t16_h7 k rec nn V n (i : Int) false op dst a b regs slots ins cs l := fun _ _ => rfl
    by_cases c1 : op = 50
    · exact go (decide (a ≥ (ins.length : Int))) (by simp [c1]) fun k rec => by rw [op1]; unfold t16_h7; simp [c1]
    · have e1 : (op == 50) = false := by simpa using c1
      exact go false (by simp [c1]) fun k rec => by rw [op1]; unfold t16_h7; simp [e1]

def bad4 (en : Bool) (i : Int) (nn op a nI nC : Int) : Prop := (en = true ∧ a ≥ i) ∨ bad7 nn op a nI nC
theorem r4 (hs : i < 4611686018427387904) {nn : Int} {en t : Bool} (h1 : t = true ∨ bad4 en i nn op a ins.length cs.length → r = false) (h2 : ¬ (t = true ∨ bad4 en i nn op a ins.length cs.length) → Goes step16 (.h1 V n ((i + 1 : Nat) : Int) regs slots ins cs l) r) :
    Goes step16 (.h4 (i : Int) nn en V n (i : Int) t op dst a b regs slots ins cs l) r := by
  cases t with
  | true => exact (r6 (op := op) (dst := dst) (a := a) (b := b) (V := V) (n := n) (i := i) (regs := regs) (slots := slots) (ins := ins) (cs := cs) (l := l) (r := r) hs (t := true) (fun _ => h1 (.inl rfl)) (fun h => absurd (.inl rfl) h)).rec0 fun k rec => rfl
  | false =>
    have go : ∀ t' : Bool, (t' = true ↔ (en = true ∧ a ≥ (i : Int))) → (∀ k rec, step16 k rec (.h4 (i : Int) nn en V n (i : Int) false op dst a b regs slots ins cs l) = rec (.h7 nn V n (i : Int) t' op dst a b regs slots ins cs l)) →
        Goes step16 (.h4 (i : Int) nn en V n (i : Int) false op dst a b regs slots ins cs l) r := fun t' ht e =>
      (r7 hs (t := t') (fun h => h1 (.inr (h.imp ht.1 id))) (fun h => h2 (no_or fun h' => h (h'.imp ht.2 id)))).rec0 e
    cases en with
    | true => exact go (decide (a ≥ (i : Int))) (by simp) fun k rec => rfl
    | false => exact go false (by simp) fun k rec => rfl

def bad2 (en : Bool) (i : Int) (nn op a b nI nC : Int) : Prop := (nn > 0 ∧ (a ≥ i ∨ b ≥ i)) ∨ bad4 en i nn op a nI nC
theorem r2 (hs : i < 4611686018427387904) {nn : Int} {en t : Bool} (h1 : t = true ∨ bad2 en i nn op a b ins.length cs.length → r = false) (h2 : ¬ (t = true ∨ bad2 en i nn op a b ins.length cs.length) → Goes step16 (.h1 V n ((i + 1 : Nat) : Int) regs slots ins cs l) r) :
    Goes step16 (.h2 (i : Int) nn en V n (i : Int) t op dst a b regs slots ins cs l) r := by
  cases t with
  | true => rw [h1 (.inl rfl)]; exact Goes.fin0 fun k rec => rfl
  | false =>
    have go : ∀ t' : Bool, (t' = true ↔ (nn > 0 ∧ (a ≥ (i : Int) ∨ b ≥ (i : Int)))) → (∀ k rec, step16 k rec (.h2 (i : Int) nn en V n (i : Int) false op dst a b regs slots ins cs l) = rec (.h4 (i : Int) nn en V n (i : Int) t' op dst a b regs slots ins cs l)) →
        Goes step16 (.h2 (i : Int) nn en V n (i : Int) false op dst a b regs slots ins cs l) r := fun t' ht e =>
      (r4 hs (t := t') (fun h => h1 (.inr (h.imp ht.1 id))) (fun h => h2 (no_or fun h' => h (h'.imp ht.2 id)))).rec0 e
    have op1 : ∀ k rec, step16 k rec (.h2 (i : Int) nn en V n (i : Int) false op dst a b regs slots ins cs l) = t16_h2 k rec (i : Int) nn en V n (i : Int) false op dst a b regs slots ins cs l := fun _ _ => rfl
    by_cases c1 : nn > 0
    · by_cases c2 : a ≥ (i : Int)
      · exact go true (by simp [c1, c2]) fun k rec => by rw [op1]; unfold t16_h2; simp [c1, c2]
      · exact go (decide (b ≥ (i : Int))) (by simp [c1, c2]) fun k rec => by rw [op1]; unfold t16_h2; simp [c1, c2]
    · exact go false (by simp [c1]) fun k rec => by rw [op1]; unfold t16_h2; simp [c1]

def bad8 (en : Bool) (i : Int) (nn op a b nI nC : Int) : Prop := (a < 0 ∨ b < 0) ∨ bad2 en i nn op a b nI nC
theorem r8 (hs : i < 4611686018427387904) {nn : Int} {en t : Bool} (h1 : t = true ∨ bad8 en i nn op a b ins.length cs.length → r = false) (h2 : ¬ (t = true ∨ bad8 en i nn op a b ins.length cs.length) → Goes step16 (.h1 V n ((i + 1 : Nat) : Int) regs slots ins cs l) r) :
    Goes step16 (.h8 (i : Int) nn en V n (i : Int) t op dst a b regs slots ins cs l) r := by
  cases t with
  | true => exact (r2 (op := op) (dst := dst) (a := a) (b := b) (V := V) (n := n) (i := i) (regs := regs) (slots := slots) (ins := ins) (cs := cs) (l := l) (r := r) hs (t := true) (fun _ => h1 (.inl rfl)) (fun h => absurd (.inl rfl) h)).rec0 fun k rec => rfl
  | false =>
    have go : ∀ t' : Bool, (t' = true ↔ (a < 0 ∨ b < 0)) → (∀ k rec, step16 k rec (.h8 (i : Int) nn en V n (i : Int) false op dst a b regs slots ins cs l) = rec (.h2 (i : Int) nn en V n (i : Int) t' op dst a b regs slots ins cs l)) →
        Goes step16 (.h8 (i : Int) nn en V n (i : Int) false op dst a b regs slots ins cs l) r := fun t' ht e =>
      (r2 hs (t := t') (fun h => h1 (.inr (h.imp ht.1 id))) (fun h => h2 (no_or fun h' => h (h'.imp ht.2 id)))).rec0 e
    have op1 : ∀ k rec, step16 k rec (.h8 (i : Int) nn en V n (i : Int) false op dst a b regs slots ins cs l) = t16_h8 k rec (i : Int) nn en V n (i : Int) false op dst a b regs slots ins cs l := fun _ _ => rfl
    by_cases c1 : a < 0
    · exact go true (by simp [c1]) fun k rec => by rw [op1]; unfold t16_h8; simp [c1]
    · exact go (decide (b < 0)) (by simp [c1]) fun k rec => by rw [op1]; unfold t16_h8; simp [c1]

def bad5 (en : Bool) (i : Int) (nn op a b nI nC : Int) : Prop := (nn < 2 ∧ b ≠ 0) ∨ bad8 en i nn op a b nI nC
theorem r5 (hs : i < 4611686018427387904) {nn : Int} {en t : Bool} (h1 : t = true ∨ bad5 en i nn op a b ins.length cs.length → r = false) (h2 : ¬ (t = true ∨ bad5 en i nn op a b ins.length cs.length) → Goes step16 (.h1 V n ((i + 1 : Nat) : Int) regs slots ins cs l) r) :
    Goes step16 (.h5 (i : Int) nn en V n (i : Int) t op dst a b regs slots ins cs l) r := by
  cases t with
  | true => exact (r2 (op := op) (dst := dst) (a := a) (b := b) (V := V) (n := n) (i := i) (regs := regs) (slots := slots) (ins := ins) (cs := cs) (l := l) (r := r) hs (t := true) (fun _ => h1 (.inl rfl)) (fun h => absurd (.inl rfl) h)).rec0 fun k rec => rfl
  | false =>
    have go : ∀ t' : Bool, (t' = true ↔ (nn < 2 ∧ b ≠ 0)) → (∀ k rec, step16 k rec (.h5 (i : Int) nn en V n (i : Int) false op dst a b regs slots ins cs l) = rec (.h8 (i : Int) nn en V n (i : Int) t' op dst a b regs slots ins cs l)) →
        Goes step16 (.h5 (i : Int) nn en V n (i : Int) false op dst a b regs slots ins cs l) r := fun t' ht e =>
      (r8 hs (t := t') (fun h => h1 (.inr (h.imp ht.1 id))) (fun h => h2 (no_or fun h' => h (h'.imp ht.2 id)))).rec0 e
    have op1 : ∀ k rec, step16 k rec (.h5 (i : Int) nn en V n (i : Int) false op dst a b regs slots ins cs l) = t16_h5 k rec (i : Int) nn en V n (i : Int) false op dst a b regs slots ins cs l := fun _ _ => rfl
    by_cases c1 : nn < 2
    · exact go (b != 0) (by simp [c1]) fun k rec => by rw [op1]; unfold t16_h5; simp [c1]
    · exact go false (by simp [c1]) fun k rec => by rw [op1]; unfold t16_h5; simp [c1]

def bad3 (en : Bool) (i : Int) (nn op dst a b nI nC : Int) : Prop := (en = false ∧ dst ≠ i) ∨ bad5 en i nn op a b nI nC
theorem r3 (hs : i < 4611686018427387904) {nn : Int} {en t : Bool} (h1 : t = true ∨ bad3 en i nn op dst a b ins.length cs.length → r = false) (h2 : ¬ (t = true ∨ bad3 en i nn op dst a b ins.length cs.length) → Goes step16 (.h1 V n ((i + 1 : Nat) : Int) regs slots ins cs l) r) :
    Goes step16 (.h3 (i : Int) nn en V n (i : Int) t op dst a b regs slots ins cs l) r := by
  cases t with
  | true => exact (r2 (op := op) (dst := dst) (a := a) (b := b) (V := V) (n := n) (i := i) (regs := regs) (slots := slots) (ins := ins) (cs := cs) (l := l) (r := r) hs (t := true) (fun _ => h1 (.inl rfl)) (fun h => absurd (.inl rfl) h)).rec0 fun k rec => rfl
  | false =>
    have go : ∀ t' : Bool, (t' = true ↔ (en = false ∧ dst ≠ (i : Int))) → (∀ k rec, step16 k rec (.h3 (i : Int) nn en V n (i : Int) false op dst a b regs slots ins cs l) = rec (.h5 (i : Int) nn en V n (i : Int) t' op dst a b regs slots ins cs l)) →
        Goes step16 (.h3 (i : Int) nn en V n (i : Int) false op dst a b regs slots ins cs l) r := fun t' ht e =>
      (r5 hs (t := t') (fun h => h1 (.inr (h.imp ht.1 id))) (fun h => h2 (no_or fun h' => h (h'.imp ht.2 id)))).rec0 e
    cases en with
    | true => exact go false (by simp) fun k rec => rfl
    | false => exact go (dst != (i : Int)) (by simp) fun k rec => rfl

/-- an instruction that the document's answer refuses. -/
def badI (en : Bool) (i : Int) (nn op dst a b nI nC : Int) : Prop := (en = true ∧ op ≠ 52) ∨ (en = false ∧ op = 52) ∨ (en = true ∧ dst ≠ 0) ∨ bad3 en i nn op dst a b nI nC
theorem g16_row {x : Ins4} (hi : (i : Int) < n) (hV : V[i]? = some (insR x)) (hs : i < 4611686018427387904) (h1 : badI ((i : Int) == regs) i (nOps x.op) x.op x.dst x.a x.b ins.length cs.length → r = false)
    (h2 : ¬ badI ((i : Int) == regs) i (nOps x.op) x.op x.dst x.a x.b ins.length cs.length → Goes step16 (.h1 V n ((i + 1 : Nat) : Int) regs slots ins cs l) r) :
    Goes step16 (.h1 V n (i : Int) regs slots ins cs l) r := by
  obtain ⟨N, hN⟩ := g31_nOps x.op
  have h31 : ∀ k, N ≤ k → g31 k x.op = some (nOps x.op) := hN
  have hlt : decide ((i : Int) < n) = true := by simpa using hi
  have op1 : ∀ k rec, step16 k rec (.h1 V n (i : Int) regs slots ins cs l) = t16_h1 k rec V n (i : Int) regs slots ins cs l := fun _ _ => rfl
  by_cases c1 : (i : Int) = regs
  · have e1 : ((i : Int) == regs) = true := by simpa using c1
    rw [e1] at h1 h2
    by_cases c2 : x.op = 52
    · have e2 : (x.op == 52) = true := by simpa using c2
      refine (r3 (V := V) (n := n) (i := i) (regs := regs) (slots := slots) (ins := ins) (cs := cs) (l := l) (r := r) hs (en := true) (t := x.dst != 0) (nn := nOps x.op) (op := x.op) (dst := x.dst) (a := x.a) (b := x.b) (fun h => h1 ?_) (fun h => h2 ?_)).rec ⟨N, fun k hk rec => ?_⟩
      · rcases h with h | h
        · exact .inr (.inr (.inl ⟨rfl, by simpa using h⟩))
        · exact .inr (.inr (.inr h))
      · rintro (h' | h' | h' | h')
        · exact h'.2 c2
        · cases h'.1
        · exact h (.inl (by simpa using h'.2))
        · exact h (.inr h')
      · rw [op1]; unfold t16_h1; rw [hlt, cond_true, ixR_at hV, un_ins]; simp [e1, e2, h31 k hk]
    · have e2 : (x.op == 52) = false := by simpa using c2
      refine (r2 (V := V) (n := n) (i := i) (regs := regs) (slots := slots) (ins := ins) (cs := cs) (l := l) (r := r) hs (en := true) (t := true) (nn := nOps x.op) (op := x.op) (dst := x.dst) (a := x.a) (b := x.b) (fun _ => h1 (.inl ⟨rfl, c2⟩)) (fun h => absurd (.inl rfl) h)).rec ⟨N, fun k hk rec => ?_⟩
      rw [op1]; unfold t16_h1; rw [hlt, cond_true, ixR_at hV, un_ins]; simp [e1, e2, h31 k hk]
  · have e1 : ((i : Int) == regs) = false := by simpa using c1
    rw [e1] at h1 h2
    by_cases c2 : x.op = 52
    · have e2 : (x.op == 52) = true := by simpa using c2
      refine (r2 (V := V) (n := n) (i := i) (regs := regs) (slots := slots) (ins := ins) (cs := cs) (l := l) (r := r) hs (en := false) (t := true) (nn := nOps x.op) (op := x.op) (dst := x.dst) (a := x.a) (b := x.b) (fun _ => h1 (.inr (.inl ⟨rfl, c2⟩))) (fun h => absurd (.inl rfl) h)).rec ⟨N, fun k hk rec => ?_⟩
      rw [op1]; unfold t16_h1; rw [hlt, cond_true, ixR_at hV, un_ins]; simp [e1, e2, h31 k hk]
    · have e2 : (x.op == 52) = false := by simpa using c2
      refine (r3 (V := V) (n := n) (i := i) (regs := regs) (slots := slots) (ins := ins) (cs := cs) (l := l) (r := r) hs (en := false) (t := false) (nn := nOps x.op) (op := x.op) (dst := x.dst) (a := x.a) (b := x.b) (fun h => h1 ?_) (fun h => h2 ?_)).rec ⟨N, fun k hk rec => ?_⟩
      · rcases h with h | h
        · cases h
        · exact .inr (.inr (.inr h))
      · rintro (h' | h' | h' | h')
        · cases h'.1
        · exact c2 h'.2
        · cases h'.1
        · exact h (.inr h')
      · rw [op1]; unfold t16_h1; rw [hlt, cond_true, ixR_at hV, un_ins]; simp [e1, e2, h31 k hk]
end

theorem badI_mid {x : Ins4} {i : Nat} {nI nC : Nat} : ¬ badI false i (nOps x.op) x.op x.dst x.a x.b nI nC ↔ okI x i nI nC := by
  unfold badI bad3 bad5 bad8 bad2 bad4 bad7 bad10 bad6 okI
  have hn := nOps_cases x.op
  have h50 : x.op = 50 → nOps x.op = 0 := fun h => by rw [h]; rfl
  have h51 : x.op = 51 → nOps x.op = 0 := fun h => by rw [h]; rfl
  have h52 : x.op = 52 → nOps x.op = 0 := fun h => by rw [h]; rfl
  simp only [Bool.false_eq_true, false_and, false_or, true_and]
  omega
theorem badI_end {x : Ins4} {i : Nat} {nI nC : Nat} : ¬ badI true i (nOps x.op) x.op x.dst x.a x.b nI nC ↔ tellI x i := by
  unfold badI bad3 bad5 bad8 bad2 bad4 bad7 bad10 bad6 tellI
  have h52 : x.op = 52 → nOps x.op = 0 := fun h => by rw [h]; rfl
  simp only [Bool.true_eq_false, false_and, false_or, true_and]
  omega

theorem g16_loop {regs slots : Int} {ins cs : Rs} {L : List Ins4} {rk : Nat} (hr : regs = (rk : Int)) (hlen : L.length = rk + 1) (hs : L.length < 4611686018427387904) {t : Ins4} (ht : L[rk]? = some t) :
    ∀ (m i : Nat), i + m = rk → ∀ b : Bool, (b = true ↔ (∀ (j : Nat) x, i ≤ j → L[j]? = some x → (j : Int) < regs → okI x j ins.length cs.length) ∧ tellI t regs) →
      Goes step16 (.h1 (L.map insR) (L.length : Int) (i : Int) regs slots ins cs (L.map insR)) b
  | 0, i, hi, b, hb => by
    have hi' : i = rk := by omega
    subst hi'
    refine g16_row (x := t) (by omega) (map_at ht) (by omega) (fun hbad => ?_) (fun hok => ?_)
    · have e : ((i : Int) == regs) = true := by simp [hr]
      rw [e] at hbad
      cases b with
      | false => rfl
      | true =>
        have := (hb.1 rfl).2
        rw [hr] at this
        exact absurd hbad (badI_end.2 this)
    · have e : ((i : Int) == regs) = true := by simp [hr]
      rw [e] at hok
      have : b = true := hb.2 ⟨fun j x h1 _ h3 => by omega, by rw [hr]; exact badI_end.1 hok⟩
      rw [this]
      refine Goes.fin0 fun k rec => ?_
      show t16_h1 k rec _ _ _ _ _ _ _ _ = _
      unfold t16_h1
      have hlt : decide (((i + 1 : Nat) : Int) < (L.length : Int)) = false := by simp; omega
      rw [hlt]; rfl
  | m + 1, i, hi, b, hb => by
    have hx : L[i]? = some (L[i]'(by omega)) := List.getElem?_eq_getElem _
    have e : ((i : Int) == regs) = false := by simp [hr]; omega
    refine g16_row (x := L[i]'(by omega)) (by omega) (map_at hx) (by omega) (fun hbad => ?_) (fun hok => ?_)
    · rw [e] at hbad
      cases b with
      | false => rfl
      | true => exact absurd hbad (badI_mid.2 ((hb.1 rfl).1 i _ (Nat.le_refl _) hx (by omega)))
    · rw [e] at hok
      refine g16_loop (slots := slots) (ins := ins) (cs := cs) hr hlen hs ht m (i + 1) (by omega) b (hb.trans ?_)
      refine ⟨fun h => ⟨fun j x h1 h2 h3 => h.1 j x (by omega) h2 h3, h.2⟩, fun h => ⟨fun j x h1 h2 h3 => ?_, h.2⟩⟩
      by_cases hj : j = i
      · subst hj
        rw [hx] at h2
        cases h2
        exact badI_mid.1 hok
      · exact h.1 j x (by omega) h2 h3

theorem g16_plain {regs slots : Int} {ins cs : Rs} {L : List Ins4} (hr : -9223372036854775808 ≤ regs ∧ regs ≤ 9223372036854775807) (hs : L.length < 4611686018427387904) {b : Bool} (hb : b = true ↔ PlainP regs slots ins.length cs.length L) :
    Tot (fun k => g16 k regs slots ins cs (L.map insR)) b := by
  show Goes step16 (.e regs slots ins cs (L.map insR)) _
  have no : ¬ PlainP regs slots ins.length cs.length L → Goes step16 (.h0 true regs slots ins cs (L.map insR)) b := by
    intro hn
    have : b = false := by
      cases b with
      | false => rfl
      | true => exact absurd (hb.1 rfl) hn
    rw [this]
    exact Goes.fin0 fun k rec => rfl
  by_cases h1 : slots = 0
  · have e1 : (slots != 0) = false := by simp [h1]
    by_cases h2 : regs < 1
    · refine (no fun h => ?_).rec0 (fun k rec => ?_)
      · have := h.2.1; omega
      · show t16_e k rec regs slots ins cs (L.map insR) = _
        unfold t16_e
        simp [e1, h2]
    · refine Goes.rec0 (s' := .h0 ((IntKind.i64.wrap (((L.map insR).length : Int) - 1)) != regs) regs slots ins cs (L.map insR)) ?_ (fun k rec => ?_)
      · have hw : IntKind.i64.wrap (((L.map insR).length : Int) - 1) = (L.length : Int) - 1 := by rw [List.length_map, IntKind.wrap_i64]; omega
        rw [hw]
        by_cases h3 : (L.length : Int) - 1 = regs
        · have e : (((L.length : Int) - 1) != regs) = false := by simp [h3]
          rw [e]
          obtain ⟨rk, rfl⟩ : ∃ rk : Nat, regs = (rk : Int) := ⟨regs.toNat, by omega⟩
          have hlen : L.length = rk + 1 := by omega
          have ht : L[rk]? = some (L[rk]'(by omega)) := List.getElem?_eq_getElem _
          refine (g16_loop (regs := (rk : Int)) (slots := slots) (ins := ins) (cs := cs) rfl hlen hs ht rk 0 (by omega) b (hb.trans ?_)).rec0 (fun k rec => ?_)
          · constructor
            · rintro ⟨_, _, _, q1, t, q2, q3⟩
              refine ⟨fun j x _ h4 h5 => q1 j x h4 h5, ?_⟩
              rw [Int.toNat_natCast, ht] at q2
              cases q2
              exact q3
            · rintro ⟨q1, q2⟩
              exact ⟨h1, by omega, by omega, fun j x h4 h5 => q1 j x (Nat.zero_le _) h4 h5, _, by rw [Int.toNat_natCast]; exact ht, q2⟩
          · show t16_h0 k rec false (rk : Int) slots ins cs (L.map insR) = _
            unfold t16_h0
            rw [cond_false, List.length_map]
            rfl
        · have e : (((L.length : Int) - 1) != regs) = true := by simp [h3]
          rw [e]
          refine no fun h => h3 ?_
          have := h.2.2.1
          omega
      · show t16_e k rec regs slots ins cs (L.map insR) = _
        unfold t16_e
        simp [e1, h2]
  · have e1 : (slots != 0) = true := by simp [h1]
    refine (no fun h => h1 h.1).rec0 (fun k rec => ?_)
    show t16_e k rec regs slots ins cs (L.map insR) = _
    unfold t16_e
    simp [e1]
end Ab
end Go.Proofs.Ytebmcaceklbopaa
