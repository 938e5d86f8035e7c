/-
  Functions' ways, printed by a program: what each computes, and that this is what the interpreter computes.
-/
import Derived.Test.YtgghingfdcmelaaGreatF3b
import Derived.Test.YtgghingfdcmelaaGreatAwake
import Derived.KernelRfl
set_option linter.unusedVariables false
set_option linter.unusedSimpArgs false
namespace Go.Proofs.YtgghingfdcmelaaGreat
namespace Ab
inductive S3 where
  | e (a0_0 : Int) (a0_1 : Rs) (a0_2 : Rs)
abbrev R3 := Bool
def res3 : R3 → ARes
  | r => .ret (.c (bc r))
def bx3 : R3 → List (List Cell)
  | r => []
noncomputable def t3_e (k : Nat) (rec : S3 → Option R3) (a0_0 : Int) (a0_1 : Rs) (a0_2 : Rs) : Option R3 :=
  (g4 k a0_0 a0_1 a0_2).bind fun v_x1 =>
  bif !v_x1 then
    some true
  else
    (g6 k a0_0 a0_1 a0_2).bind fun v_x4 =>
    tup3 v_x4 fun r0_x6 r1_x6 r2_x6 =>
    (g8 k r0_x6 (immRs r1_x6) (immRs r2_x6)).bind fun v_x7 =>
    tup3 v_x7 fun r0_x9 r1_x9 r2_x9 =>
    (g9 k a0_0 a0_1 a0_2).bind fun v_x10 =>
    tup3 v_x10 fun r0_x12 r1_x12 r2_x12 =>
    (g7 k r0_x9 r1_x9 r2_x9 r0_x12 r1_x12 r2_x12).bind fun v_x13 =>
    bif v_x13 then
      (g7 k r0_x6 (immRs r1_x6) (immRs r2_x6) a0_0 a0_1 a0_2).bind fun v_x15 =>
      some v_x15
    else
      some false
noncomputable def step3 (k : Nat) (rec : S3 → Option R3) : S3 → Option R3
  | .e a0_0 a0_1 a0_2 => t3_e k rec a0_0 a0_1 a0_2
noncomputable def g3 (k : Nat) (a0_0 : Int) (a0_1 : Rs) (a0_2 : Rs) : Option R3 := itS step3 k (.e a0_0 a0_1 a0_2)
noncomputable def P3 : S3 → R3 → Prop
  | .e a0_0 a0_1 a0_2, r => Fin cx3 Tryz.f3 [.code body3] (fr0 Tryz.f3 [.ag [ic a0_0, .imm a0_1, .imm a0_2]] []) (res3 r) (bx3 r)
theorem evr3 {a0_0 : Int} {a0_1 : Rs} {a0_2 : Rs} {r : R3} (h : P3 (.e a0_0 a0_1 a0_2) r) : Ev Tryz.prog noHand 3 [.ag [ic a0_0, .imm a0_1, .imm a0_2]] [] (res3 r) (bx3 r) := ev_of_fin (fn := Tryz.f3) (body := body3) (by kernel_rfl) (by kernel_rfl) (by kernel_rfl) rfl h
theorem t3_e_ok (k : Nat) (rec : S3 → Option R3) (ih : ∀ s r, rec s = some r → P3 s r) (a0_0 : Int) (a0_1 : Rs) (a0_2 : Rs) (r : R3) (h : t3_e k rec a0_0 a0_1 a0_2 = some r) : P3 (.e a0_0 a0_1 a0_2) r := by
  unfold t3_e at h
  obtain ⟨v_x1, h_x2, h⟩ := bd_or h
  rcases bif_or h with ⟨h_x3, h⟩ | ⟨h_x3, h⟩
  ·
    rw [← Option.some.inj h]
    exact mgo_fin (nb := 0) hmix (n := 2000) (ad := [(some 5, .call (.ret (.c (bc v_x1))) [] false), (some 6, .test true), (some 7, .call (.ret (.c (bc true))) [] false)]) (ps := [_, _, _]) (by kernel_rfl) ⟨(ev4 h_x2), h_x3, clA_291, trivial⟩
  ·
    obtain ⟨v_x4, h_x5, h⟩ := bd_or h
    obtain ⟨r0_x6, r1_x6, r2_x6, hq, h1'⟩ := tup3_or h
    clear h; subst hq; have h := h1'; clear h1'
    obtain ⟨v_x7, h_x8, h⟩ := bd_or h
    obtain ⟨r0_x9, r1_x9, r2_x9, hq, h1'⟩ := tup3_or h
    clear h; subst hq; have h := h1'; clear h1'
    obtain ⟨v_x10, h_x11, h⟩ := bd_or h
    obtain ⟨r0_x12, r1_x12, r2_x12, hq, h1'⟩ := tup3_or h
    clear h; subst hq; have h := h1'; clear h1'
    obtain ⟨v_x13, h_x14, h⟩ := bd_or h
    rcases bif_or h with ⟨hq, h1'⟩ | ⟨hq, h1'⟩
    · clear h; subst hq; have h := h1'; clear h1'
      obtain ⟨v_x15, h_x16, h⟩ := bd_or h
      rw [← Option.some.inj h]
      exact mgo_fin (nb := 0) hmix (n := 2000) (ad := [(some 5, .call (.ret (.c (bc v_x1))) [] false), (some 6, .test false), (some 9, .call (.ret (.ag [ic r0_x6, .own 1 r1_x6, .own 8 r2_x6])) [] false), (some 10, .call (.ret (.c (bc true))) [] false), (some 13, .call (.ret (.ag [ic r0_x9, .imm r1_x9, .imm r2_x9])) [] false), (some 15, .call (.ret (.ag [ic r0_x12, .imm r1_x12, .imm r2_x12])) [] false), (some 16, .call (.ret (.c (bc true))) [] false), (some 21, .call (.ret (.c (bc v_x15))) [] false)]) (ps := [_, _, _, _, _, _, _, _, _]) (by kernel_rfl) ⟨(ev4 h_x2), h_x3, (ev6 h_x5), clA_291, (ev8 h_x8), (rfl : false = false), (ev9 h_x11), (ev7 h_x14), (ev7 h_x16), trivial⟩
    · clear h; subst hq; have h := h1'; clear h1'
      rw [← Option.some.inj h]
      exact mgo_fin (nb := 0) hmix (n := 2000) (ad := [(some 5, .call (.ret (.c (bc v_x1))) [] false), (some 6, .test false), (some 9, .call (.ret (.ag [ic r0_x6, .own 1 r1_x6, .own 8 r2_x6])) [] false), (some 10, .call (.ret (.c (bc true))) [] false), (some 13, .call (.ret (.ag [ic r0_x9, .imm r1_x9, .imm r2_x9])) [] false), (some 15, .call (.ret (.ag [ic r0_x12, .imm r1_x12, .imm r2_x12])) [] false), (some 16, .call (.ret (.c (bc false))) [] false)]) (ps := [_, _, _, _, _, _, _, _]) (by kernel_rfl) ⟨(ev4 h_x2), h_x3, (ev6 h_x5), clA_291, (ev8 h_x8), (rfl : false = false), (ev9 h_x11), (ev7 h_x14), trivial⟩
theorem ok3 : ∀ k s r, itS step3 k s = some r → P3 s r := itS_ok fun k rec ih s r h => match s, h with
  | .e a0_0 a0_1 a0_2, h => t3_e_ok k rec ih a0_0 a0_1 a0_2 r h
theorem ev3 {k : Nat} {a0_0 : Int} {a0_1 : Rs} {a0_2 : Rs} {r : R3} (h : g3 k a0_0 a0_1 a0_2 = some r) : Ev Tryz.prog noHand 3 [.ag [ic a0_0, .imm a0_1, .imm a0_2]] [] (res3 r) (bx3 r) := evr3 (ok3 _ _ _ h)
end Ab
end Go.Proofs.YtgghingfdcmelaaGreat
