/-
  Functions' ways, printed by a program: what each computes, and that this is what the interpreter computes.
-/
import Derived.Test.YtgghingfdcmelaaF3a
import Derived.Test.YtgghingfdcmelaaAwake
import Derived.KernelRfl
set_option linter.unusedVariables false
set_option linter.unusedSimpArgs false
namespace Go.Proofs.Ytgghingfdcmelaa
namespace Ab
inductive S3 where
  | e (a0_0 : Int) (a0_1 : Rs) (a0_2 : Rs)
  | h0 (n4 : Int) (t20 : Rs) (t21 : Int) (t22 : Int) (loc3_0 : Int) (loc3_1 : Rs) (loc3_2 : Rs) (loc1_0 : Int) (loc1_1 : Rs) (loc1_2 : Rs)
  | h1 (n4 : Int) (t33 : Rs) (t34 : Int) (t35 : Int) (loc3_0 : Int) (loc3_1 : Rs) (loc3_2 : Rs) (loc1_0 : Int) (loc1_1 : Rs) (loc1_2 : Rs)
abbrev R3 := Bool
def res3 : R3 → ARes
  | r => .ret (.c (bc r))
def bx3 : R3 → List (List Cell)
  | r => []
noncomputable def t3_e (k : Nat) (rec : S3 → Option R3) (a0_0 : Int) (a0_1 : Rs) (a0_2 : Rs) : Option R3 :=
  (g5 k a0_0 a0_1 a0_2).bind fun v_x1 =>
  bif !v_x1 then
    some true
  else
    (g6 k a0_0 a0_1 a0_2).bind fun v_x4 =>
    tup3 v_x4 fun r0_x6 r1_x6 r2_x6 =>
    rec (.h0 0 a0_2 (a0_2.length : Int) 0 r0_x6 r1_x6 r2_x6 a0_0 a0_1 a0_2)
noncomputable def t3_h0 (k : Nat) (rec : S3 → Option R3) (n4 : Int) (t20 : Rs) (t21 : Int) (t22 : Int) (loc3_0 : Int) (loc3_1 : Rs) (loc3_2 : Rs) (loc1_0 : Int) (loc1_1 : Rs) (loc1_2 : Rs) : Option R3 :=
  bif decide (t22 < t21) then
    ixR t20 t22 fun w_x2 =>
    un_iibim4 w_x2 fun parent_x4 type_x4 many_x4 window_x4 bars_x4 leaves_x4 guards_x4 ends_x4 =>
    rec (.h0 (IntKind.i64.wrap (n4 + (ends_x4.length : Int))) t20 t21 (IntKind.i64.wrap (t22 + 1)) loc3_0 loc3_1 loc3_2 loc1_0 loc1_1 loc1_2)
  else
    rec (.h1 n4 loc3_2 (loc3_2.length : Int) 0 loc3_0 loc3_1 loc3_2 loc1_0 loc1_1 loc1_2)
noncomputable def t3_h1 (k : Nat) (rec : S3 → Option R3) (n4 : Int) (t33 : Rs) (t34 : Int) (t35 : Int) (loc3_0 : Int) (loc3_1 : Rs) (loc3_2 : Rs) (loc1_0 : Int) (loc1_1 : Rs) (loc1_2 : Rs) : Option R3 :=
  bif decide (t35 < t34) then
    ixR t33 t35 fun w_x2 =>
    un_iibim4 w_x2 fun parent_x4 type_x4 many_x4 window_x4 bars_x4 leaves_x4 guards_x4 ends_x4 =>
    rec (.h1 (IntKind.i64.wrap (n4 - (ends_x4.length : Int))) t33 t34 (IntKind.i64.wrap (t35 + 1)) loc3_0 loc3_1 loc3_2 loc1_0 loc1_1 loc1_2)
  else
    (g7 k loc3_0 loc3_1 loc3_2).bind fun v_x2 =>
    bif v_x2 then
      (g6 k loc3_0 loc3_1 loc3_2).bind fun v_x4 =>
      tup3 v_x4 fun r0_x6 r1_x6 r2_x6 =>
      (g8 k r0_x6 r1_x6 r2_x6 loc3_0 loc3_1 loc3_2).bind fun v_x7 =>
      bif v_x7 then
        (g5 k loc3_0 loc3_1 loc3_2).bind fun v_x9 =>
        bif v_x9 then
          bif decide ((loc3_2.length : Int) ≤ (loc1_2.length : Int)) then
            bif n4 == 0 then
              (g7 k loc1_0 loc1_1 loc1_2).bind fun v_x13 =>
              some (v_x13 == ((loc1_2.length : Int) == (loc3_2.length : Int)))
            else
              some false
          else
            some false
        else
          some false
      else
        some false
    else
      some false
noncomputable def step3 (k : Nat) (rec : S3 → Option R3) : S3 → Option R3
  | .e a0_0 a0_1 a0_2 => t3_e k rec a0_0 a0_1 a0_2
  | .h0 n4 t20 t21 t22 loc3_0 loc3_1 loc3_2 loc1_0 loc1_1 loc1_2 => t3_h0 k rec n4 t20 t21 t22 loc3_0 loc3_1 loc3_2 loc1_0 loc1_1 loc1_2
  | .h1 n4 t33 t34 t35 loc3_0 loc3_1 loc3_2 loc1_0 loc1_1 loc1_2 => t3_h1 k rec n4 t33 t34 t35 loc3_0 loc3_1 loc3_2 loc1_0 loc1_1 loc1_2
noncomputable def g3 (k : Nat) (a0_0 : Int) (a0_1 : Rs) (a0_2 : Rs) : Option R3 := itS step3 k (.e a0_0 a0_1 a0_2)
noncomputable def P3 : S3 → R3 → Prop
  | .e a0_0 a0_1 a0_2, r => Fin cx3 Try.f3 [.code body3] (fr0 Try.f3 [.ag [ic a0_0, .imm a0_1, .imm a0_2]] []) (res3 r) (bx3 r)
  | .h0 n4 t20 t21 t22 loc3_0 loc3_1 loc3_2 loc1_0 loc1_1 loc1_2, r => Fin cx3 Try.f3 (kAt body3 [1, 1, 1, 1, 0, 1, 0, 4] []) ⟨[.deadv, .c (.ptr ⟨⟨.loc 1, []⟩, 0, 0⟩), .deadv, .c (.ptr ⟨⟨.loc 3, []⟩, 0, 0⟩), .c (ic n4)] ++ rep 15 .deadv ++ [.c (.imm t20), .c (ic t21), .c (ic t22)] ++ rep 59 .deadv, [(.loc 3, [ic loc3_0, .imm loc3_1, .imm loc3_2]), (.loc 1, [ic loc1_0, .imm loc1_1, .imm loc1_2])]⟩ (res3 r) (bx3 r)
  | .h1 n4 t33 t34 t35 loc3_0 loc3_1 loc3_2 loc1_0 loc1_1 loc1_2, r => Fin cx3 Try.f3 (kAt body3 [1, 1, 1, 1, 1, 0, 1, 0, 4] []) ⟨[.deadv, .c (.ptr ⟨⟨.loc 1, []⟩, 0, 0⟩), .deadv, .c (.ptr ⟨⟨.loc 3, []⟩, 0, 0⟩), .c (ic n4)] ++ rep 28 .deadv ++ [.c (.imm t33), .c (ic t34), .c (ic t35)] ++ rep 46 .deadv, [(.loc 3, [ic loc3_0, .imm loc3_1, .imm loc3_2]), (.loc 1, [ic loc1_0, .imm loc1_1, .imm loc1_2])]⟩ (res3 r) (bx3 r)
theorem evr3 {a0_0 : Int} {a0_1 : Rs} {a0_2 : Rs} {r : R3} (h : P3 (.e a0_0 a0_1 a0_2) r) : Ev Try.prog noHand 3 [.ag [ic a0_0, .imm a0_1, .imm a0_2]] [] (res3 r) (bx3 r) := ev_of_fin (fn := Try.f3) (body := body3) (by kernel_rfl) (by kernel_rfl) (by kernel_rfl) rfl h
theorem t3_e_ok (k : Nat) (rec : S3 → Option R3) (ih : ∀ s r, rec s = some r → P3 s r) (a0_0 : Int) (a0_1 : Rs) (a0_2 : Rs) (r : R3) (h : t3_e k rec a0_0 a0_1 a0_2 = some r) : P3 (.e a0_0 a0_1 a0_2) r := by
  unfold t3_e at h
  obtain ⟨v_x1, h_x2, h⟩ := bd_or h
  rcases bif_or h with ⟨h_x3, h⟩ | ⟨h_x3, h⟩
  ·
    rw [← Option.some.inj h]
    exact mgo_fin (nb := 0) hmix (n := 2000) (ad := [(some 9, .call (.ret (.c (bc true))) [] false), (some 13, .call (.ret (.c (bc v_x1))) [] false), (some 14, .test true), (some 16, .call (.ret (.c (bc true))) [] false)]) (ps := [_, _, _, _]) (by kernel_rfl) ⟨clA_291, (ev5 h_x2), h_x3, clA_291, trivial⟩
  ·
    obtain ⟨v_x4, h_x5, h⟩ := bd_or h
    obtain ⟨r0_x6, r1_x6, r2_x6, hq, h1'⟩ := tup3_or h
    clear h; subst hq; have h := h1'; clear h1'
    exact mgo_at (nb := 0) hmix (ih _ _ h) (n := 16) (ad := [(some 9, .call (.ret (.c (bc true))) [] false), (some 13, .call (.ret (.c (bc v_x1))) [] false), (some 14, .test false), (some 18, .call (.ret (.ag [ic r0_x6, .imm r1_x6, .imm r2_x6])) [] false)]) (ps := [_, _, _, _]) (m := bm 82 4835703278458516691484645) (ls := []) (cs := []) (by kernel_rfl) ⟨clA_291, (ev5 h_x2), h_x3, (ev6 h_x5), trivial⟩
theorem t3_h0_ok (k : Nat) (rec : S3 → Option R3) (ih : ∀ s r, rec s = some r → P3 s r) (n4 : Int) (t20 : Rs) (t21 : Int) (t22 : Int) (loc3_0 : Int) (loc3_1 : Rs) (loc3_2 : Rs) (loc1_0 : Int) (loc1_1 : Rs) (loc1_2 : Rs) (r : R3) (h : t3_h0 k rec n4 t20 t21 t22 loc3_0 loc3_1 loc3_2 loc1_0 loc1_1 loc1_2 = some r) : P3 (.h0 n4 t20 t21 t22 loc3_0 loc3_1 loc3_2 loc1_0 loc1_1 loc1_2) r := by
  unfold t3_h0 at h
  rcases bif_or h with ⟨h_x1, h⟩ | ⟨h_x1, h⟩
  ·
    obtain ⟨w_x2, h_x3, h⟩ := ixR_or h
    obtain ⟨parent_x4, type_x4, many_x4, window_x4, bars_x4, leaves_x4, guards_x4, ends_x4, hq, h1'⟩ := un_iibim4_or h
    clear h; subst hq; have h := h1'; clear h1'
    exact mgo_at (nb := 0) hmix (ih _ _ h) (n := 13) (ad := [(some 23, .test true), (some 24, .row [ic parent_x4, ic type_x4, bc many_x4, ic window_x4, .imm bars_x4, .imm leaves_x4, .imm guards_x4, .imm ends_x4])]) (ps := [_, _]) (m := bm 82 4835703278458516691484645) (ls := [6]) (cs := []) (by kernel_rfl) ⟨h_x1, ix_row h_x3 rfl, trivial⟩
  ·
    exact mgo_at (nb := 0) hmix (ih _ _ h) (n := 11) (ad := [(some 23, .test false)]) (ps := [_]) (m := bm 82 4835703278458456569282533) (ls := []) (cs := []) (by kernel_rfl) ⟨h_x1, trivial⟩
theorem t3_h1_ok (k : Nat) (rec : S3 → Option R3) (ih : ∀ s r, rec s = some r → P3 s r) (n4 : Int) (t33 : Rs) (t34 : Int) (t35 : Int) (loc3_0 : Int) (loc3_1 : Rs) (loc3_2 : Rs) (loc1_0 : Int) (loc1_1 : Rs) (loc1_2 : Rs) (r : R3) (h : t3_h1 k rec n4 t33 t34 t35 loc3_0 loc3_1 loc3_2 loc1_0 loc1_1 loc1_2 = some r) : P3 (.h1 n4 t33 t34 t35 loc3_0 loc3_1 loc3_2 loc1_0 loc1_1 loc1_2) r := by
  unfold t3_h1 at h
  rcases bif_or h with ⟨h_x1, h⟩ | ⟨h_x1, h⟩
  ·
    obtain ⟨w_x2, h_x3, h⟩ := ixR_or h
    obtain ⟨parent_x4, type_x4, many_x4, window_x4, bars_x4, leaves_x4, guards_x4, ends_x4, hq, h1'⟩ := un_iibim4_or h
    clear h; subst hq; have h := h1'; clear h1'
    exact mgo_at (nb := 0) hmix (ih _ _ h) (n := 13) (ad := [(some 36, .test true), (some 37, .row [ic parent_x4, ic type_x4, bc many_x4, ic window_x4, .imm bars_x4, .imm leaves_x4, .imm guards_x4, .imm ends_x4])]) (ps := [_, _]) (m := bm 82 4835703278458456569282533) (ls := [8]) (cs := []) (by kernel_rfl) ⟨h_x1, ix_row h_x3 rfl, trivial⟩
  ·
    obtain ⟨v_x2, h_x3, h⟩ := bd_or h
    rcases bif_or h with ⟨hq, h1'⟩ | ⟨hq, h1'⟩
    · clear h; subst hq; have h := h1'; clear h1'
      obtain ⟨v_x4, h_x5, h⟩ := bd_or h
      obtain ⟨r0_x6, r1_x6, r2_x6, hq, h1'⟩ := tup3_or h
      clear h; subst hq; have h := h1'; clear h1'
      obtain ⟨v_x7, h_x8, h⟩ := bd_or h
      rcases bif_or h with ⟨hq, h1'⟩ | ⟨hq, h1'⟩
      · clear h; subst hq; have h := h1'; clear h1'
        obtain ⟨v_x9, h_x10, h⟩ := bd_or h
        rcases bif_or h with ⟨hq, h1'⟩ | ⟨hq, h1'⟩
        · clear h; subst hq; have h := h1'; clear h1'
          rcases bif_or h with ⟨h_x11, h⟩ | ⟨h_x11, h⟩
          ·
            rcases bif_or h with ⟨h_x12, h⟩ | ⟨h_x12, h⟩
            ·
              obtain ⟨v_x13, h_x14, h⟩ := bd_or h
              rw [← Option.some.inj h]
              exact mgo_fin (nb := 0) hmix (n := 2000) (ad := [(some 36, .test false), (some 46, .call (.ret (.c (bc true))) [] false), (some 49, .call (.ret (.ag [ic r0_x6, .imm r1_x6, .imm r2_x6])) [] false), (some 51, .call (.ret (.c (bc true))) [] false), (some 55, .call (.ret (.c (bc true))) [] false), (some 64, .test true), (some 68, .test true), (some 72, .call (.ret (.c (bc v_x13))) [] false)]) (ps := [_, _, _, _, _, _, _, _]) (by kernel_rfl) ⟨h_x1, (ev7 h_x3), (ev6 h_x5), (ev8 h_x8), (ev5 h_x10), h_x11, h_x12, (ev7 h_x14), trivial⟩
            ·
              rw [← Option.some.inj h]
              exact mgo_fin (nb := 0) hmix (n := 2000) (ad := [(some 36, .test false), (some 46, .call (.ret (.c (bc true))) [] false), (some 49, .call (.ret (.ag [ic r0_x6, .imm r1_x6, .imm r2_x6])) [] false), (some 51, .call (.ret (.c (bc true))) [] false), (some 55, .call (.ret (.c (bc true))) [] false), (some 64, .test true), (some 68, .test false)]) (ps := [_, _, _, _, _, _, _]) (by kernel_rfl) ⟨h_x1, (ev7 h_x3), (ev6 h_x5), (ev8 h_x8), (ev5 h_x10), h_x11, h_x12, trivial⟩
          ·
            rw [← Option.some.inj h]
            exact mgo_fin (nb := 0) hmix (n := 2000) (ad := [(some 36, .test false), (some 46, .call (.ret (.c (bc true))) [] false), (some 49, .call (.ret (.ag [ic r0_x6, .imm r1_x6, .imm r2_x6])) [] false), (some 51, .call (.ret (.c (bc true))) [] false), (some 55, .call (.ret (.c (bc true))) [] false), (some 64, .test false)]) (ps := [_, _, _, _, _, _]) (by kernel_rfl) ⟨h_x1, (ev7 h_x3), (ev6 h_x5), (ev8 h_x8), (ev5 h_x10), h_x11, trivial⟩
        · clear h; subst hq; have h := h1'; clear h1'
          rw [← Option.some.inj h]
          exact mgo_fin (nb := 0) hmix (n := 2000) (ad := [(some 36, .test false), (some 46, .call (.ret (.c (bc true))) [] false), (some 49, .call (.ret (.ag [ic r0_x6, .imm r1_x6, .imm r2_x6])) [] false), (some 51, .call (.ret (.c (bc true))) [] false), (some 55, .call (.ret (.c (bc false))) [] false)]) (ps := [_, _, _, _, _]) (by kernel_rfl) ⟨h_x1, (ev7 h_x3), (ev6 h_x5), (ev8 h_x8), (ev5 h_x10), trivial⟩
      · clear h; subst hq; have h := h1'; clear h1'
        rw [← Option.some.inj h]
        exact mgo_fin (nb := 0) hmix (n := 2000) (ad := [(some 36, .test false), (some 46, .call (.ret (.c (bc true))) [] false), (some 49, .call (.ret (.ag [ic r0_x6, .imm r1_x6, .imm r2_x6])) [] false), (some 51, .call (.ret (.c (bc false))) [] false)]) (ps := [_, _, _, _]) (by kernel_rfl) ⟨h_x1, (ev7 h_x3), (ev6 h_x5), (ev8 h_x8), trivial⟩
    · clear h; subst hq; have h := h1'; clear h1'
      rw [← Option.some.inj h]
      exact mgo_fin (nb := 0) hmix (n := 2000) (ad := [(some 36, .test false), (some 46, .call (.ret (.c (bc false))) [] false)]) (ps := [_, _]) (by kernel_rfl) ⟨h_x1, (ev7 h_x3), trivial⟩
theorem ok3 : ∀ k s r, itS step3 k s = some r → P3 s r := itS_ok fun k rec ih s r h => match s, h with
  | .e a0_0 a0_1 a0_2, h => t3_e_ok k rec ih a0_0 a0_1 a0_2 r h
  | .h0 n4 t20 t21 t22 loc3_0 loc3_1 loc3_2 loc1_0 loc1_1 loc1_2, h => t3_h0_ok k rec ih n4 t20 t21 t22 loc3_0 loc3_1 loc3_2 loc1_0 loc1_1 loc1_2 r h
  | .h1 n4 t33 t34 t35 loc3_0 loc3_1 loc3_2 loc1_0 loc1_1 loc1_2, h => t3_h1_ok k rec ih n4 t33 t34 t35 loc3_0 loc3_1 loc3_2 loc1_0 loc1_1 loc1_2 r h
theorem ev3 {k : Nat} {a0_0 : Int} {a0_1 : Rs} {a0_2 : Rs} {r : R3} (h : g3 k a0_0 a0_1 a0_2 = some r) : Ev Try.prog noHand 3 [.ag [ic a0_0, .imm a0_1, .imm a0_2]] [] (res3 r) (bx3 r) := evr3 (ok3 _ _ _ h)
end Ab
end Go.Proofs.Ytgghingfdcmelaa
