/-
  Functions' ways, printed by a program: what each computes, and that this is what the interpreter computes.
-/
import Derived.Test.YtebmcaceklbopaaF7
import Derived.KernelRfl
set_option linter.unusedVariables false
set_option linter.unusedSimpArgs false
namespace Go.Proofs.Ytebmcaceklbopaa
namespace Ab
-- auspice/ssa.Plain
inductive S15 where
  | e (c0_0 : Int) (c0_1 : Int) (c0_2 : Rs) (c0_3 : Rs) (c0_4 : Rs)
  | h0 (t23 : Bool) (loc1_0 : Int) (loc1_1 : Int) (loc1_2 : Rs) (loc1_3 : Rs) (loc1_4 : Rs)
  | h1 (t28 : Rs) (t29 : Int) (t30 : Int) (loc1_0 : Int) (loc1_1 : Int) (loc1_2 : Rs) (loc1_3 : Rs) (loc1_4 : Rs)
  | h2 (i3 : Int) (ok5 : Bool) (t28 : Rs) (t29 : Int) (t30 : Int) (loc4_0 : Int) (loc4_1 : Int) (loc4_2 : Int) (loc4_3 : Int) (loc1_0 : Int) (loc1_1 : Int) (loc1_2 : Rs) (loc1_3 : Rs) (loc1_4 : Rs)
  | h3 (t28 : Rs) (t29 : Int) (t30 : Int) (t126 : Bool) (loc1_0 : Int) (loc1_1 : Int) (loc1_2 : Rs) (loc1_3 : Rs) (loc1_4 : Rs)
abbrev R15 := Bool
def res15 : R15 → ARes
  | r => .ret (.c (bc r))
def bx15 : R15 → List (List Cell)
  | r => []
noncomputable def t15_e (k : Nat) (rec : S15 → Option R15) (c0_0 : Int) (c0_1 : Int) (c0_2 : Rs) (c0_3 : Rs) (c0_4 : Rs) : Option R15 :=
  bif c0_1 != 0 then
    rec (.h0 true c0_0 c0_1 c0_2 c0_3 c0_4)
  else
    bif decide (c0_0 < 1) then
      rec (.h0 true c0_0 c0_1 c0_2 c0_3 c0_4)
    else
      rec (.h0 ((c0_4.length : Int) != (IntKind.i64.wrap (c0_0 + 1))) c0_0 c0_1 c0_2 c0_3 c0_4)
noncomputable def t15_h0 (k : Nat) (rec : S15 → Option R15) (t23 : Bool) (loc1_0 : Int) (loc1_1 : Int) (loc1_2 : Rs) (loc1_3 : Rs) (loc1_4 : Rs) : Option R15 :=
  bif t23 then
    some false
  else
    gd (slOk 0 loc1_0 loc1_4 4) <|
    rec (.h1 (List.drop (Int.toNat 0) (List.take (Int.toNat loc1_0) loc1_4)) ((List.drop (Int.toNat 0) (List.take (Int.toNat loc1_0) loc1_4)).length : Int) 0 loc1_0 loc1_1 loc1_2 loc1_3 loc1_4)
noncomputable def t15_h1 (k : Nat) (rec : S15 → Option R15) (t28 : Rs) (t29 : Int) (t30 : Int) (loc1_0 : Int) (loc1_1 : Int) (loc1_2 : Rs) (loc1_3 : Rs) (loc1_4 : Rs) : Option R15 :=
  bif decide (t30 < t29) then
    ixR t28 t30 fun w_x2 =>
    un_i4 w_x2 fun op_x4 dst_x4 a_x4 b_x4 =>
    bif op_x4 == 50 then
      bif decide (a_x4 ≥ 0) then
        bif decide (a_x4 < (loc1_2.length : Int)) then
          rec (.h2 t30 (b_x4 == 0) t28 t29 t30 op_x4 dst_x4 a_x4 b_x4 loc1_0 loc1_1 loc1_2 loc1_3 loc1_4)
        else
          rec (.h2 t30 false t28 t29 t30 op_x4 dst_x4 a_x4 b_x4 loc1_0 loc1_1 loc1_2 loc1_3 loc1_4)
      else
        rec (.h2 t30 false t28 t29 t30 op_x4 dst_x4 a_x4 b_x4 loc1_0 loc1_1 loc1_2 loc1_3 loc1_4)
    else
      bif op_x4 == 51 then
        bif decide (a_x4 ≥ 0) then
          bif decide (a_x4 < (loc1_3.length : Int)) then
            rec (.h2 t30 (b_x4 == 0) t28 t29 t30 op_x4 dst_x4 a_x4 b_x4 loc1_0 loc1_1 loc1_2 loc1_3 loc1_4)
          else
            rec (.h2 t30 false t28 t29 t30 op_x4 dst_x4 a_x4 b_x4 loc1_0 loc1_1 loc1_2 loc1_3 loc1_4)
        else
          rec (.h2 t30 false t28 t29 t30 op_x4 dst_x4 a_x4 b_x4 loc1_0 loc1_1 loc1_2 loc1_3 loc1_4)
      else
        (g30 k op_x4).bind fun v_x7 =>
        bif v_x7 == 1 then
          bif decide (a_x4 ≥ 0) then
            bif decide (a_x4 < t30) then
              rec (.h2 t30 (b_x4 == 0) t28 t29 t30 op_x4 dst_x4 a_x4 b_x4 loc1_0 loc1_1 loc1_2 loc1_3 loc1_4)
            else
              rec (.h2 t30 false t28 t29 t30 op_x4 dst_x4 a_x4 b_x4 loc1_0 loc1_1 loc1_2 loc1_3 loc1_4)
          else
            rec (.h2 t30 false t28 t29 t30 op_x4 dst_x4 a_x4 b_x4 loc1_0 loc1_1 loc1_2 loc1_3 loc1_4)
        else
          bif v_x7 == 2 then
            bif decide (a_x4 ≥ 0) then
              bif decide (a_x4 < t30) then
                bif decide (b_x4 ≥ 0) then
                  rec (.h2 t30 (decide (b_x4 < t30)) t28 t29 t30 op_x4 dst_x4 a_x4 b_x4 loc1_0 loc1_1 loc1_2 loc1_3 loc1_4)
                else
                  rec (.h2 t30 false t28 t29 t30 op_x4 dst_x4 a_x4 b_x4 loc1_0 loc1_1 loc1_2 loc1_3 loc1_4)
              else
                rec (.h2 t30 false t28 t29 t30 op_x4 dst_x4 a_x4 b_x4 loc1_0 loc1_1 loc1_2 loc1_3 loc1_4)
            else
              rec (.h2 t30 false t28 t29 t30 op_x4 dst_x4 a_x4 b_x4 loc1_0 loc1_1 loc1_2 loc1_3 loc1_4)
          else
            rec (.h2 t30 false t28 t29 t30 op_x4 dst_x4 a_x4 b_x4 loc1_0 loc1_1 loc1_2 loc1_3 loc1_4)
  else
    ixR loc1_4 loc1_0 fun w_x2 =>
    un_i4 w_x2 fun op_x4 dst_x4 a_x4 b_x4 =>
    bif op_x4 == 52 then
      bif dst_x4 == 0 then
        bif b_x4 == 0 then
          bif decide (a_x4 ≥ 0) then
            some (decide (a_x4 < loc1_0))
          else
            some false
        else
          some false
      else
        some false
    else
      some false
noncomputable def t15_h2 (k : Nat) (rec : S15 → Option R15) (i3 : Int) (ok5 : Bool) (t28 : Rs) (t29 : Int) (t30 : Int) (loc4_0 : Int) (loc4_1 : Int) (loc4_2 : Int) (loc4_3 : Int) (loc1_0 : Int) (loc1_1 : Int) (loc1_2 : Rs) (loc1_3 : Rs) (loc1_4 : Rs) : Option R15 :=
  bif !ok5 then
    rec (.h3 t28 t29 t30 true loc1_0 loc1_1 loc1_2 loc1_3 loc1_4)
  else
    rec (.h3 t28 t29 t30 (loc4_1 != i3) loc1_0 loc1_1 loc1_2 loc1_3 loc1_4)
noncomputable def t15_h3 (k : Nat) (rec : S15 → Option R15) (t28 : Rs) (t29 : Int) (t30 : Int) (t126 : Bool) (loc1_0 : Int) (loc1_1 : Int) (loc1_2 : Rs) (loc1_3 : Rs) (loc1_4 : Rs) : Option R15 :=
  bif t126 then
    some false
  else
    rec (.h1 t28 t29 (IntKind.i64.wrap (t30 + 1)) loc1_0 loc1_1 loc1_2 loc1_3 loc1_4)
noncomputable def step15 (k : Nat) (rec : S15 → Option R15) : S15 → Option R15
  | .e c0_0 c0_1 c0_2 c0_3 c0_4 => t15_e k rec c0_0 c0_1 c0_2 c0_3 c0_4
  | .h0 t23 loc1_0 loc1_1 loc1_2 loc1_3 loc1_4 => t15_h0 k rec t23 loc1_0 loc1_1 loc1_2 loc1_3 loc1_4
  | .h1 t28 t29 t30 loc1_0 loc1_1 loc1_2 loc1_3 loc1_4 => t15_h1 k rec t28 t29 t30 loc1_0 loc1_1 loc1_2 loc1_3 loc1_4
  | .h2 i3 ok5 t28 t29 t30 loc4_0 loc4_1 loc4_2 loc4_3 loc1_0 loc1_1 loc1_2 loc1_3 loc1_4 => t15_h2 k rec i3 ok5 t28 t29 t30 loc4_0 loc4_1 loc4_2 loc4_3 loc1_0 loc1_1 loc1_2 loc1_3 loc1_4
  | .h3 t28 t29 t30 t126 loc1_0 loc1_1 loc1_2 loc1_3 loc1_4 => t15_h3 k rec t28 t29 t30 t126 loc1_0 loc1_1 loc1_2 loc1_3 loc1_4
noncomputable def g15 (k : Nat) (c0_0 : Int) (c0_1 : Int) (c0_2 : Rs) (c0_3 : Rs) (c0_4 : Rs) : Option R15 := itS step15 k (.e c0_0 c0_1 c0_2 c0_3 c0_4)
noncomputable def P15 : S15 → R15 → Prop
  | .e c0_0 c0_1 c0_2 c0_3 c0_4, r => Fin cx15 Try.f15 [.code body15] (fr0 Try.f15 [.ag [ic c0_0, ic c0_1, .imm c0_2, .imm c0_3, .imm c0_4]] []) (res15 r) (bx15 r)
  | .h0 t23 loc1_0 loc1_1 loc1_2 loc1_3 loc1_4, r => Fin cx15 Try.f15 (kAt body15 [1, 0, 1, 2] []) ⟨[.deadv, .c (.ptr ⟨⟨.loc 1, []⟩, 0, 0⟩)] ++ rep 21 .deadv ++ [.c (bc t23)] ++ rep 135 .deadv, [(.loc 1, [ic loc1_0, ic loc1_1, .imm loc1_2, .imm loc1_3, .imm loc1_4])]⟩ (res15 r) (bx15 r)
  | .h1 t28 t29 t30 loc1_0 loc1_1 loc1_2 loc1_3 loc1_4, r => Fin cx15 Try.f15 (kAt body15 [1, 1, 0, 1, 0, 4] []) ⟨[.deadv, .c (.ptr ⟨⟨.loc 1, []⟩, 0, 0⟩)] ++ rep 26 .deadv ++ [.c (.imm t28), .c (ic t29), .c (ic t30)] ++ rep 128 .deadv, [(.loc 1, [ic loc1_0, ic loc1_1, .imm loc1_2, .imm loc1_3, .imm loc1_4])]⟩ (res15 r) (bx15 r)
  | .h2 i3 ok5 t28 t29 t30 loc4_0 loc4_1 loc4_2 loc4_3 loc1_0 loc1_1 loc1_2 loc1_3 loc1_4, r => Fin cx15 Try.f15 (kAt body15 [1, 1, 0, 1, 0, 0, 1, 1, 0, 0, 1, 1, 1, 2] []) ⟨[.deadv, .c (.ptr ⟨⟨.loc 1, []⟩, 0, 0⟩), .deadv, .c (ic i3), .c (.ptr ⟨⟨.loc 4, []⟩, 0, 0⟩), .c (bc ok5)] ++ rep 22 .deadv ++ [.c (.imm t28), .c (ic t29), .c (ic t30)] ++ rep 128 .deadv, [(.loc 4, [ic loc4_0, ic loc4_1, ic loc4_2, ic loc4_3]), (.loc 1, [ic loc1_0, ic loc1_1, .imm loc1_2, .imm loc1_3, .imm loc1_4])]⟩ (res15 r) (bx15 r)
  | .h3 t28 t29 t30 t126 loc1_0 loc1_1 loc1_2 loc1_3 loc1_4, r => Fin cx15 Try.f15 (kAt body15 [1, 1, 0, 1, 0, 0, 1, 1, 0, 0, 1, 1, 1, 1, 2] []) ⟨[.deadv, .c (.ptr ⟨⟨.loc 1, []⟩, 0, 0⟩)] ++ rep 26 .deadv ++ [.c (.imm t28), .c (ic t29), .c (ic t30)] ++ rep 95 .deadv ++ [.c (bc t126)] ++ rep 32 .deadv, [(.loc 1, [ic loc1_0, ic loc1_1, .imm loc1_2, .imm loc1_3, .imm loc1_4])]⟩ (res15 r) (bx15 r)
theorem evr15 {c0_0 : Int} {c0_1 : Int} {c0_2 : Rs} {c0_3 : Rs} {c0_4 : Rs} {r : R15} (h : P15 (.e c0_0 c0_1 c0_2 c0_3 c0_4) r) : Ev Try.prog noHand 15 [.ag [ic c0_0, ic c0_1, .imm c0_2, .imm c0_3, .imm c0_4]] [] (res15 r) (bx15 r) := ev_of_fin (fn := Try.f15) (body := body15) (by kernel_rfl) (by kernel_rfl) (by kernel_rfl) rfl h
theorem t15_e_ok (k : Nat) (rec : S15 → Option R15) (ih : ∀ s r, rec s = some r → P15 s r) (c0_0 : Int) (c0_1 : Int) (c0_2 : Rs) (c0_3 : Rs) (c0_4 : Rs) (r : R15) (h : t15_e k rec c0_0 c0_1 c0_2 c0_3 c0_4 = some r) : P15 (.e c0_0 c0_1 c0_2 c0_3 c0_4) r := by
  unfold t15_e at h
  rcases bif_or h with ⟨h_x1, h⟩ | ⟨h_x1, h⟩
  ·
    exact mgo_at (nb := 0) hmix (ih _ _ h) (n := 5) (ad := [(some 9, .test true)]) (ps := [_]) (m := bm 159 730750818665451459101842416358141509827957882877) (ls := []) (cs := []) (by kernel_rfl) ⟨h_x1, trivial⟩
  ·
    rcases bif_or h with ⟨h_x2, h⟩ | ⟨h_x2, h⟩
    ·
      exact mgo_at (nb := 0) hmix (ih _ _ h) (n := 5) (ad := [(some 9, .test false), (some 13, .test true)]) (ps := [_, _]) (m := bm 159 730750818665451459101842416358141509827957882877) (ls := []) (cs := []) (by kernel_rfl) ⟨h_x1, h_x2, trivial⟩
    ·
      exact mgo_at (nb := 0) hmix (ih _ _ h) (n := 5) (ad := [(some 9, .test false), (some 13, .test false)]) (ps := [_, _]) (m := bm 159 730750818665451459101842416358141509827957882877) (ls := []) (cs := []) (by kernel_rfl) ⟨h_x1, h_x2, trivial⟩
theorem t15_h0_ok (k : Nat) (rec : S15 → Option R15) (ih : ∀ s r, rec s = some r → P15 s r) (t23 : Bool) (loc1_0 : Int) (loc1_1 : Int) (loc1_2 : Rs) (loc1_3 : Rs) (loc1_4 : Rs) (r : R15) (h : t15_h0 k rec t23 loc1_0 loc1_1 loc1_2 loc1_3 loc1_4 = some r) : P15 (.h0 t23 loc1_0 loc1_1 loc1_2 loc1_3 loc1_4) r := by
  unfold t15_h0 at h
  rcases bif_or h with ⟨hq, h1'⟩ | ⟨hq, h1'⟩
  · clear h; subst hq; have h := h1'; clear h1'
    rw [← Option.some.inj h]
    exact mgo_fin (nb := 0) hmix (n := 2000) (ad := []) (ps := []) (by kernel_rfl) trivial
  · clear h; subst hq; have h := h1'; clear h1'
    obtain ⟨h_x1, h⟩ := gd_or h
    exact mgo_at (nb := 0) hmix (ih _ _ h) (n := 7) (ad := [(some 28, .ok)]) (ps := [_]) (m := bm 159 730750818665451459101842416358141509826087223293) (ls := []) (cs := []) (by kernel_rfl) ⟨of_decide_eq_true h_x1, trivial⟩
theorem t15_h1_ok (k : Nat) (rec : S15 → Option R15) (ih : ∀ s r, rec s = some r → P15 s r) (t28 : Rs) (t29 : Int) (t30 : Int) (loc1_0 : Int) (loc1_1 : Int) (loc1_2 : Rs) (loc1_3 : Rs) (loc1_4 : Rs) (r : R15) (h : t15_h1 k rec t28 t29 t30 loc1_0 loc1_1 loc1_2 loc1_3 loc1_4 = some r) : P15 (.h1 t28 t29 t30 loc1_0 loc1_1 loc1_2 loc1_3 loc1_4) r := by
  unfold t15_h1 at h
  rcases bif_or h with ⟨h_x1, h⟩ | ⟨h_x1, h⟩
  ·
    obtain ⟨w_x2, h_x3, h⟩ := ixR_or h
    obtain ⟨op_x4, dst_x4, a_x4, b_x4, hq, h1'⟩ := un_i4_or h
    clear h; subst hq; have h := h1'; clear h1'
    rcases bif_or h with ⟨h_x5, h⟩ | ⟨h_x5, h⟩
    ·
      rcases bif_or h with ⟨h_x6, h⟩ | ⟨h_x6, h⟩
      ·
        rcases bif_or h with ⟨h_x7, h⟩ | ⟨h_x7, h⟩
        ·
          exact mgo_at (nb := 0) hmix (ih _ _ h) (n := 19) (ad := [(some 31, .test true), (some 33, .row [ic op_x4, ic dst_x4, ic a_x4, ic b_x4]), (some 38, .test true), (some 41, .test true), (some 48, .test true)]) (ps := [_, _, _, _, _]) (m := bm 159 730750818665451459101842416358141509826087223237) (ls := []) (cs := []) (by kernel_rfl) ⟨h_x1, ix_row h_x3 rfl, h_x5, h_x6, h_x7, trivial⟩
        ·
          exact mgo_at (nb := 0) hmix (ih _ _ h) (n := 19) (ad := [(some 31, .test true), (some 33, .row [ic op_x4, ic dst_x4, ic a_x4, ic b_x4]), (some 38, .test true), (some 41, .test true), (some 48, .test false)]) (ps := [_, _, _, _, _]) (m := bm 159 730750818665451459101842416358141509826087223237) (ls := []) (cs := []) (by kernel_rfl) ⟨h_x1, ix_row h_x3 rfl, h_x5, h_x6, h_x7, trivial⟩
      ·
        exact mgo_at (nb := 0) hmix (ih _ _ h) (n := 19) (ad := [(some 31, .test true), (some 33, .row [ic op_x4, ic dst_x4, ic a_x4, ic b_x4]), (some 38, .test true), (some 41, .test false)]) (ps := [_, _, _, _]) (m := bm 159 730750818665451459101842416358141509826087223237) (ls := []) (cs := []) (by kernel_rfl) ⟨h_x1, ix_row h_x3 rfl, h_x5, h_x6, trivial⟩
    ·
      rcases bif_or h with ⟨h_x6, h⟩ | ⟨h_x6, h⟩
      ·
        rcases bif_or h with ⟨h_x7, h⟩ | ⟨h_x7, h⟩
        ·
          rcases bif_or h with ⟨h_x8, h⟩ | ⟨h_x8, h⟩
          ·
            exact mgo_at (nb := 0) hmix (ih _ _ h) (n := 22) (ad := [(some 31, .test true), (some 33, .row [ic op_x4, ic dst_x4, ic a_x4, ic b_x4]), (some 38, .test false), (some 58, .test true), (some 61, .test true), (some 68, .test true)]) (ps := [_, _, _, _, _, _]) (m := bm 159 730750818665451459101842416358141509826087223237) (ls := []) (cs := []) (by kernel_rfl) ⟨h_x1, ix_row h_x3 rfl, h_x5, h_x6, h_x7, h_x8, trivial⟩
          ·
            exact mgo_at (nb := 0) hmix (ih _ _ h) (n := 22) (ad := [(some 31, .test true), (some 33, .row [ic op_x4, ic dst_x4, ic a_x4, ic b_x4]), (some 38, .test false), (some 58, .test true), (some 61, .test true), (some 68, .test false)]) (ps := [_, _, _, _, _, _]) (m := bm 159 730750818665451459101842416358141509826087223237) (ls := []) (cs := []) (by kernel_rfl) ⟨h_x1, ix_row h_x3 rfl, h_x5, h_x6, h_x7, h_x8, trivial⟩
        ·
          exact mgo_at (nb := 0) hmix (ih _ _ h) (n := 22) (ad := [(some 31, .test true), (some 33, .row [ic op_x4, ic dst_x4, ic a_x4, ic b_x4]), (some 38, .test false), (some 58, .test true), (some 61, .test false)]) (ps := [_, _, _, _, _]) (m := bm 159 730750818665451459101842416358141509826087223237) (ls := []) (cs := []) (by kernel_rfl) ⟨h_x1, ix_row h_x3 rfl, h_x5, h_x6, h_x7, trivial⟩
      ·
        obtain ⟨v_x7, h_x8, h⟩ := bd_or h
        rcases bif_or h with ⟨h_x9, h⟩ | ⟨h_x9, h⟩
        ·
          rcases bif_or h with ⟨h_x10, h⟩ | ⟨h_x10, h⟩
          ·
            rcases bif_or h with ⟨h_x11, h⟩ | ⟨h_x11, h⟩
            ·
              exact mgo_at (nb := 0) hmix (ih _ _ h) (n := 25) (ad := [(some 31, .test true), (some 33, .row [ic op_x4, ic dst_x4, ic a_x4, ic b_x4]), (some 38, .test false), (some 58, .test false), (some 78, .call (.ret (.c (ic v_x7))) [] false), (some 79, .test true), (some 82, .test true), (some 87, .test true)]) (ps := [_, _, _, _, _, _, _, _]) (m := bm 159 730750818665451459101842416358141509826087223237) (ls := []) (cs := []) (by kernel_rfl) ⟨h_x1, ix_row h_x3 rfl, h_x5, h_x6, (ev30 h_x8), h_x9, h_x10, h_x11, trivial⟩
            ·
              exact mgo_at (nb := 0) hmix (ih _ _ h) (n := 25) (ad := [(some 31, .test true), (some 33, .row [ic op_x4, ic dst_x4, ic a_x4, ic b_x4]), (some 38, .test false), (some 58, .test false), (some 78, .call (.ret (.c (ic v_x7))) [] false), (some 79, .test true), (some 82, .test true), (some 87, .test false)]) (ps := [_, _, _, _, _, _, _, _]) (m := bm 159 730750818665451459101842416358141509826087223237) (ls := []) (cs := []) (by kernel_rfl) ⟨h_x1, ix_row h_x3 rfl, h_x5, h_x6, (ev30 h_x8), h_x9, h_x10, h_x11, trivial⟩
          ·
            exact mgo_at (nb := 0) hmix (ih _ _ h) (n := 25) (ad := [(some 31, .test true), (some 33, .row [ic op_x4, ic dst_x4, ic a_x4, ic b_x4]), (some 38, .test false), (some 58, .test false), (some 78, .call (.ret (.c (ic v_x7))) [] false), (some 79, .test true), (some 82, .test false)]) (ps := [_, _, _, _, _, _, _]) (m := bm 159 730750818665451459101842416358141509826087223237) (ls := []) (cs := []) (by kernel_rfl) ⟨h_x1, ix_row h_x3 rfl, h_x5, h_x6, (ev30 h_x8), h_x9, h_x10, trivial⟩
        ·
          rcases bif_or h with ⟨h_x10, h⟩ | ⟨h_x10, h⟩
          ·
            rcases bif_or h with ⟨h_x11, h⟩ | ⟨h_x11, h⟩
            ·
              rcases bif_or h with ⟨h_x12, h⟩ | ⟨h_x12, h⟩
              ·
                rcases bif_or h with ⟨h_x13, h⟩ | ⟨h_x13, h⟩
                ·
                  exact mgo_at (nb := 0) hmix (ih _ _ h) (n := 28) (ad := [(some 31, .test true), (some 33, .row [ic op_x4, ic dst_x4, ic a_x4, ic b_x4]), (some 38, .test false), (some 58, .test false), (some 78, .call (.ret (.c (ic v_x7))) [] false), (some 79, .test false), (some 97, .call (.ret (.c (ic v_x7))) [] false), (some 98, .test true), (some 101, .test true), (some 106, .test true), (some 111, .test true)]) (ps := [_, _, _, _, _, _, _, _, _, _, _]) (m := bm 159 730750818665451459101842416358141509826087223237) (ls := []) (cs := []) (by kernel_rfl) ⟨h_x1, ix_row h_x3 rfl, h_x5, h_x6, (ev30 h_x8), h_x9, (ev30 h_x8), h_x10, h_x11, h_x12, h_x13, trivial⟩
                ·
                  exact mgo_at (nb := 0) hmix (ih _ _ h) (n := 28) (ad := [(some 31, .test true), (some 33, .row [ic op_x4, ic dst_x4, ic a_x4, ic b_x4]), (some 38, .test false), (some 58, .test false), (some 78, .call (.ret (.c (ic v_x7))) [] false), (some 79, .test false), (some 97, .call (.ret (.c (ic v_x7))) [] false), (some 98, .test true), (some 101, .test true), (some 106, .test true), (some 111, .test false)]) (ps := [_, _, _, _, _, _, _, _, _, _, _]) (m := bm 159 730750818665451459101842416358141509826087223237) (ls := []) (cs := []) (by kernel_rfl) ⟨h_x1, ix_row h_x3 rfl, h_x5, h_x6, (ev30 h_x8), h_x9, (ev30 h_x8), h_x10, h_x11, h_x12, h_x13, trivial⟩
              ·
                exact mgo_at (nb := 0) hmix (ih _ _ h) (n := 28) (ad := [(some 31, .test true), (some 33, .row [ic op_x4, ic dst_x4, ic a_x4, ic b_x4]), (some 38, .test false), (some 58, .test false), (some 78, .call (.ret (.c (ic v_x7))) [] false), (some 79, .test false), (some 97, .call (.ret (.c (ic v_x7))) [] false), (some 98, .test true), (some 101, .test true), (some 106, .test false)]) (ps := [_, _, _, _, _, _, _, _, _, _]) (m := bm 159 730750818665451459101842416358141509826087223237) (ls := []) (cs := []) (by kernel_rfl) ⟨h_x1, ix_row h_x3 rfl, h_x5, h_x6, (ev30 h_x8), h_x9, (ev30 h_x8), h_x10, h_x11, h_x12, trivial⟩
            ·
              exact mgo_at (nb := 0) hmix (ih _ _ h) (n := 28) (ad := [(some 31, .test true), (some 33, .row [ic op_x4, ic dst_x4, ic a_x4, ic b_x4]), (some 38, .test false), (some 58, .test false), (some 78, .call (.ret (.c (ic v_x7))) [] false), (some 79, .test false), (some 97, .call (.ret (.c (ic v_x7))) [] false), (some 98, .test true), (some 101, .test false)]) (ps := [_, _, _, _, _, _, _, _, _]) (m := bm 159 730750818665451459101842416358141509826087223237) (ls := []) (cs := []) (by kernel_rfl) ⟨h_x1, ix_row h_x3 rfl, h_x5, h_x6, (ev30 h_x8), h_x9, (ev30 h_x8), h_x10, h_x11, trivial⟩
          ·
            exact mgo_at (nb := 0) hmix (ih _ _ h) (n := 28) (ad := [(some 31, .test true), (some 33, .row [ic op_x4, ic dst_x4, ic a_x4, ic b_x4]), (some 38, .test false), (some 58, .test false), (some 78, .call (.ret (.c (ic v_x7))) [] false), (some 79, .test false), (some 97, .call (.ret (.c (ic v_x7))) [] false), (some 98, .test false)]) (ps := [_, _, _, _, _, _, _, _]) (m := bm 159 730750818665451459101842416358141509826087223237) (ls := []) (cs := []) (by kernel_rfl) ⟨h_x1, ix_row h_x3 rfl, h_x5, h_x6, (ev30 h_x8), h_x9, (ev30 h_x8), h_x10, trivial⟩
  ·
    obtain ⟨w_x2, h_x3, h⟩ := ixR_or h
    obtain ⟨op_x4, dst_x4, a_x4, b_x4, hq, h1'⟩ := un_i4_or h
    clear h; subst hq; have h := h1'; clear h1'
    rcases bif_or h with ⟨h_x5, h⟩ | ⟨h_x5, h⟩
    ·
      rcases bif_or h with ⟨h_x6, h⟩ | ⟨h_x6, h⟩
      ·
        rcases bif_or h with ⟨h_x7, h⟩ | ⟨h_x7, h⟩
        ·
          rcases bif_or h with ⟨h_x8, h⟩ | ⟨h_x8, h⟩
          ·
            rw [← Option.some.inj h]
            exact mgo_fin (nb := 0) hmix (n := 2000) (ad := [(some 31, .test false), (some 132, .row [ic op_x4, ic dst_x4, ic a_x4, ic b_x4]), (some 136, .test true), (some 140, .test true), (some 145, .test true), (some 150, .test true)]) (ps := [_, _, _, _, _, _]) (by kernel_rfl) ⟨h_x1, ix_row h_x3 rfl, h_x5, h_x6, h_x7, h_x8, trivial⟩
          ·
            rw [← Option.some.inj h]
            exact mgo_fin (nb := 0) hmix (n := 2000) (ad := [(some 31, .test false), (some 132, .row [ic op_x4, ic dst_x4, ic a_x4, ic b_x4]), (some 136, .test true), (some 140, .test true), (some 145, .test true), (some 150, .test false)]) (ps := [_, _, _, _, _, _]) (by kernel_rfl) ⟨h_x1, ix_row h_x3 rfl, h_x5, h_x6, h_x7, h_x8, trivial⟩
        ·
          rw [← Option.some.inj h]
          exact mgo_fin (nb := 0) hmix (n := 2000) (ad := [(some 31, .test false), (some 132, .row [ic op_x4, ic dst_x4, ic a_x4, ic b_x4]), (some 136, .test true), (some 140, .test true), (some 145, .test false)]) (ps := [_, _, _, _, _]) (by kernel_rfl) ⟨h_x1, ix_row h_x3 rfl, h_x5, h_x6, h_x7, trivial⟩
      ·
        rw [← Option.some.inj h]
        exact mgo_fin (nb := 0) hmix (n := 2000) (ad := [(some 31, .test false), (some 132, .row [ic op_x4, ic dst_x4, ic a_x4, ic b_x4]), (some 136, .test true), (some 140, .test false)]) (ps := [_, _, _, _]) (by kernel_rfl) ⟨h_x1, ix_row h_x3 rfl, h_x5, h_x6, trivial⟩
    ·
      rw [← Option.some.inj h]
      exact mgo_fin (nb := 0) hmix (n := 2000) (ad := [(some 31, .test false), (some 132, .row [ic op_x4, ic dst_x4, ic a_x4, ic b_x4]), (some 136, .test false)]) (ps := [_, _, _]) (by kernel_rfl) ⟨h_x1, ix_row h_x3 rfl, h_x5, trivial⟩
theorem t15_h2_ok (k : Nat) (rec : S15 → Option R15) (ih : ∀ s r, rec s = some r → P15 s r) (i3 : Int) (ok5 : Bool) (t28 : Rs) (t29 : Int) (t30 : Int) (loc4_0 : Int) (loc4_1 : Int) (loc4_2 : Int) (loc4_3 : Int) (loc1_0 : Int) (loc1_1 : Int) (loc1_2 : Rs) (loc1_3 : Rs) (loc1_4 : Rs) (r : R15) (h : t15_h2 k rec i3 ok5 t28 t29 t30 loc4_0 loc4_1 loc4_2 loc4_3 loc1_0 loc1_1 loc1_2 loc1_3 loc1_4 = some r) : P15 (.h2 i3 ok5 t28 t29 t30 loc4_0 loc4_1 loc4_2 loc4_3 loc1_0 loc1_1 loc1_2 loc1_3 loc1_4) r := by
  unfold t15_h2 at h
  rcases bif_or h with ⟨h_x1, h⟩ | ⟨h_x1, h⟩
  ·
    exact mgo_at (nb := 0) hmix (ih _ _ h) (n := 2) (ad := [(some 120, .test true)]) (ps := [_]) (m := bm 159 730750818580380867371607800492297857968145170429) (ls := [4]) (cs := []) (by kernel_rfl) ⟨h_x1, trivial⟩
  ·
    exact mgo_at (nb := 0) hmix (ih _ _ h) (n := 2) (ad := [(some 120, .test false)]) (ps := [_]) (m := bm 159 730750818580380867371607800492297857968145170429) (ls := [4]) (cs := []) (by kernel_rfl) ⟨h_x1, trivial⟩
theorem t15_h3_ok (k : Nat) (rec : S15 → Option R15) (ih : ∀ s r, rec s = some r → P15 s r) (t28 : Rs) (t29 : Int) (t30 : Int) (t126 : Bool) (loc1_0 : Int) (loc1_1 : Int) (loc1_2 : Rs) (loc1_3 : Rs) (loc1_4 : Rs) (r : R15) (h : t15_h3 k rec t28 t29 t30 t126 loc1_0 loc1_1 loc1_2 loc1_3 loc1_4 = some r) : P15 (.h3 t28 t29 t30 t126 loc1_0 loc1_1 loc1_2 loc1_3 loc1_4) r := by
  unfold t15_h3 at h
  rcases bif_or h with ⟨hq, h1'⟩ | ⟨hq, h1'⟩
  · clear h; subst hq; have h := h1'; clear h1'
    rw [← Option.some.inj h]
    exact mgo_fin (nb := 0) hmix (n := 2000) (ad := []) (ps := []) (by kernel_rfl) trivial
  · clear h; subst hq; have h := h1'; clear h1'
    exact mgo_at (nb := 0) hmix (ih _ _ h) (n := 4) (ad := []) (ps := []) (m := bm 159 730750818665451459101842416358141509826087223293) (ls := []) (cs := []) (by kernel_rfl) trivial
theorem ok15 : ∀ k s r, itS step15 k s = some r → P15 s r := itS_ok fun k rec ih s r h => match s, h with
  | .e c0_0 c0_1 c0_2 c0_3 c0_4, h => t15_e_ok k rec ih c0_0 c0_1 c0_2 c0_3 c0_4 r h
  | .h0 t23 loc1_0 loc1_1 loc1_2 loc1_3 loc1_4, h => t15_h0_ok k rec ih t23 loc1_0 loc1_1 loc1_2 loc1_3 loc1_4 r h
  | .h1 t28 t29 t30 loc1_0 loc1_1 loc1_2 loc1_3 loc1_4, h => t15_h1_ok k rec ih t28 t29 t30 loc1_0 loc1_1 loc1_2 loc1_3 loc1_4 r h
  | .h2 i3 ok5 t28 t29 t30 loc4_0 loc4_1 loc4_2 loc4_3 loc1_0 loc1_1 loc1_2 loc1_3 loc1_4, h => t15_h2_ok k rec ih i3 ok5 t28 t29 t30 loc4_0 loc4_1 loc4_2 loc4_3 loc1_0 loc1_1 loc1_2 loc1_3 loc1_4 r h
  | .h3 t28 t29 t30 t126 loc1_0 loc1_1 loc1_2 loc1_3 loc1_4, h => t15_h3_ok k rec ih t28 t29 t30 t126 loc1_0 loc1_1 loc1_2 loc1_3 loc1_4 r h
theorem ev15 {k : Nat} {c0_0 : Int} {c0_1 : Int} {c0_2 : Rs} {c0_3 : Rs} {c0_4 : Rs} {r : R15} (h : g15 k c0_0 c0_1 c0_2 c0_3 c0_4 = some r) : Ev Try.prog noHand 15 [.ag [ic c0_0, ic c0_1, .imm c0_2, .imm c0_3, .imm c0_4]] [] (res15 r) (bx15 r) := evr15 (ok15 _ _ _ h)
-- auspice/ssa.reads
inductive S34 where
  | e (x0_0 : Int) (x0_1 : Int) (x0_2 : Int) (x0_3 : Int)
  | h0 (t3 : Bool) (loc1_0 : Int) (loc1_1 : Int) (loc1_2 : Int) (loc1_3 : Int)
  | h1 (t2 : Rs)
  | h2 (t2 : Rs)
  | h3 (t2 : Rs)
abbrev R34 := Rs
def res34 : R34 → ARes
  | r => .ret (.c (.own 1 r))
def bx34 : R34 → List (List Cell)
  | r => []
noncomputable def t34_e (k : Nat) (rec : S34 → Option R34) (x0_0 : Int) (x0_1 : Int) (x0_2 : Int) (x0_3 : Int) : Option R34 :=
  bif x0_0 == 52 then
    rec (.h0 true x0_0 x0_1 x0_2 x0_3)
  else
    (g30 k x0_0).bind fun v_x2 =>
    rec (.h0 (v_x2 == 1) x0_0 x0_1 x0_2 x0_3)
noncomputable def t34_h0 (k : Nat) (rec : S34 → Option R34) (t3 : Bool) (loc1_0 : Int) (loc1_1 : Int) (loc1_2 : Int) (loc1_3 : Int) : Option R34 :=
  bif t3 then
    rec (.h1 [[ic loc1_2]])
  else
    (g30 k loc1_0).bind fun v_x1 =>
    bif v_x1 == 2 then
      rec (.h2 [[ic loc1_2], [ic loc1_3]])
    else
      rec (.h3 [])
noncomputable def t34_h1 (k : Nat) (rec : S34 → Option R34) (t2 : Rs) : Option R34 :=
  some t2
noncomputable def t34_h2 (k : Nat) (rec : S34 → Option R34) (t2 : Rs) : Option R34 :=
  some t2
noncomputable def t34_h3 (k : Nat) (rec : S34 → Option R34) (t2 : Rs) : Option R34 :=
  some t2
noncomputable def step34 (k : Nat) (rec : S34 → Option R34) : S34 → Option R34
  | .e x0_0 x0_1 x0_2 x0_3 => t34_e k rec x0_0 x0_1 x0_2 x0_3
  | .h0 t3 loc1_0 loc1_1 loc1_2 loc1_3 => t34_h0 k rec t3 loc1_0 loc1_1 loc1_2 loc1_3
  | .h1 t2 => t34_h1 k rec t2
  | .h2 t2 => t34_h2 k rec t2
  | .h3 t2 => t34_h3 k rec t2
noncomputable def g34 (k : Nat) (x0_0 : Int) (x0_1 : Int) (x0_2 : Int) (x0_3 : Int) : Option R34 := itS step34 k (.e x0_0 x0_1 x0_2 x0_3)
noncomputable def P34 : S34 → R34 → Prop
  | .e x0_0 x0_1 x0_2 x0_3, r => Fin cx34 Try.f34 [.code body34] (fr0 Try.f34 [.ag [ic x0_0, ic x0_1, ic x0_2, ic x0_3]] []) (res34 r) (bx34 r)
  | .h0 t3 loc1_0 loc1_1 loc1_2 loc1_3, r => Fin cx34 Try.f34 (kAt body34 [1, 0, 0, 1, 2] []) ⟨[.deadv, .c (.ptr ⟨⟨.loc 1, []⟩, 0, 0⟩), .deadv, .c (bc t3)] ++ rep 22 .deadv, [(.loc 1, [ic loc1_0, ic loc1_1, ic loc1_2, ic loc1_3])]⟩ (res34 r) (bx34 r)
  | .h1 t2, r => Fin cx34 Try.f34 (kAt body34 [1, 0, 0, 1, 0, 1, 2] []) ⟨[.deadv, .deadv, .c (.own 1 t2)] ++ rep 23 .deadv, []⟩ (res34 r) (bx34 r)
  | .h2 t2, r => Fin cx34 Try.f34 (kAt body34 [1, 0, 0, 1, 1, 1, 0, 1, 2] []) ⟨[.deadv, .deadv, .c (.own 1 t2)] ++ rep 23 .deadv, []⟩ (res34 r) (bx34 r)
  | .h3 t2, r => Fin cx34 Try.f34 (kAt body34 [1, 1, 1, 2] []) ⟨[.deadv, .deadv, .c (.own 1 t2)] ++ rep 23 .deadv, []⟩ (res34 r) (bx34 r)
theorem evr34 {x0_0 : Int} {x0_1 : Int} {x0_2 : Int} {x0_3 : Int} {r : R34} (h : P34 (.e x0_0 x0_1 x0_2 x0_3) r) : Ev Try.prog noHand 34 [.ag [ic x0_0, ic x0_1, ic x0_2, ic x0_3]] [] (res34 r) (bx34 r) := ev_of_fin (fn := Try.f34) (body := body34) (by kernel_rfl) (by kernel_rfl) (by kernel_rfl) rfl h
theorem t34_e_ok (k : Nat) (rec : S34 → Option R34) (ih : ∀ s r, rec s = some r → P34 s r) (x0_0 : Int) (x0_1 : Int) (x0_2 : Int) (x0_3 : Int) (r : R34) (h : t34_e k rec x0_0 x0_1 x0_2 x0_3 = some r) : P34 (.e x0_0 x0_1 x0_2 x0_3) r := by
  unfold t34_e at h
  rcases bif_or h with ⟨h_x1, h⟩ | ⟨h_x1, h⟩
  ·
    exact mgo_at (nb := 0) hmix (ih _ _ h) (n := 6) (ad := [(some 6, .test true)]) (ps := [_]) (m := bm 26 67108853) (ls := []) (cs := []) (by kernel_rfl) ⟨h_x1, trivial⟩
  ·
    obtain ⟨v_x2, h_x3, h⟩ := bd_or h
    exact mgo_at (nb := 0) hmix (ih _ _ h) (n := 6) (ad := [(some 6, .test false), (some 10, .call (.ret (.c (ic v_x2))) [] false)]) (ps := [_, _]) (m := bm 26 67108853) (ls := []) (cs := []) (by kernel_rfl) ⟨h_x1, (ev30 h_x3), trivial⟩
theorem t34_h0_ok (k : Nat) (rec : S34 → Option R34) (ih : ∀ s r, rec s = some r → P34 s r) (t3 : Bool) (loc1_0 : Int) (loc1_1 : Int) (loc1_2 : Int) (loc1_3 : Int) (r : R34) (h : t34_h0 k rec t3 loc1_0 loc1_1 loc1_2 loc1_3 = some r) : P34 (.h0 t3 loc1_0 loc1_1 loc1_2 loc1_3) r := by
  unfold t34_h0 at h
  rcases bif_or h with ⟨hq, h1'⟩ | ⟨hq, h1'⟩
  · clear h; subst hq; have h := h1'; clear h1'
    exact mgo_at (nb := 0) hmix (ih _ _ h) (n := 3) (ad := []) (ps := []) (m := bm 26 67108859) (ls := [1]) (cs := []) (by kernel_rfl) trivial
  · clear h; subst hq; have h := h1'; clear h1'
    obtain ⟨v_x1, h_x2, h⟩ := bd_or h
    rcases bif_or h with ⟨h_x3, h⟩ | ⟨h_x3, h⟩
    ·
      exact mgo_at (nb := 0) hmix (ih _ _ h) (n := 6) (ad := [(some 19, .call (.ret (.c (ic v_x1))) [] false), (some 20, .test true)]) (ps := [_, _]) (m := bm 26 67108859) (ls := [1]) (cs := []) (by kernel_rfl) ⟨(ev30 h_x2), h_x3, trivial⟩
    ·
      exact mgo_at (nb := 0) hmix (ih _ _ h) (n := 8) (ad := [(some 19, .call (.ret (.c (ic v_x1))) [] false), (some 20, .test false)]) (ps := [_, _]) (m := bm 26 67108859) (ls := [1]) (cs := [(⟨⟨.slot 2, []⟩, 0, 0⟩, some 1)]) (by kernel_rfl) ⟨(ev30 h_x2), h_x3, trivial⟩
theorem t34_h1_ok (k : Nat) (rec : S34 → Option R34) (ih : ∀ s r, rec s = some r → P34 s r) (t2 : Rs) (r : R34) (h : t34_h1 k rec t2 = some r) : P34 (.h1 t2) r := by
  unfold t34_h1 at h
  rw [← Option.some.inj h]
  exact mgo_fin (nb := 0) hmix (n := 2000) (ad := []) (ps := []) (by kernel_rfl) trivial
theorem t34_h2_ok (k : Nat) (rec : S34 → Option R34) (ih : ∀ s r, rec s = some r → P34 s r) (t2 : Rs) (r : R34) (h : t34_h2 k rec t2 = some r) : P34 (.h2 t2) r := by
  unfold t34_h2 at h
  rw [← Option.some.inj h]
  exact mgo_fin (nb := 0) hmix (n := 2000) (ad := []) (ps := []) (by kernel_rfl) trivial
theorem t34_h3_ok (k : Nat) (rec : S34 → Option R34) (ih : ∀ s r, rec s = some r → P34 s r) (t2 : Rs) (r : R34) (h : t34_h3 k rec t2 = some r) : P34 (.h3 t2) r := by
  unfold t34_h3 at h
  rw [← Option.some.inj h]
  exact mgo_fin (nb := 0) hmix (n := 2000) (ad := []) (ps := []) (by kernel_rfl) trivial
theorem ok34 : ∀ k s r, itS step34 k s = some r → P34 s r := itS_ok fun k rec ih s r h => match s, h with
  | .e x0_0 x0_1 x0_2 x0_3, h => t34_e_ok k rec ih x0_0 x0_1 x0_2 x0_3 r h
  | .h0 t3 loc1_0 loc1_1 loc1_2 loc1_3, h => t34_h0_ok k rec ih t3 loc1_0 loc1_1 loc1_2 loc1_3 r h
  | .h1 t2, h => t34_h1_ok k rec ih t2 r h
  | .h2 t2, h => t34_h2_ok k rec ih t2 r h
  | .h3 t2, h => t34_h3_ok k rec ih t2 r h
theorem ev34 {k : Nat} {x0_0 : Int} {x0_1 : Int} {x0_2 : Int} {x0_3 : Int} {r : R34} (h : g34 k x0_0 x0_1 x0_2 x0_3 = some r) : Ev Try.prog noHand 34 [.ag [ic x0_0, ic x0_1, ic x0_2, ic x0_3]] [] (res34 r) (bx34 r) := evr34 (ok34 _ _ _ h)
-- auspice/ssa.place[auspice/api.Input]
inductive S35h where
  | e (x1_0 : Int) (x1_1 : Int) (x1_2 : Int) (x1_3 : Int) (b0_0 : Int) (b0_1 : Int) (b0_2 : Rs) (b0_3 : Rs) (b0_4 : Rs)
  | h0 (t10 : Int) (t11 : Int) (loc3_0 : Int) (loc3_1 : Int) (loc3_2 : Int) (loc3_3 : Int) (par0_0 : Int) (par0_1 : Int) (par0_2 : Rs) (par0_3 : Rs) (par0_4 : Rs)
abbrev R35h := Int × Int × Int × Rs × Rs × Rs
def res35h : R35h → ARes
  | (r, r_b0_0, r_b0_1, r_b0_2, r_b0_3, r_b0_4) => .ret (.c (ic r))
def bx35h : R35h → List (List Cell)
  | (r, r_b0_0, r_b0_1, r_b0_2, r_b0_3, r_b0_4) => [[ic r_b0_0, ic r_b0_1, .own 4 r_b0_2, .own 2 r_b0_3, .own 4 r_b0_4]]
noncomputable def t35h_e (k : Nat) (rec : S35h → Option R35h) (x1_0 : Int) (x1_1 : Int) (x1_2 : Int) (x1_3 : Int) (b0_0 : Int) (b0_1 : Int) (b0_2 : Rs) (b0_3 : Rs) (b0_4 : Rs) : Option R35h :=
  rec (.h0 (b0_2.length : Int) 0 x1_0 x1_1 x1_2 x1_3 b0_0 b0_1 b0_2 b0_3 b0_4)
noncomputable def t35h_h0 (k : Nat) (rec : S35h → Option R35h) (t10 : Int) (t11 : Int) (loc3_0 : Int) (loc3_1 : Int) (loc3_2 : Int) (loc3_3 : Int) (par0_0 : Int) (par0_1 : Int) (par0_2 : Rs) (par0_3 : Rs) (par0_4 : Rs) : Option R35h :=
  bif decide (t11 < t10) then
    ixR par0_2 t11 fun w_x2 =>
    un_i4 w_x2 fun op_x4 kind_x4 pos_x4 attr_x4 =>
    bif (op_x4 == loc3_0 && (kind_x4 == loc3_1 && (pos_x4 == loc3_2 && (attr_x4 == loc3_3 && true)))) then
      some (t11, par0_0, par0_1, par0_2, par0_3, par0_4)
    else
      rec (.h0 t10 (IntKind.i64.wrap (t11 + 1)) loc3_0 loc3_1 loc3_2 loc3_3 par0_0 par0_1 par0_2 par0_3 par0_4)
  else
    gd (apOk 32 4 par0_2 [[ic loc3_0, ic loc3_1, ic loc3_2, ic loc3_3]]) <|
    some (IntKind.i64.wrap (((par0_2 ++ [[ic loc3_0, ic loc3_1, ic loc3_2, ic loc3_3]]).length : Int) - 1), par0_0, par0_1, par0_2 ++ [[ic loc3_0, ic loc3_1, ic loc3_2, ic loc3_3]], par0_3, par0_4)
noncomputable def step35h (k : Nat) (rec : S35h → Option R35h) : S35h → Option R35h
  | .e x1_0 x1_1 x1_2 x1_3 b0_0 b0_1 b0_2 b0_3 b0_4 => t35h_e k rec x1_0 x1_1 x1_2 x1_3 b0_0 b0_1 b0_2 b0_3 b0_4
  | .h0 t10 t11 loc3_0 loc3_1 loc3_2 loc3_3 par0_0 par0_1 par0_2 par0_3 par0_4 => t35h_h0 k rec t10 t11 loc3_0 loc3_1 loc3_2 loc3_3 par0_0 par0_1 par0_2 par0_3 par0_4
noncomputable def g35h (k : Nat) (x1_0 : Int) (x1_1 : Int) (x1_2 : Int) (x1_3 : Int) (b0_0 : Int) (b0_1 : Int) (b0_2 : Rs) (b0_3 : Rs) (b0_4 : Rs) : Option R35h := itS step35h k (.e x1_0 x1_1 x1_2 x1_3 b0_0 b0_1 b0_2 b0_3 b0_4)
noncomputable def P35h : S35h → R35h → Prop
  | .e x1_0 x1_1 x1_2 x1_3 b0_0 b0_1 b0_2 b0_3 b0_4, r => Fin cx35 Try.f35 [.code body35] (fr0 Try.f35 [.c (.ptr ⟨⟨.par 0, []⟩, 0, 2⟩), .ag [ic x1_0, ic x1_1, ic x1_2, ic x1_3]] [[ic b0_0, ic b0_1, .own 4 b0_2, .own 2 b0_3, .own 4 b0_4]]) (res35h r) (bx35h r)
  | .h0 t10 t11 loc3_0 loc3_1 loc3_2 loc3_3 par0_0 par0_1 par0_2 par0_3 par0_4, r => Fin cx35 Try.f35 (kAt body35 [1, 0, 1, 0, 4] []) ⟨[.c (.ptr ⟨⟨.par 0, []⟩, 0, 2⟩), .deadv, .deadv, .c (.ptr ⟨⟨.loc 3, []⟩, 0, 0⟩)] ++ rep 5 .deadv ++ [.c (.ref ⟨⟨.par 0, []⟩, 0, 2⟩), .c (ic t10), .c (ic t11)] ++ rep 22 .deadv, [(.loc 3, [ic loc3_0, ic loc3_1, ic loc3_2, ic loc3_3]), (.par 0, [ic par0_0, ic par0_1, .own 4 par0_2, .own 2 par0_3, .own 4 par0_4])]⟩ (res35h r) (bx35h r)
theorem evr35h {x1_0 : Int} {x1_1 : Int} {x1_2 : Int} {x1_3 : Int} {b0_0 : Int} {b0_1 : Int} {b0_2 : Rs} {b0_3 : Rs} {b0_4 : Rs} {r : R35h} (h : P35h (.e x1_0 x1_1 x1_2 x1_3 b0_0 b0_1 b0_2 b0_3 b0_4) r) : Ev Try.prog noHand 35 [.c (.ptr ⟨⟨.par 0, []⟩, 0, 2⟩), .ag [ic x1_0, ic x1_1, ic x1_2, ic x1_3]] [[ic b0_0, ic b0_1, .own 4 b0_2, .own 2 b0_3, .own 4 b0_4]] (res35h r) (bx35h r) := ev_of_fin (fn := Try.f35) (body := body35) (by kernel_rfl) (by kernel_rfl) (by kernel_rfl) rfl h
theorem t35h_e_ok (k : Nat) (rec : S35h → Option R35h) (ih : ∀ s r, rec s = some r → P35h s r) (x1_0 : Int) (x1_1 : Int) (x1_2 : Int) (x1_3 : Int) (b0_0 : Int) (b0_1 : Int) (b0_2 : Rs) (b0_3 : Rs) (b0_4 : Rs) (r : R35h) (h : t35h_e k rec x1_0 x1_1 x1_2 x1_3 b0_0 b0_1 b0_2 b0_3 b0_4 = some r) : P35h (.e x1_0 x1_1 x1_2 x1_3 b0_0 b0_1 b0_2 b0_3 b0_4) r := by
  unfold t35h_e at h
  exact mgo_at (nb := 1) hmix (ih _ _ h) (n := 7) (ad := []) (ps := []) (m := bm 34 17179865590) (ls := []) (cs := []) (by kernel_rfl) trivial
theorem t35h_h0_ok (k : Nat) (rec : S35h → Option R35h) (ih : ∀ s r, rec s = some r → P35h s r) (t10 : Int) (t11 : Int) (loc3_0 : Int) (loc3_1 : Int) (loc3_2 : Int) (loc3_3 : Int) (par0_0 : Int) (par0_1 : Int) (par0_2 : Rs) (par0_3 : Rs) (par0_4 : Rs) (r : R35h) (h : t35h_h0 k rec t10 t11 loc3_0 loc3_1 loc3_2 loc3_3 par0_0 par0_1 par0_2 par0_3 par0_4 = some r) : P35h (.h0 t10 t11 loc3_0 loc3_1 loc3_2 loc3_3 par0_0 par0_1 par0_2 par0_3 par0_4) r := by
  unfold t35h_h0 at h
  rcases bif_or h with ⟨h_x1, h⟩ | ⟨h_x1, h⟩
  ·
    obtain ⟨w_x2, h_x3, h⟩ := ixR_or h
    obtain ⟨op_x4, kind_x4, pos_x4, attr_x4, hq, h1'⟩ := un_i4_or h
    clear h; subst hq; have h := h1'; clear h1'
    rcases bif_or h with ⟨h_x5, h⟩ | ⟨h_x5, h⟩
    ·
      rw [← Option.some.inj h]
      exact mgo_fin (nb := 1) hmix (n := 2000) (ad := [(some 12, .test true), (some 14, .bnd), (some 15, .ld [ic op_x4, ic kind_x4, ic pos_x4, ic attr_x4]), (some 18, .test true)]) (ps := [_, _, _, _]) (by kernel_rfl) ⟨h_x1, ix_bnd h_x3, h_x3.2, h_x5, trivial⟩
    ·
      exact mgo_at (nb := 1) hmix (ih _ _ h) (n := 16) (ad := [(some 12, .test true), (some 14, .bnd), (some 15, .ld [ic op_x4, ic kind_x4, ic pos_x4, ic attr_x4]), (some 18, .test false)]) (ps := [_, _, _, _]) (m := bm 34 17179865590) (ls := [6]) (cs := []) (by kernel_rfl) ⟨h_x1, ix_bnd h_x3, h_x3.2, h_x5, trivial⟩
  ·
    obtain ⟨h_x2, h⟩ := gd_or h
    rw [← Option.some.inj h]
    exact mgo_fin (nb := 1) hmix (n := 2000) (ad := [(some 12, .test false), (some 27, .okE false)]) (ps := [_, _]) (by kernel_rfl) ⟨h_x1, okF [[ic loc3_0, ic loc3_1, ic loc3_2, ic loc3_3]] h_x2, trivial⟩
theorem ok35h : ∀ k s r, itS step35h k s = some r → P35h s r := itS_ok fun k rec ih s r h => match s, h with
  | .e x1_0 x1_1 x1_2 x1_3 b0_0 b0_1 b0_2 b0_3 b0_4, h => t35h_e_ok k rec ih x1_0 x1_1 x1_2 x1_3 b0_0 b0_1 b0_2 b0_3 b0_4 r h
  | .h0 t10 t11 loc3_0 loc3_1 loc3_2 loc3_3 par0_0 par0_1 par0_2 par0_3 par0_4, h => t35h_h0_ok k rec ih t10 t11 loc3_0 loc3_1 loc3_2 loc3_3 par0_0 par0_1 par0_2 par0_3 par0_4 r h
theorem ev35h {k : Nat} {x1_0 : Int} {x1_1 : Int} {x1_2 : Int} {x1_3 : Int} {b0_0 : Int} {b0_1 : Int} {b0_2 : Rs} {b0_3 : Rs} {b0_4 : Rs} {r : R35h} (h : g35h k x1_0 x1_1 x1_2 x1_3 b0_0 b0_1 b0_2 b0_3 b0_4 = some r) : Ev Try.prog noHand 35 [.c (.ptr ⟨⟨.par 0, []⟩, 0, 2⟩), .ag [ic x1_0, ic x1_1, ic x1_2, ic x1_3]] [[ic b0_0, ic b0_1, .own 4 b0_2, .own 2 b0_3, .own 4 b0_4]] (res35h r) (bx35h r) := evr35h (ok35h _ _ _ h)
-- auspice/ssa.place[auspice/api.Value]
inductive S36i where
  | e (x1_0 : Int) (x1_1 : Int) (b0_0 : Int) (b0_1 : Int) (b0_2 : Rs) (b0_3 : Rs) (b0_4 : Rs)
  | h0 (t10 : Int) (t11 : Int) (loc3_0 : Int) (loc3_1 : Int) (par0_0 : Int) (par0_1 : Int) (par0_2 : Rs) (par0_3 : Rs) (par0_4 : Rs)
abbrev R36i := Int × Int × Int × Rs × Rs × Rs
def res36i : R36i → ARes
  | (r, r_b0_0, r_b0_1, r_b0_2, r_b0_3, r_b0_4) => .ret (.c (ic r))
def bx36i : R36i → List (List Cell)
  | (r, r_b0_0, r_b0_1, r_b0_2, r_b0_3, r_b0_4) => [[ic r_b0_0, ic r_b0_1, .own 4 r_b0_2, .own 2 r_b0_3, .own 4 r_b0_4]]
noncomputable def t36i_e (k : Nat) (rec : S36i → Option R36i) (x1_0 : Int) (x1_1 : Int) (b0_0 : Int) (b0_1 : Int) (b0_2 : Rs) (b0_3 : Rs) (b0_4 : Rs) : Option R36i :=
  rec (.h0 (b0_3.length : Int) 0 x1_0 x1_1 b0_0 b0_1 b0_2 b0_3 b0_4)
noncomputable def t36i_h0 (k : Nat) (rec : S36i → Option R36i) (t10 : Int) (t11 : Int) (loc3_0 : Int) (loc3_1 : Int) (par0_0 : Int) (par0_1 : Int) (par0_2 : Rs) (par0_3 : Rs) (par0_4 : Rs) : Option R36i :=
  bif decide (t11 < t10) then
    ixR par0_3 t11 fun w_x2 =>
    un_iu w_x2 fun kind_x4 bits_x4 =>
    bif (kind_x4 == loc3_0 && (bits_x4 == loc3_1 && true)) then
      some (t11, par0_0, par0_1, par0_2, par0_3, par0_4)
    else
      rec (.h0 t10 (IntKind.i64.wrap (t11 + 1)) loc3_0 loc3_1 par0_0 par0_1 par0_2 par0_3 par0_4)
  else
    gd (apOk 16 2 par0_3 [[ic loc3_0, .val (.int .u64 loc3_1)]]) <|
    some (IntKind.i64.wrap (((par0_3 ++ [[ic loc3_0, .val (.int .u64 loc3_1)]]).length : Int) - 1), par0_0, par0_1, par0_2, par0_3 ++ [[ic loc3_0, .val (.int .u64 loc3_1)]], par0_4)
noncomputable def step36i (k : Nat) (rec : S36i → Option R36i) : S36i → Option R36i
  | .e x1_0 x1_1 b0_0 b0_1 b0_2 b0_3 b0_4 => t36i_e k rec x1_0 x1_1 b0_0 b0_1 b0_2 b0_3 b0_4
  | .h0 t10 t11 loc3_0 loc3_1 par0_0 par0_1 par0_2 par0_3 par0_4 => t36i_h0 k rec t10 t11 loc3_0 loc3_1 par0_0 par0_1 par0_2 par0_3 par0_4
noncomputable def g36i (k : Nat) (x1_0 : Int) (x1_1 : Int) (b0_0 : Int) (b0_1 : Int) (b0_2 : Rs) (b0_3 : Rs) (b0_4 : Rs) : Option R36i := itS step36i k (.e x1_0 x1_1 b0_0 b0_1 b0_2 b0_3 b0_4)
noncomputable def P36i : S36i → R36i → Prop
  | .e x1_0 x1_1 b0_0 b0_1 b0_2 b0_3 b0_4, r => Fin cx36 Try.f36 [.code body36] (fr0 Try.f36 [.c (.ptr ⟨⟨.par 0, []⟩, 0, 3⟩), .ag [ic x1_0, .val (.int .u64 x1_1)]] [[ic b0_0, ic b0_1, .own 4 b0_2, .own 2 b0_3, .own 4 b0_4]]) (res36i r) (bx36i r)
  | .h0 t10 t11 loc3_0 loc3_1 par0_0 par0_1 par0_2 par0_3 par0_4, r => Fin cx36 Try.f36 (kAt body36 [1, 0, 1, 0, 4] []) ⟨[.c (.ptr ⟨⟨.par 0, []⟩, 0, 3⟩), .deadv, .deadv, .c (.ptr ⟨⟨.loc 3, []⟩, 0, 0⟩)] ++ rep 5 .deadv ++ [.c (.ref ⟨⟨.par 0, []⟩, 0, 3⟩), .c (ic t10), .c (ic t11)] ++ rep 22 .deadv, [(.loc 3, [ic loc3_0, .val (.int .u64 loc3_1)]), (.par 0, [ic par0_0, ic par0_1, .own 4 par0_2, .own 2 par0_3, .own 4 par0_4])]⟩ (res36i r) (bx36i r)
theorem evr36i {x1_0 : Int} {x1_1 : Int} {b0_0 : Int} {b0_1 : Int} {b0_2 : Rs} {b0_3 : Rs} {b0_4 : Rs} {r : R36i} (h : P36i (.e x1_0 x1_1 b0_0 b0_1 b0_2 b0_3 b0_4) r) : Ev Try.prog noHand 36 [.c (.ptr ⟨⟨.par 0, []⟩, 0, 3⟩), .ag [ic x1_0, .val (.int .u64 x1_1)]] [[ic b0_0, ic b0_1, .own 4 b0_2, .own 2 b0_3, .own 4 b0_4]] (res36i r) (bx36i r) := ev_of_fin (fn := Try.f36) (body := body36) (by kernel_rfl) (by kernel_rfl) (by kernel_rfl) rfl h
theorem t36i_e_ok (k : Nat) (rec : S36i → Option R36i) (ih : ∀ s r, rec s = some r → P36i s r) (x1_0 : Int) (x1_1 : Int) (b0_0 : Int) (b0_1 : Int) (b0_2 : Rs) (b0_3 : Rs) (b0_4 : Rs) (r : R36i) (h : t36i_e k rec x1_0 x1_1 b0_0 b0_1 b0_2 b0_3 b0_4 = some r) : P36i (.e x1_0 x1_1 b0_0 b0_1 b0_2 b0_3 b0_4) r := by
  unfold t36i_e at h
  exact mgo_at (nb := 1) hmix (ih _ _ h) (n := 7) (ad := []) (ps := []) (m := bm 34 17179865590) (ls := []) (cs := []) (by kernel_rfl) trivial
theorem t36i_h0_ok (k : Nat) (rec : S36i → Option R36i) (ih : ∀ s r, rec s = some r → P36i s r) (t10 : Int) (t11 : Int) (loc3_0 : Int) (loc3_1 : Int) (par0_0 : Int) (par0_1 : Int) (par0_2 : Rs) (par0_3 : Rs) (par0_4 : Rs) (r : R36i) (h : t36i_h0 k rec t10 t11 loc3_0 loc3_1 par0_0 par0_1 par0_2 par0_3 par0_4 = some r) : P36i (.h0 t10 t11 loc3_0 loc3_1 par0_0 par0_1 par0_2 par0_3 par0_4) r := by
  unfold t36i_h0 at h
  rcases bif_or h with ⟨h_x1, h⟩ | ⟨h_x1, h⟩
  ·
    obtain ⟨w_x2, h_x3, h⟩ := ixR_or h
    obtain ⟨kind_x4, bits_x4, hq, h1'⟩ := un_iu_or h
    clear h; subst hq; have h := h1'; clear h1'
    rcases bif_or h with ⟨h_x5, h⟩ | ⟨h_x5, h⟩
    ·
      rw [← Option.some.inj h]
      exact mgo_fin (nb := 1) hmix (n := 2000) (ad := [(some 12, .test true), (some 14, .bnd), (some 15, .ld [ic kind_x4, .val (.int .u64 bits_x4)]), (some 18, .test true)]) (ps := [_, _, _, _]) (by kernel_rfl) ⟨h_x1, ix_bnd h_x3, h_x3.2, h_x5, trivial⟩
    ·
      exact mgo_at (nb := 1) hmix (ih _ _ h) (n := 16) (ad := [(some 12, .test true), (some 14, .bnd), (some 15, .ld [ic kind_x4, .val (.int .u64 bits_x4)]), (some 18, .test false)]) (ps := [_, _, _, _]) (m := bm 34 17179865590) (ls := [6]) (cs := []) (by kernel_rfl) ⟨h_x1, ix_bnd h_x3, h_x3.2, h_x5, trivial⟩
  ·
    obtain ⟨h_x2, h⟩ := gd_or h
    rw [← Option.some.inj h]
    exact mgo_fin (nb := 1) hmix (n := 2000) (ad := [(some 12, .test false), (some 27, .okE false)]) (ps := [_, _]) (by kernel_rfl) ⟨h_x1, okF [[ic loc3_0, .val (.int .u64 loc3_1)]] h_x2, trivial⟩
theorem ok36i : ∀ k s r, itS step36i k s = some r → P36i s r := itS_ok fun k rec ih s r h => match s, h with
  | .e x1_0 x1_1 b0_0 b0_1 b0_2 b0_3 b0_4, h => t36i_e_ok k rec ih x1_0 x1_1 b0_0 b0_1 b0_2 b0_3 b0_4 r h
  | .h0 t10 t11 loc3_0 loc3_1 par0_0 par0_1 par0_2 par0_3 par0_4, h => t36i_h0_ok k rec ih t10 t11 loc3_0 loc3_1 par0_0 par0_1 par0_2 par0_3 par0_4 r h
theorem ev36i {k : Nat} {x1_0 : Int} {x1_1 : Int} {b0_0 : Int} {b0_1 : Int} {b0_2 : Rs} {b0_3 : Rs} {b0_4 : Rs} {r : R36i} (h : g36i k x1_0 x1_1 b0_0 b0_1 b0_2 b0_3 b0_4 = some r) : Ev Try.prog noHand 36 [.c (.ptr ⟨⟨.par 0, []⟩, 0, 3⟩), .ag [ic x1_0, .val (.int .u64 x1_1)]] [[ic b0_0, ic b0_1, .own 4 b0_2, .own 2 b0_3, .own 4 b0_4]] (res36i r) (bx36i r) := evr36i (ok36i _ _ _ h)
-- auspice/ssa.Drop
inductive S20 where
  | e (c0_0 : Int) (c0_1 : Int) (c0_2 : Rs) (c0_3 : Rs) (c0_4 : Rs)
  | h0 (loc2_0 : Int) (loc2_1 : Int) (loc2_2 : Rs) (loc2_3 : Rs) (loc2_4 : Rs)
  | h1 (need3 : Rs) (i4 : Int) (loc2_0 : Int) (loc2_1 : Int) (loc1_0 : Int) (loc1_1 : Int) (loc1_2 : Rs) (loc1_3 : Rs) (loc1_4 : Rs)
  | h2 (need3 : Rs) (i4 : Int) (t34 : Bool) (loc2_0 : Int) (loc2_1 : Int) (loc1_0 : Int) (loc1_1 : Int) (loc1_2 : Rs) (loc1_3 : Rs) (loc1_4 : Rs)
  | h3 (need3 : Rs) (became8 : Rs) (t54 : Rs) (t55 : Int) (t56 : Int) (loc7_0 : Int) (loc7_1 : Int) (loc7_2 : Rs) (loc7_3 : Rs) (loc7_4 : Rs) (loc2_0 : Int) (loc2_1 : Int) (loc1_0 : Int) (loc1_1 : Int) (loc1_2 : Rs) (loc1_3 : Rs) (loc1_4 : Rs)
  | h4 (need3 : Rs) (i4 : Int) (t40 : Rs) (t41 : Int) (t42 : Int) (loc2_0 : Int) (loc2_1 : Int) (loc1_0 : Int) (loc1_1 : Int) (loc1_2 : Rs) (loc1_3 : Rs) (loc1_4 : Rs)
  | h5 (need3 : Rs) (i4 : Int) (loc2_0 : Int) (loc2_1 : Int) (loc1_0 : Int) (loc1_1 : Int) (loc1_2 : Rs) (loc1_3 : Rs) (loc1_4 : Rs)
  | h6 (need3 : Rs) (became8 : Rs) (i9 : Int) (t54 : Rs) (t55 : Int) (t56 : Int) (t71 : Bool) (loc10_0 : Int) (loc10_1 : Int) (loc10_2 : Int) (loc10_3 : Int) (loc7_0 : Int) (loc7_1 : Int) (loc7_2 : Rs) (loc7_3 : Rs) (loc7_4 : Rs) (loc2_0 : Int) (loc2_1 : Int) (loc1_0 : Int) (loc1_1 : Int) (loc1_2 : Rs) (loc1_3 : Rs) (loc1_4 : Rs)
  | h7 (loc2_0 : Int) (loc2_1 : Int) (loc2_2 : Rs) (loc2_3 : Rs) (loc2_4 : Rs)
  | h8 (need3 : Rs) (i4 : Int) (t40 : Rs) (t41 : Int) (t42 : Int) (loc2_0 : Int) (loc2_1 : Int) (loc1_0 : Int) (loc1_1 : Int) (loc1_2 : Rs) (loc1_3 : Rs) (loc1_4 : Rs)
  | h9 (need3 : Rs) (became8 : Rs) (t54 : Rs) (t55 : Int) (t56 : Int) (loc7_0 : Int) (loc7_1 : Int) (loc7_2 : Rs) (loc7_3 : Rs) (loc7_4 : Rs) (loc2_0 : Int) (loc2_1 : Int) (loc1_0 : Int) (loc1_1 : Int) (loc1_2 : Rs) (loc1_3 : Rs) (loc1_4 : Rs)
  | h10 (need3 : Rs) (became8 : Rs) (i9 : Int) (t54 : Rs) (t55 : Int) (t56 : Int) (loc10_0 : Int) (loc10_1 : Int) (loc10_2 : Int) (loc10_3 : Int) (loc7_0 : Int) (loc7_1 : Int) (loc7_2 : Rs) (loc7_3 : Rs) (loc7_4 : Rs) (loc2_0 : Int) (loc2_1 : Int) (loc1_0 : Int) (loc1_1 : Int) (loc1_2 : Rs) (loc1_3 : Rs) (loc1_4 : Rs)
  | h11 (need3 : Rs) (became8 : Rs) (t54 : Rs) (t55 : Int) (t56 : Int) (loc10_0 : Int) (loc10_1 : Int) (loc10_2 : Int) (loc10_3 : Int) (loc7_0 : Int) (loc7_1 : Int) (loc7_2 : Rs) (loc7_3 : Rs) (loc7_4 : Rs) (loc2_0 : Int) (loc2_1 : Int) (loc1_0 : Int) (loc1_1 : Int) (loc1_2 : Rs) (loc1_3 : Rs) (loc1_4 : Rs)
abbrev R20 := Int × Int × Rs × Rs × Rs
def res20 : R20 → ARes
  | (r_0, r_1, r_2, r_3, r_4) => .ret (.ag [ic r_0, ic r_1, .imm r_2, .imm r_3, .imm r_4])
def bx20 : R20 → List (List Cell)
  | (r_0, r_1, r_2, r_3, r_4) => []
noncomputable def t20_e (k : Nat) (rec : S20 → Option R20) (c0_0 : Int) (c0_1 : Int) (c0_2 : Rs) (c0_3 : Rs) (c0_4 : Rs) : Option R20 :=
  (g15 k c0_0 c0_1 c0_2 c0_3 c0_4).bind fun v_x1 =>
  bif !v_x1 then
    rec (.h0 0 0 [] [] [])
  else
    gd (mkOk c0_0 c0_0 1 1) <|
    rec (.h1 (List.replicate c0_0.toNat [bc false]) c0_0 0 0 c0_0 c0_1 c0_2 c0_3 c0_4)
noncomputable def t20_h0 (k : Nat) (rec : S20 → Option R20) (loc2_0 : Int) (loc2_1 : Int) (loc2_2 : Rs) (loc2_3 : Rs) (loc2_4 : Rs) : Option R20 :=
  some (loc2_0, loc2_1, loc2_2, loc2_3, loc2_4)
noncomputable def t20_h1 (k : Nat) (rec : S20 → Option R20) (need3 : Rs) (i4 : Int) (loc2_0 : Int) (loc2_1 : Int) (loc1_0 : Int) (loc1_1 : Int) (loc1_2 : Rs) (loc1_3 : Rs) (loc1_4 : Rs) : Option R20 :=
  bif decide (i4 ≥ 0) then
    bif i4 == loc1_0 then
      rec (.h2 need3 i4 true loc2_0 loc2_1 loc1_0 loc1_1 loc1_2 loc1_3 loc1_4)
    else
      ixR need3 i4 fun w_x3 =>
      un_b w_x3 fun x_x5 =>
      rec (.h2 need3 i4 x_x5 loc2_0 loc2_1 loc1_0 loc1_1 loc1_2 loc1_3 loc1_4)
  else
    gd (mkOk loc1_0 loc1_0 8 1) <|
    rec (.h3 need3 (List.replicate loc1_0.toNat [ic 0]) loc1_4 (loc1_4.length : Int) 0 0 0 [] [] [] loc2_0 loc2_1 loc1_0 loc1_1 loc1_2 loc1_3 loc1_4)
noncomputable def t20_h2 (k : Nat) (rec : S20 → Option R20) (need3 : Rs) (i4 : Int) (t34 : Bool) (loc2_0 : Int) (loc2_1 : Int) (loc1_0 : Int) (loc1_1 : Int) (loc1_2 : Rs) (loc1_3 : Rs) (loc1_4 : Rs) : Option R20 :=
  bif t34 then
    ixR loc1_4 i4 fun w_x1 =>
    un_i4 w_x1 fun op_x3 dst_x3 a_x3 b_x3 =>
    (g34 k op_x3 dst_x3 a_x3 b_x3).bind fun v_x4 =>
    rec (.h4 need3 i4 v_x4 (v_x4.length : Int) 0 loc2_0 loc2_1 loc1_0 loc1_1 loc1_2 loc1_3 loc1_4)
  else
    rec (.h5 need3 i4 loc2_0 loc2_1 loc1_0 loc1_1 loc1_2 loc1_3 loc1_4)
noncomputable def t20_h3 (k : Nat) (rec : S20 → Option R20) (need3 : Rs) (became8 : Rs) (t54 : Rs) (t55 : Int) (t56 : Int) (loc7_0 : Int) (loc7_1 : Int) (loc7_2 : Rs) (loc7_3 : Rs) (loc7_4 : Rs) (loc2_0 : Int) (loc2_1 : Int) (loc1_0 : Int) (loc1_1 : Int) (loc1_2 : Rs) (loc1_3 : Rs) (loc1_4 : Rs) : Option R20 :=
  bif decide (t56 < t55) then
    ixR t54 t56 fun w_x2 =>
    un_i4 w_x2 fun op_x4 dst_x4 a_x4 b_x4 =>
    bif decide (t56 < loc1_0) then
      ixR need3 t56 fun w_x6 =>
      un_b w_x6 fun x_x8 =>
      rec (.h6 need3 became8 t56 t54 t55 t56 (!x_x8) op_x4 dst_x4 a_x4 b_x4 loc7_0 loc7_1 loc7_2 loc7_3 loc7_4 loc2_0 loc2_1 loc1_0 loc1_1 loc1_2 loc1_3 loc1_4)
    else
      rec (.h6 need3 became8 t56 t54 t55 t56 false op_x4 dst_x4 a_x4 b_x4 loc7_0 loc7_1 loc7_2 loc7_3 loc7_4 loc2_0 loc2_1 loc1_0 loc1_1 loc1_2 loc1_3 loc1_4)
  else
    rec (.h7 (IntKind.i64.wrap ((loc7_4.length : Int) - 1)) loc7_1 (immRs loc7_2) (immRs loc7_3) (immRs loc7_4))
noncomputable def t20_h4 (k : Nat) (rec : S20 → Option R20) (need3 : Rs) (i4 : Int) (t40 : Rs) (t41 : Int) (t42 : Int) (loc2_0 : Int) (loc2_1 : Int) (loc1_0 : Int) (loc1_1 : Int) (loc1_2 : Rs) (loc1_3 : Rs) (loc1_4 : Rs) : Option R20 :=
  bif decide (t42 < t41) then
    ixR t40 t42 fun w_x2 =>
    un_i w_x2 fun x_x4 =>
    ixR need3 x_x4 fun w_x5 =>
    un_b w_x5 fun x_x7 =>
    rec (.h8 (setRow need3 x_x4.toNat 0 (bc true)) i4 t40 t41 t42 loc2_0 loc2_1 loc1_0 loc1_1 loc1_2 loc1_3 loc1_4)
  else
    rec (.h5 need3 i4 loc2_0 loc2_1 loc1_0 loc1_1 loc1_2 loc1_3 loc1_4)
noncomputable def t20_h5 (k : Nat) (rec : S20 → Option R20) (need3 : Rs) (i4 : Int) (loc2_0 : Int) (loc2_1 : Int) (loc1_0 : Int) (loc1_1 : Int) (loc1_2 : Rs) (loc1_3 : Rs) (loc1_4 : Rs) : Option R20 :=
  rec (.h1 need3 (IntKind.i64.wrap (i4 - 1)) loc2_0 loc2_1 loc1_0 loc1_1 loc1_2 loc1_3 loc1_4)
noncomputable def t20_h6 (k : Nat) (rec : S20 → Option R20) (need3 : Rs) (became8 : Rs) (i9 : Int) (t54 : Rs) (t55 : Int) (t56 : Int) (t71 : Bool) (loc10_0 : Int) (loc10_1 : Int) (loc10_2 : Int) (loc10_3 : Int) (loc7_0 : Int) (loc7_1 : Int) (loc7_2 : Rs) (loc7_3 : Rs) (loc7_4 : Rs) (loc2_0 : Int) (loc2_1 : Int) (loc1_0 : Int) (loc1_1 : Int) (loc1_2 : Rs) (loc1_3 : Rs) (loc1_4 : Rs) : Option R20 :=
  bif t71 then
    rec (.h9 need3 became8 t54 t55 t56 loc7_0 loc7_1 loc7_2 loc7_3 loc7_4 loc2_0 loc2_1 loc1_0 loc1_1 loc1_2 loc1_3 loc1_4)
  else
    bif loc10_0 == 50 then
      ixR loc1_2 loc10_2 fun w_x2 =>
      un_i4 w_x2 fun op_x4 kind_x4 pos_x4 attr_x4 =>
      (g35h k op_x4 kind_x4 pos_x4 attr_x4 loc7_0 loc7_1 loc7_2 loc7_3 loc7_4).bind fun v_x5 =>
      tup6 v_x5 fun r_x7 rb00_x7 rb01_x7 rb02_x7 rb03_x7 rb04_x7 =>
      rec (.h10 need3 became8 i9 t54 t55 t56 loc10_0 loc10_1 r_x7 loc10_3 rb00_x7 rb01_x7 rb02_x7 rb03_x7 rb04_x7 loc2_0 loc2_1 loc1_0 loc1_1 loc1_2 loc1_3 loc1_4)
    else
      bif loc10_0 == 51 then
        ixR loc1_3 loc10_2 fun w_x3 =>
        un_iu w_x3 fun kind_x5 bits_x5 =>
        (g36i k kind_x5 bits_x5 loc7_0 loc7_1 loc7_2 loc7_3 loc7_4).bind fun v_x6 =>
        tup6 v_x6 fun r_x8 rb00_x8 rb01_x8 rb02_x8 rb03_x8 rb04_x8 =>
        rec (.h10 need3 became8 i9 t54 t55 t56 loc10_0 loc10_1 r_x8 loc10_3 rb00_x8 rb01_x8 rb02_x8 rb03_x8 rb04_x8 loc2_0 loc2_1 loc1_0 loc1_1 loc1_2 loc1_3 loc1_4)
      else
        (g34 k loc10_0 loc10_1 loc10_2 loc10_3).bind fun v_x3 =>
        bif (v_x3.length : Int) == 2 then
          ixR became8 loc10_2 fun w_x6 =>
          un_i w_x6 fun x_x8 =>
          ixR became8 loc10_3 fun w_x9 =>
          un_i w_x9 fun x_x11 =>
          rec (.h10 need3 became8 i9 t54 t55 t56 loc10_0 loc10_1 x_x8 x_x11 loc7_0 loc7_1 loc7_2 loc7_3 loc7_4 loc2_0 loc2_1 loc1_0 loc1_1 loc1_2 loc1_3 loc1_4)
        else
          ixR became8 loc10_2 fun w_x6 =>
          un_i w_x6 fun x_x8 =>
          rec (.h10 need3 became8 i9 t54 t55 t56 loc10_0 loc10_1 x_x8 loc10_3 loc7_0 loc7_1 loc7_2 loc7_3 loc7_4 loc2_0 loc2_1 loc1_0 loc1_1 loc1_2 loc1_3 loc1_4)
noncomputable def t20_h7 (k : Nat) (rec : S20 → Option R20) (loc2_0 : Int) (loc2_1 : Int) (loc2_2 : Rs) (loc2_3 : Rs) (loc2_4 : Rs) : Option R20 :=
  some (loc2_0, loc2_1, loc2_2, loc2_3, loc2_4)
noncomputable def t20_h8 (k : Nat) (rec : S20 → Option R20) (need3 : Rs) (i4 : Int) (t40 : Rs) (t41 : Int) (t42 : Int) (loc2_0 : Int) (loc2_1 : Int) (loc1_0 : Int) (loc1_1 : Int) (loc1_2 : Rs) (loc1_3 : Rs) (loc1_4 : Rs) : Option R20 :=
  rec (.h4 need3 i4 t40 t41 (IntKind.i64.wrap (t42 + 1)) loc2_0 loc2_1 loc1_0 loc1_1 loc1_2 loc1_3 loc1_4)
noncomputable def t20_h9 (k : Nat) (rec : S20 → Option R20) (need3 : Rs) (became8 : Rs) (t54 : Rs) (t55 : Int) (t56 : Int) (loc7_0 : Int) (loc7_1 : Int) (loc7_2 : Rs) (loc7_3 : Rs) (loc7_4 : Rs) (loc2_0 : Int) (loc2_1 : Int) (loc1_0 : Int) (loc1_1 : Int) (loc1_2 : Rs) (loc1_3 : Rs) (loc1_4 : Rs) : Option R20 :=
  rec (.h3 need3 became8 t54 t55 (IntKind.i64.wrap (t56 + 1)) loc7_0 loc7_1 loc7_2 loc7_3 loc7_4 loc2_0 loc2_1 loc1_0 loc1_1 loc1_2 loc1_3 loc1_4)
noncomputable def t20_h10 (k : Nat) (rec : S20 → Option R20) (need3 : Rs) (became8 : Rs) (i9 : Int) (t54 : Rs) (t55 : Int) (t56 : Int) (loc10_0 : Int) (loc10_1 : Int) (loc10_2 : Int) (loc10_3 : Int) (loc7_0 : Int) (loc7_1 : Int) (loc7_2 : Rs) (loc7_3 : Rs) (loc7_4 : Rs) (loc2_0 : Int) (loc2_1 : Int) (loc1_0 : Int) (loc1_1 : Int) (loc1_2 : Rs) (loc1_3 : Rs) (loc1_4 : Rs) : Option R20 :=
  bif decide (i9 < loc1_0) then
    ixR became8 i9 fun w_x2 =>
    un_i w_x2 fun x_x4 =>
    rec (.h11 need3 (setRow became8 i9.toNat 0 (ic (loc7_4.length : Int))) t54 t55 t56 loc10_0 (loc7_4.length : Int) loc10_2 loc10_3 loc7_0 loc7_1 loc7_2 loc7_3 loc7_4 loc2_0 loc2_1 loc1_0 loc1_1 loc1_2 loc1_3 loc1_4)
  else
    rec (.h11 need3 became8 t54 t55 t56 loc10_0 loc10_1 loc10_2 loc10_3 loc7_0 loc7_1 loc7_2 loc7_3 loc7_4 loc2_0 loc2_1 loc1_0 loc1_1 loc1_2 loc1_3 loc1_4)
noncomputable def t20_h11 (k : Nat) (rec : S20 → Option R20) (need3 : Rs) (became8 : Rs) (t54 : Rs) (t55 : Int) (t56 : Int) (loc10_0 : Int) (loc10_1 : Int) (loc10_2 : Int) (loc10_3 : Int) (loc7_0 : Int) (loc7_1 : Int) (loc7_2 : Rs) (loc7_3 : Rs) (loc7_4 : Rs) (loc2_0 : Int) (loc2_1 : Int) (loc1_0 : Int) (loc1_1 : Int) (loc1_2 : Rs) (loc1_3 : Rs) (loc1_4 : Rs) : Option R20 :=
  gd (apOk 32 4 loc7_4 [[ic loc10_0, ic loc10_1, ic loc10_2, ic loc10_3]]) <|
  rec (.h9 need3 became8 t54 t55 t56 loc7_0 loc7_1 loc7_2 loc7_3 (loc7_4 ++ [[ic loc10_0, ic loc10_1, ic loc10_2, ic loc10_3]]) loc2_0 loc2_1 loc1_0 loc1_1 loc1_2 loc1_3 loc1_4)
noncomputable def step20 (k : Nat) (rec : S20 → Option R20) : S20 → Option R20
  | .e c0_0 c0_1 c0_2 c0_3 c0_4 => t20_e k rec c0_0 c0_1 c0_2 c0_3 c0_4
  | .h0 loc2_0 loc2_1 loc2_2 loc2_3 loc2_4 => t20_h0 k rec loc2_0 loc2_1 loc2_2 loc2_3 loc2_4
  | .h1 need3 i4 loc2_0 loc2_1 loc1_0 loc1_1 loc1_2 loc1_3 loc1_4 => t20_h1 k rec need3 i4 loc2_0 loc2_1 loc1_0 loc1_1 loc1_2 loc1_3 loc1_4
  | .h2 need3 i4 t34 loc2_0 loc2_1 loc1_0 loc1_1 loc1_2 loc1_3 loc1_4 => t20_h2 k rec need3 i4 t34 loc2_0 loc2_1 loc1_0 loc1_1 loc1_2 loc1_3 loc1_4
  | .h3 need3 became8 t54 t55 t56 loc7_0 loc7_1 loc7_2 loc7_3 loc7_4 loc2_0 loc2_1 loc1_0 loc1_1 loc1_2 loc1_3 loc1_4 => t20_h3 k rec need3 became8 t54 t55 t56 loc7_0 loc7_1 loc7_2 loc7_3 loc7_4 loc2_0 loc2_1 loc1_0 loc1_1 loc1_2 loc1_3 loc1_4
  | .h4 need3 i4 t40 t41 t42 loc2_0 loc2_1 loc1_0 loc1_1 loc1_2 loc1_3 loc1_4 => t20_h4 k rec need3 i4 t40 t41 t42 loc2_0 loc2_1 loc1_0 loc1_1 loc1_2 loc1_3 loc1_4
  | .h5 need3 i4 loc2_0 loc2_1 loc1_0 loc1_1 loc1_2 loc1_3 loc1_4 => t20_h5 k rec need3 i4 loc2_0 loc2_1 loc1_0 loc1_1 loc1_2 loc1_3 loc1_4
  | .h6 need3 became8 i9 t54 t55 t56 t71 loc10_0 loc10_1 loc10_2 loc10_3 loc7_0 loc7_1 loc7_2 loc7_3 loc7_4 loc2_0 loc2_1 loc1_0 loc1_1 loc1_2 loc1_3 loc1_4 => t20_h6 k rec need3 became8 i9 t54 t55 t56 t71 loc10_0 loc10_1 loc10_2 loc10_3 loc7_0 loc7_1 loc7_2 loc7_3 loc7_4 loc2_0 loc2_1 loc1_0 loc1_1 loc1_2 loc1_3 loc1_4
  | .h7 loc2_0 loc2_1 loc2_2 loc2_3 loc2_4 => t20_h7 k rec loc2_0 loc2_1 loc2_2 loc2_3 loc2_4
  | .h8 need3 i4 t40 t41 t42 loc2_0 loc2_1 loc1_0 loc1_1 loc1_2 loc1_3 loc1_4 => t20_h8 k rec need3 i4 t40 t41 t42 loc2_0 loc2_1 loc1_0 loc1_1 loc1_2 loc1_3 loc1_4
  | .h9 need3 became8 t54 t55 t56 loc7_0 loc7_1 loc7_2 loc7_3 loc7_4 loc2_0 loc2_1 loc1_0 loc1_1 loc1_2 loc1_3 loc1_4 => t20_h9 k rec need3 became8 t54 t55 t56 loc7_0 loc7_1 loc7_2 loc7_3 loc7_4 loc2_0 loc2_1 loc1_0 loc1_1 loc1_2 loc1_3 loc1_4
  | .h10 need3 became8 i9 t54 t55 t56 loc10_0 loc10_1 loc10_2 loc10_3 loc7_0 loc7_1 loc7_2 loc7_3 loc7_4 loc2_0 loc2_1 loc1_0 loc1_1 loc1_2 loc1_3 loc1_4 => t20_h10 k rec need3 became8 i9 t54 t55 t56 loc10_0 loc10_1 loc10_2 loc10_3 loc7_0 loc7_1 loc7_2 loc7_3 loc7_4 loc2_0 loc2_1 loc1_0 loc1_1 loc1_2 loc1_3 loc1_4
  | .h11 need3 became8 t54 t55 t56 loc10_0 loc10_1 loc10_2 loc10_3 loc7_0 loc7_1 loc7_2 loc7_3 loc7_4 loc2_0 loc2_1 loc1_0 loc1_1 loc1_2 loc1_3 loc1_4 => t20_h11 k rec need3 became8 t54 t55 t56 loc10_0 loc10_1 loc10_2 loc10_3 loc7_0 loc7_1 loc7_2 loc7_3 loc7_4 loc2_0 loc2_1 loc1_0 loc1_1 loc1_2 loc1_3 loc1_4
noncomputable def g20 (k : Nat) (c0_0 : Int) (c0_1 : Int) (c0_2 : Rs) (c0_3 : Rs) (c0_4 : Rs) : Option R20 := itS step20 k (.e c0_0 c0_1 c0_2 c0_3 c0_4)
noncomputable def P20 : S20 → R20 → Prop
  | .e c0_0 c0_1 c0_2 c0_3 c0_4, r => Fin cx20 Try.f20 [.code body20] (fr0 Try.f20 [.ag [ic c0_0, ic c0_1, .imm c0_2, .imm c0_3, .imm c0_4]] []) (res20 r) (bx20 r)
  | .h0 loc2_0 loc2_1 loc2_2 loc2_3 loc2_4, r => Fin cx20 Try.f20 (kAt body20 [1, 0, 1, 0, 1, 2] []) ⟨[.deadv, .deadv, .c (.ptr ⟨⟨.loc 2, []⟩, 0, 0⟩)] ++ rep 142 .deadv, [(.loc 2, [ic loc2_0, ic loc2_1, .imm loc2_2, .imm loc2_3, .imm loc2_4])]⟩ (res20 r) (bx20 r)
  | .h1 need3 i4 loc2_0 loc2_1 loc1_0 loc1_1 loc1_2 loc1_3 loc1_4, r => Fin cx20 Try.f20 (kAt body20 [1, 1, 1, 0, 1, 0, 4] []) ⟨[.deadv, .c (.ptr ⟨⟨.loc 1, []⟩, 0, 0⟩), .c (.ptr ⟨⟨.loc 2, []⟩, 0, 0⟩), .c (.own 1 need3), .c (ic i4)] ++ rep 140 .deadv, [(.loc 2, [ic loc2_0, ic loc2_1, .nil, .nil, .nil]), (.loc 1, [ic loc1_0, ic loc1_1, .imm loc1_2, .imm loc1_3, .imm loc1_4])]⟩ (res20 r) (bx20 r)
  | .h2 need3 i4 t34 loc2_0 loc2_1 loc1_0 loc1_1 loc1_2 loc1_3 loc1_4, r => Fin cx20 Try.f20 (kAt body20 [1, 1, 1, 0, 1, 0, 0, 1, 0, 0, 1, 2] []) ⟨[.deadv, .c (.ptr ⟨⟨.loc 1, []⟩, 0, 0⟩), .c (.ptr ⟨⟨.loc 2, []⟩, 0, 0⟩), .c (.own 1 need3), .c (ic i4)] ++ rep 29 .deadv ++ [.c (bc t34)] ++ rep 110 .deadv, [(.loc 2, [ic loc2_0, ic loc2_1, .nil, .nil, .nil]), (.loc 1, [ic loc1_0, ic loc1_1, .imm loc1_2, .imm loc1_3, .imm loc1_4])]⟩ (res20 r) (bx20 r)
  | .h3 need3 became8 t54 t55 t56 loc7_0 loc7_1 loc7_2 loc7_3 loc7_4 loc2_0 loc2_1 loc1_0 loc1_1 loc1_2 loc1_3 loc1_4, r => Fin cx20 Try.f20 (kAt body20 [1, 1, 1, 1, 1, 1, 0, 1, 0, 4] []) ⟨[.deadv, .c (.ptr ⟨⟨.loc 1, []⟩, 0, 0⟩), .c (.ptr ⟨⟨.loc 2, []⟩, 0, 0⟩), .c (.own 1 need3)] ++ rep 3 .deadv ++ [.c (.ptr ⟨⟨.loc 7, []⟩, 0, 0⟩), .c (.own 1 became8)] ++ rep 45 .deadv ++ [.c (.imm t54), .c (ic t55), .c (ic t56)] ++ rep 88 .deadv, [(.loc 7, [ic loc7_0, ic loc7_1, .own 4 loc7_2, .own 2 loc7_3, .own 4 loc7_4]), (.loc 2, [ic loc2_0, ic loc2_1, .nil, .nil, .nil]), (.loc 1, [ic loc1_0, ic loc1_1, .imm loc1_2, .imm loc1_3, .imm loc1_4])]⟩ (res20 r) (bx20 r)
  | .h4 need3 i4 t40 t41 t42 loc2_0 loc2_1 loc1_0 loc1_1 loc1_2 loc1_3 loc1_4, r => Fin cx20 Try.f20 (kAt body20 [1, 1, 1, 0, 1, 0, 0, 1, 0, 0, 1, 0, 1, 0, 4] []) ⟨[.deadv, .c (.ptr ⟨⟨.loc 1, []⟩, 0, 0⟩), .c (.ptr ⟨⟨.loc 2, []⟩, 0, 0⟩), .c (.own 1 need3), .c (ic i4)] ++ rep 35 .deadv ++ [.c (.own 1 t40), .c (ic t41), .c (ic t42)] ++ rep 102 .deadv, [(.loc 2, [ic loc2_0, ic loc2_1, .nil, .nil, .nil]), (.loc 1, [ic loc1_0, ic loc1_1, .imm loc1_2, .imm loc1_3, .imm loc1_4])]⟩ (res20 r) (bx20 r)
  | .h5 need3 i4 loc2_0 loc2_1 loc1_0 loc1_1 loc1_2 loc1_3 loc1_4, r => Fin cx20 Try.f20 (kAt body20 [1, 1, 1, 0, 1, 0, 0, 1, 1, 2] []) ⟨[.deadv, .c (.ptr ⟨⟨.loc 1, []⟩, 0, 0⟩), .c (.ptr ⟨⟨.loc 2, []⟩, 0, 0⟩), .c (.own 1 need3), .c (ic i4)] ++ rep 140 .deadv, [(.loc 2, [ic loc2_0, ic loc2_1, .nil, .nil, .nil]), (.loc 1, [ic loc1_0, ic loc1_1, .imm loc1_2, .imm loc1_3, .imm loc1_4])]⟩ (res20 r) (bx20 r)
  | .h6 need3 became8 i9 t54 t55 t56 t71 loc10_0 loc10_1 loc10_2 loc10_3 loc7_0 loc7_1 loc7_2 loc7_3 loc7_4 loc2_0 loc2_1 loc1_0 loc1_1 loc1_2 loc1_3 loc1_4, r => Fin cx20 Try.f20 (kAt body20 [1, 1, 1, 1, 1, 1, 0, 1, 0, 0, 1, 1, 0, 0, 1, 0, 1, 2] []) ⟨[.deadv, .c (.ptr ⟨⟨.loc 1, []⟩, 0, 0⟩), .c (.ptr ⟨⟨.loc 2, []⟩, 0, 0⟩), .c (.own 1 need3)] ++ rep 3 .deadv ++ [.c (.ptr ⟨⟨.loc 7, []⟩, 0, 0⟩), .c (.own 1 became8), .c (ic i9), .c (.ptr ⟨⟨.loc 10, []⟩, 0, 0⟩)] ++ rep 43 .deadv ++ [.c (.imm t54), .c (ic t55), .c (ic t56)] ++ rep 14 .deadv ++ [.c (bc t71)] ++ rep 73 .deadv, [(.loc 10, [ic loc10_0, ic loc10_1, ic loc10_2, ic loc10_3]), (.loc 7, [ic loc7_0, ic loc7_1, .own 4 loc7_2, .own 2 loc7_3, .own 4 loc7_4]), (.loc 2, [ic loc2_0, ic loc2_1, .nil, .nil, .nil]), (.loc 1, [ic loc1_0, ic loc1_1, .imm loc1_2, .imm loc1_3, .imm loc1_4])]⟩ (res20 r) (bx20 r)
  | .h7 loc2_0 loc2_1 loc2_2 loc2_3 loc2_4, r => Fin cx20 Try.f20 (kAt body20 [1, 1, 1, 1, 1, 1, 1, 1, 1, 2] []) ⟨[.deadv, .deadv, .c (.ptr ⟨⟨.loc 2, []⟩, 0, 0⟩)] ++ rep 142 .deadv, [(.loc 2, [ic loc2_0, ic loc2_1, .imm loc2_2, .imm loc2_3, .imm loc2_4])]⟩ (res20 r) (bx20 r)
  | .h8 need3 i4 t40 t41 t42 loc2_0 loc2_1 loc1_0 loc1_1 loc1_2 loc1_3 loc1_4, r => Fin cx20 Try.f20 (kAt body20 [1, 1, 1, 0, 1, 0, 0, 1, 0, 0, 1, 0, 1, 0, 0, 1, 1, 1, 2] []) ⟨[.deadv, .c (.ptr ⟨⟨.loc 1, []⟩, 0, 0⟩), .c (.ptr ⟨⟨.loc 2, []⟩, 0, 0⟩), .c (.own 1 need3), .c (ic i4)] ++ rep 35 .deadv ++ [.c (.own 1 t40), .c (ic t41), .c (ic t42)] ++ rep 102 .deadv, [(.loc 2, [ic loc2_0, ic loc2_1, .nil, .nil, .nil]), (.loc 1, [ic loc1_0, ic loc1_1, .imm loc1_2, .imm loc1_3, .imm loc1_4])]⟩ (res20 r) (bx20 r)
  | .h9 need3 became8 t54 t55 t56 loc7_0 loc7_1 loc7_2 loc7_3 loc7_4 loc2_0 loc2_1 loc1_0 loc1_1 loc1_2 loc1_3 loc1_4, r => Fin cx20 Try.f20 (kAt body20 [1, 1, 1, 1, 1, 1, 0, 1, 0, 0, 1, 1, 1, 2] []) ⟨[.deadv, .c (.ptr ⟨⟨.loc 1, []⟩, 0, 0⟩), .c (.ptr ⟨⟨.loc 2, []⟩, 0, 0⟩), .c (.own 1 need3)] ++ rep 3 .deadv ++ [.c (.ptr ⟨⟨.loc 7, []⟩, 0, 0⟩), .c (.own 1 became8)] ++ rep 45 .deadv ++ [.c (.imm t54), .c (ic t55), .c (ic t56)] ++ rep 88 .deadv, [(.loc 7, [ic loc7_0, ic loc7_1, .own 4 loc7_2, .own 2 loc7_3, .own 4 loc7_4]), (.loc 2, [ic loc2_0, ic loc2_1, .nil, .nil, .nil]), (.loc 1, [ic loc1_0, ic loc1_1, .imm loc1_2, .imm loc1_3, .imm loc1_4])]⟩ (res20 r) (bx20 r)
  | .h10 need3 became8 i9 t54 t55 t56 loc10_0 loc10_1 loc10_2 loc10_3 loc7_0 loc7_1 loc7_2 loc7_3 loc7_4 loc2_0 loc2_1 loc1_0 loc1_1 loc1_2 loc1_3 loc1_4, r => Fin cx20 Try.f20 (kAt body20 [1, 1, 1, 1, 1, 1, 0, 1, 0, 0, 1, 1, 0, 0, 1, 1, 1, 2] []) ⟨[.deadv, .c (.ptr ⟨⟨.loc 1, []⟩, 0, 0⟩), .c (.ptr ⟨⟨.loc 2, []⟩, 0, 0⟩), .c (.own 1 need3)] ++ rep 3 .deadv ++ [.c (.ptr ⟨⟨.loc 7, []⟩, 0, 0⟩), .c (.own 1 became8), .c (ic i9), .c (.ptr ⟨⟨.loc 10, []⟩, 0, 0⟩)] ++ rep 43 .deadv ++ [.c (.imm t54), .c (ic t55), .c (ic t56)] ++ rep 88 .deadv, [(.loc 10, [ic loc10_0, ic loc10_1, ic loc10_2, ic loc10_3]), (.loc 7, [ic loc7_0, ic loc7_1, .own 4 loc7_2, .own 2 loc7_3, .own 4 loc7_4]), (.loc 2, [ic loc2_0, ic loc2_1, .nil, .nil, .nil]), (.loc 1, [ic loc1_0, ic loc1_1, .imm loc1_2, .imm loc1_3, .imm loc1_4])]⟩ (res20 r) (bx20 r)
  | .h11 need3 became8 t54 t55 t56 loc10_0 loc10_1 loc10_2 loc10_3 loc7_0 loc7_1 loc7_2 loc7_3 loc7_4 loc2_0 loc2_1 loc1_0 loc1_1 loc1_2 loc1_3 loc1_4, r => Fin cx20 Try.f20 (kAt body20 [1, 1, 1, 1, 1, 1, 0, 1, 0, 0, 1, 1, 0, 0, 1, 1, 1, 1, 2] []) ⟨[.deadv, .c (.ptr ⟨⟨.loc 1, []⟩, 0, 0⟩), .c (.ptr ⟨⟨.loc 2, []⟩, 0, 0⟩), .c (.own 1 need3)] ++ rep 3 .deadv ++ [.c (.ptr ⟨⟨.loc 7, []⟩, 0, 0⟩), .c (.own 1 became8), .deadv, .c (.ptr ⟨⟨.loc 10, []⟩, 0, 0⟩)] ++ rep 43 .deadv ++ [.c (.imm t54), .c (ic t55), .c (ic t56)] ++ rep 88 .deadv, [(.loc 10, [ic loc10_0, ic loc10_1, ic loc10_2, ic loc10_3]), (.loc 7, [ic loc7_0, ic loc7_1, .own 4 loc7_2, .own 2 loc7_3, .own 4 loc7_4]), (.loc 2, [ic loc2_0, ic loc2_1, .nil, .nil, .nil]), (.loc 1, [ic loc1_0, ic loc1_1, .imm loc1_2, .imm loc1_3, .imm loc1_4])]⟩ (res20 r) (bx20 r)
theorem evr20 {c0_0 : Int} {c0_1 : Int} {c0_2 : Rs} {c0_3 : Rs} {c0_4 : Rs} {r : R20} (h : P20 (.e c0_0 c0_1 c0_2 c0_3 c0_4) r) : Ev Try.prog noHand 20 [.ag [ic c0_0, ic c0_1, .imm c0_2, .imm c0_3, .imm c0_4]] [] (res20 r) (bx20 r) := ev_of_fin (fn := Try.f20) (body := body20) (by kernel_rfl) (by kernel_rfl) (by kernel_rfl) rfl h
theorem t20_e_ok (k : Nat) (rec : S20 → Option R20) (ih : ∀ s r, rec s = some r → P20 s r) (c0_0 : Int) (c0_1 : Int) (c0_2 : Rs) (c0_3 : Rs) (c0_4 : Rs) (r : R20) (h : t20_e k rec c0_0 c0_1 c0_2 c0_3 c0_4 = some r) : P20 (.e c0_0 c0_1 c0_2 c0_3 c0_4) r := by
  unfold t20_e at h
  obtain ⟨v_x1, h_x2, h⟩ := bd_or h
  rcases bif_or h with ⟨h_x3, h⟩ | ⟨h_x3, h⟩
  ·
    exact mgo_at (nb := 0) hmix (ih _ _ h) (n := 8) (ad := [(some 13, .call (.ret (.c (bc v_x1))) [] false), (some 14, .test true)]) (ps := [_, _]) (m := bm 145 44601490397061246283071436545296723011960827) (ls := [1]) (cs := [(⟨⟨.loc 2, []⟩, 0, 2⟩, none), (⟨⟨.loc 2, []⟩, 0, 3⟩, none), (⟨⟨.loc 2, []⟩, 0, 4⟩, none)]) (by kernel_rfl) ⟨(ev15 h_x2), h_x3, trivial⟩
  ·
    obtain ⟨h_x4, h⟩ := gd_or h
    exact mgo_at (nb := 0) hmix (ih _ _ h) (n := 14) (ad := [(some 13, .call (.ret (.c (bc v_x1))) [] false), (some 14, .test false), (some 18, .ok)]) (ps := [_, _, _]) (m := bm 145 44601490397061246283071436545296723011960801) (ls := []) (cs := []) (by kernel_rfl) ⟨(ev15 h_x2), h_x3, h_x4, trivial⟩
theorem t20_h0_ok (k : Nat) (rec : S20 → Option R20) (ih : ∀ s r, rec s = some r → P20 s r) (loc2_0 : Int) (loc2_1 : Int) (loc2_2 : Rs) (loc2_3 : Rs) (loc2_4 : Rs) (r : R20) (h : t20_h0 k rec loc2_0 loc2_1 loc2_2 loc2_3 loc2_4 = some r) : P20 (.h0 loc2_0 loc2_1 loc2_2 loc2_3 loc2_4) r := by
  unfold t20_h0 at h
  rw [← Option.some.inj h]
  exact mgo_fin (nb := 0) hmix (n := 2000) (ad := []) (ps := []) (by kernel_rfl) trivial
theorem t20_h1_ok (k : Nat) (rec : S20 → Option R20) (ih : ∀ s r, rec s = some r → P20 s r) (need3 : Rs) (i4 : Int) (loc2_0 : Int) (loc2_1 : Int) (loc1_0 : Int) (loc1_1 : Int) (loc1_2 : Rs) (loc1_3 : Rs) (loc1_4 : Rs) (r : R20) (h : t20_h1 k rec need3 i4 loc2_0 loc2_1 loc1_0 loc1_1 loc1_2 loc1_3 loc1_4 = some r) : P20 (.h1 need3 i4 loc2_0 loc2_1 loc1_0 loc1_1 loc1_2 loc1_3 loc1_4) r := by
  unfold t20_h1 at h
  rcases bif_or h with ⟨h_x1, h⟩ | ⟨h_x1, h⟩
  ·
    rcases bif_or h with ⟨h_x2, h⟩ | ⟨h_x2, h⟩
    ·
      exact mgo_at (nb := 0) hmix (ih _ _ h) (n := 10) (ad := [(some 22, .test true), (some 28, .test true)]) (ps := [_, _]) (m := bm 145 44601490397061246283071436545296705832091617) (ls := []) (cs := []) (by kernel_rfl) ⟨h_x1, h_x2, trivial⟩
    ·
      obtain ⟨w_x3, h_x4, h⟩ := ixR_or h
      obtain ⟨x_x5, hq, h1'⟩ := un_b_or h
      clear h; subst hq; have h := h1'; clear h1'
      exact mgo_at (nb := 0) hmix (ih _ _ h) (n := 10) (ad := [(some 22, .test true), (some 28, .test false), (some 32, .bnd), (some 33, .ld [bc x_x5])]) (ps := [_, _, _, _]) (m := bm 145 44601490397061246283071436545296705832091617) (ls := []) (cs := []) (by kernel_rfl) ⟨h_x1, h_x2, ix_bnd h_x4, h_x4.2, trivial⟩
  ·
    obtain ⟨h_x2, h⟩ := gd_or h
    exact mgo_at (nb := 0) hmix (ih _ _ h) (n := 15) (ad := [(some 22, .test false), (some 52, .ok)]) (ps := [_, _]) (m := bm 145 44601490397061246283071436419195933445586545) (ls := []) (cs := [(⟨⟨.loc 7, []⟩, 0, 2⟩, some 4), (⟨⟨.loc 7, []⟩, 0, 3⟩, some 2), (⟨⟨.loc 7, []⟩, 0, 4⟩, some 4)]) (by kernel_rfl) ⟨h_x1, h_x2, trivial⟩
theorem t20_h2_ok (k : Nat) (rec : S20 → Option R20) (ih : ∀ s r, rec s = some r → P20 s r) (need3 : Rs) (i4 : Int) (t34 : Bool) (loc2_0 : Int) (loc2_1 : Int) (loc1_0 : Int) (loc1_1 : Int) (loc1_2 : Rs) (loc1_3 : Rs) (loc1_4 : Rs) (r : R20) (h : t20_h2 k rec need3 i4 t34 loc2_0 loc2_1 loc1_0 loc1_1 loc1_2 loc1_3 loc1_4 = some r) : P20 (.h2 need3 i4 t34 loc2_0 loc2_1 loc1_0 loc1_1 loc1_2 loc1_3 loc1_4) r := by
  unfold t20_h2 at h
  rcases bif_or h with ⟨hq, h1'⟩ | ⟨hq, h1'⟩
  · clear h; subst hq; have h := h1'; clear h1'
    obtain ⟨w_x1, h_x2, h⟩ := ixR_or h
    obtain ⟨op_x3, dst_x3, a_x3, b_x3, hq, h1'⟩ := un_i4_or h
    clear h; subst hq; have h := h1'; clear h1'
    obtain ⟨v_x4, h_x5, h⟩ := bd_or h
    exact mgo_at (nb := 0) hmix (ih _ _ h) (n := 5) (ad := [(some 38, .row [ic op_x3, ic dst_x3, ic a_x3, ic b_x3]), (some 40, .call (.ret (.c (.own 1 v_x4))) [] false)]) (ps := [_, _]) (m := bm 145 44601490397061246283071436545289026430566369) (ls := []) (cs := []) (by kernel_rfl) ⟨ix_row h_x2 rfl, (ev34 h_x5), trivial⟩
  · clear h; subst hq; have h := h1'; clear h1'
    exact mgo_at (nb := 0) hmix (ih _ _ h) (n := 3) (ad := []) (ps := []) (m := bm 145 44601490397061246283071436545296723011960801) (ls := []) (cs := []) (by kernel_rfl) trivial
theorem t20_h3_ok (k : Nat) (rec : S20 → Option R20) (ih : ∀ s r, rec s = some r → P20 s r) (need3 : Rs) (became8 : Rs) (t54 : Rs) (t55 : Int) (t56 : Int) (loc7_0 : Int) (loc7_1 : Int) (loc7_2 : Rs) (loc7_3 : Rs) (loc7_4 : Rs) (loc2_0 : Int) (loc2_1 : Int) (loc1_0 : Int) (loc1_1 : Int) (loc1_2 : Rs) (loc1_3 : Rs) (loc1_4 : Rs) (r : R20) (h : t20_h3 k rec need3 became8 t54 t55 t56 loc7_0 loc7_1 loc7_2 loc7_3 loc7_4 loc2_0 loc2_1 loc1_0 loc1_1 loc1_2 loc1_3 loc1_4 = some r) : P20 (.h3 need3 became8 t54 t55 t56 loc7_0 loc7_1 loc7_2 loc7_3 loc7_4 loc2_0 loc2_1 loc1_0 loc1_1 loc1_2 loc1_3 loc1_4) r := by
  unfold t20_h3 at h
  rcases bif_or h with ⟨h_x1, h⟩ | ⟨h_x1, h⟩
  ·
    obtain ⟨w_x2, h_x3, h⟩ := ixR_or h
    obtain ⟨op_x4, dst_x4, a_x4, b_x4, hq, h1'⟩ := un_i4_or h
    clear h; subst hq; have h := h1'; clear h1'
    rcases bif_or h with ⟨h_x5, h⟩ | ⟨h_x5, h⟩
    ·
      obtain ⟨w_x6, h_x7, h⟩ := ixR_or h
      obtain ⟨x_x8, hq, h1'⟩ := un_b_or h
      clear h; subst hq; have h := h1'; clear h1'
      exact mgo_at (nb := 0) hmix (ih _ _ h) (n := 13) (ad := [(some 57, .test true), (some 59, .row [ic op_x4, ic dst_x4, ic a_x4, ic b_x4]), (some 64, .test true), (some 68, .bnd), (some 69, .ld [bc x_x8])]) (ps := [_, _, _, _, _]) (m := bm 145 44601490397061246283069075235954498622978161) (ls := []) (cs := []) (by kernel_rfl) ⟨h_x1, ix_row h_x3 rfl, h_x5, ix_bnd h_x7, h_x7.2, trivial⟩
    ·
      exact mgo_at (nb := 0) hmix (ih _ _ h) (n := 13) (ad := [(some 57, .test true), (some 59, .row [ic op_x4, ic dst_x4, ic a_x4, ic b_x4]), (some 64, .test false)]) (ps := [_, _, _]) (m := bm 145 44601490397061246283069075235954498622978161) (ls := []) (cs := []) (by kernel_rfl) ⟨h_x1, ix_row h_x3 rfl, h_x5, trivial⟩
  ·
    exact mgo_at (nb := 0) hmix (ih _ _ h) (n := 10) (ad := [(some 57, .test false)]) (ps := [_]) (m := bm 145 44601490397061246283071436545296723011960827) (ls := [7, 1]) (cs := []) (by kernel_rfl) ⟨h_x1, trivial⟩
theorem t20_h4_ok (k : Nat) (rec : S20 → Option R20) (ih : ∀ s r, rec s = some r → P20 s r) (need3 : Rs) (i4 : Int) (t40 : Rs) (t41 : Int) (t42 : Int) (loc2_0 : Int) (loc2_1 : Int) (loc1_0 : Int) (loc1_1 : Int) (loc1_2 : Rs) (loc1_3 : Rs) (loc1_4 : Rs) (r : R20) (h : t20_h4 k rec need3 i4 t40 t41 t42 loc2_0 loc2_1 loc1_0 loc1_1 loc1_2 loc1_3 loc1_4 = some r) : P20 (.h4 need3 i4 t40 t41 t42 loc2_0 loc2_1 loc1_0 loc1_1 loc1_2 loc1_3 loc1_4) r := by
  unfold t20_h4 at h
  rcases bif_or h with ⟨h_x1, h⟩ | ⟨h_x1, h⟩
  ·
    obtain ⟨w_x2, h_x3, h⟩ := ixR_or h
    obtain ⟨x_x4, hq, h1'⟩ := un_i_or h
    clear h; subst hq; have h := h1'; clear h1'
    obtain ⟨w_x5, h_x6, h⟩ := ixR_or h
    obtain ⟨x_x7, hq, h1'⟩ := un_b_or h
    clear h; subst hq; have h := h1'; clear h1'
    exact mgo_at (nb := 0) hmix (ih _ _ h) (n := 12) (ad := [(some 43, .test true), (some 44, .bnd), (some 45, .ld [ic x_x4]), (some 48, .bnd), (none, .st)]) (ps := [_, _, _, _, _]) (m := bm 145 44601490397061246283071436545289026430566369) (ls := []) (cs := []) (by kernel_rfl) ⟨h_x1, ix_bnd h_x3, h_x3.2, ix_bnd h_x6, ix_cell (o := 0) h_x6 rfl, trivial⟩
  ·
    exact mgo_at (nb := 0) hmix (ih _ _ h) (n := 7) (ad := [(some 43, .test false)]) (ps := [_]) (m := bm 145 44601490397061246283071436545296723011960801) (ls := []) (cs := []) (by kernel_rfl) ⟨h_x1, trivial⟩
theorem t20_h5_ok (k : Nat) (rec : S20 → Option R20) (ih : ∀ s r, rec s = some r → P20 s r) (need3 : Rs) (i4 : Int) (loc2_0 : Int) (loc2_1 : Int) (loc1_0 : Int) (loc1_1 : Int) (loc1_2 : Rs) (loc1_3 : Rs) (loc1_4 : Rs) (r : R20) (h : t20_h5 k rec need3 i4 loc2_0 loc2_1 loc1_0 loc1_1 loc1_2 loc1_3 loc1_4 = some r) : P20 (.h5 need3 i4 loc2_0 loc2_1 loc1_0 loc1_1 loc1_2 loc1_3 loc1_4) r := by
  unfold t20_h5 at h
  exact mgo_at (nb := 0) hmix (ih _ _ h) (n := 1) (ad := []) (ps := []) (m := bm 145 44601490397061246283071436545296723011960801) (ls := []) (cs := []) (by kernel_rfl) trivial
theorem t20_h6_ok (k : Nat) (rec : S20 → Option R20) (ih : ∀ s r, rec s = some r → P20 s r) (need3 : Rs) (became8 : Rs) (i9 : Int) (t54 : Rs) (t55 : Int) (t56 : Int) (t71 : Bool) (loc10_0 : Int) (loc10_1 : Int) (loc10_2 : Int) (loc10_3 : Int) (loc7_0 : Int) (loc7_1 : Int) (loc7_2 : Rs) (loc7_3 : Rs) (loc7_4 : Rs) (loc2_0 : Int) (loc2_1 : Int) (loc1_0 : Int) (loc1_1 : Int) (loc1_2 : Rs) (loc1_3 : Rs) (loc1_4 : Rs) (r : R20) (h : t20_h6 k rec need3 became8 i9 t54 t55 t56 t71 loc10_0 loc10_1 loc10_2 loc10_3 loc7_0 loc7_1 loc7_2 loc7_3 loc7_4 loc2_0 loc2_1 loc1_0 loc1_1 loc1_2 loc1_3 loc1_4 = some r) : P20 (.h6 need3 became8 i9 t54 t55 t56 t71 loc10_0 loc10_1 loc10_2 loc10_3 loc7_0 loc7_1 loc7_2 loc7_3 loc7_4 loc2_0 loc2_1 loc1_0 loc1_1 loc1_2 loc1_3 loc1_4) r := by
  unfold t20_h6 at h
  rcases bif_or h with ⟨hq, h1'⟩ | ⟨hq, h1'⟩
  · clear h; subst hq; have h := h1'; clear h1'
    exact mgo_at (nb := 0) hmix (ih _ _ h) (n := 2) (ad := []) (ps := []) (m := bm 145 44601490397061246283071436419195933445586545) (ls := [10]) (cs := []) (by kernel_rfl) trivial
  · clear h; subst hq; have h := h1'; clear h1'
    rcases bif_or h with ⟨h_x1, h⟩ | ⟨h_x1, h⟩
    ·
      obtain ⟨w_x2, h_x3, h⟩ := ixR_or h
      obtain ⟨op_x4, kind_x4, pos_x4, attr_x4, hq, h1'⟩ := un_i4_or h
      clear h; subst hq; have h := h1'; clear h1'
      obtain ⟨v_x5, h_x6, h⟩ := bd_or h
      obtain ⟨r_x7, rb00_x7, rb01_x7, rb02_x7, rb03_x7, rb04_x7, hq, h1'⟩ := tup6_or h
      clear h; subst hq; have h := h1'; clear h1'
      exact mgo_at (nb := 0) hmix (ih _ _ h) (n := 11) (ad := [(some 98, .test true), (some 104, .row [ic op_x4, ic kind_x4, ic pos_x4, ic attr_x4]), (some 106, .call (.ret (.c (ic r_x7))) [[ic rb00_x7, ic rb01_x7, .own 4 rb02_x7, .own 2 rb03_x7, .own 4 rb04_x7]] false)]) (ps := [_, _, _]) (m := bm 145 44601490397061246283071436419195933445585009) (ls := []) (cs := []) (by kernel_rfl) ⟨h_x1, ix_row h_x3 rfl, (ev35h h_x6), trivial⟩
    ·
      rcases bif_or h with ⟨h_x2, h⟩ | ⟨h_x2, h⟩
      ·
        obtain ⟨w_x3, h_x4, h⟩ := ixR_or h
        obtain ⟨kind_x5, bits_x5, hq, h1'⟩ := un_iu_or h
        clear h; subst hq; have h := h1'; clear h1'
        obtain ⟨v_x6, h_x7, h⟩ := bd_or h
        obtain ⟨r_x8, rb00_x8, rb01_x8, rb02_x8, rb03_x8, rb04_x8, hq, h1'⟩ := tup6_or h
        clear h; subst hq; have h := h1'; clear h1'
        exact mgo_at (nb := 0) hmix (ih _ _ h) (n := 14) (ad := [(some 98, .test false), (some 109, .test true), (some 115, .row [ic kind_x5, .val (.int .u64 bits_x5)]), (some 117, .call (.ret (.c (ic r_x8))) [[ic rb00_x8, ic rb01_x8, .own 4 rb02_x8, .own 2 rb03_x8, .own 4 rb04_x8]] false)]) (ps := [_, _, _, _]) (m := bm 145 44601490397061246283071436419195933445585009) (ls := []) (cs := []) (by kernel_rfl) ⟨h_x1, h_x2, ix_row h_x4 rfl, (ev36i h_x7), trivial⟩
      ·
        obtain ⟨v_x3, h_x4, h⟩ := bd_or h
        rcases bif_or h with ⟨h_x5, h⟩ | ⟨h_x5, h⟩
        ·
          obtain ⟨w_x6, h_x7, h⟩ := ixR_or h
          obtain ⟨x_x8, hq, h1'⟩ := un_i_or h
          clear h; subst hq; have h := h1'; clear h1'
          obtain ⟨w_x9, h_x10, h⟩ := ixR_or h
          obtain ⟨x_x11, hq, h1'⟩ := un_i_or h
          clear h; subst hq; have h := h1'; clear h1'
          exact mgo_at (nb := 0) hmix (ih _ _ h) (n := 19) (ad := [(some 98, .test false), (some 109, .test false), (some 75, .call (.ret (.c (.own 1 v_x3))) [] false), (some 78, .test true), (some 82, .bnd), (some 83, .ld [ic x_x8]), (some 87, .bnd), (some 88, .ld [ic x_x11])]) (ps := [_, _, _, _, _, _, _, _]) (m := bm 145 44601490397061246283071436419195933445585009) (ls := []) (cs := []) (by kernel_rfl) ⟨h_x1, h_x2, (ev34 h_x4), h_x5, ix_bnd h_x7, h_x7.2, ix_bnd h_x10, h_x10.2, trivial⟩
        ·
          obtain ⟨w_x6, h_x7, h⟩ := ixR_or h
          obtain ⟨x_x8, hq, h1'⟩ := un_i_or h
          clear h; subst hq; have h := h1'; clear h1'
          exact mgo_at (nb := 0) hmix (ih _ _ h) (n := 19) (ad := [(some 98, .test false), (some 109, .test false), (some 75, .call (.ret (.c (.own 1 v_x3))) [] false), (some 78, .test false), (some 94, .bnd), (some 95, .ld [ic x_x8])]) (ps := [_, _, _, _, _, _]) (m := bm 145 44601490397061246283071436419195933445585009) (ls := []) (cs := []) (by kernel_rfl) ⟨h_x1, h_x2, (ev34 h_x4), h_x5, ix_bnd h_x7, h_x7.2, trivial⟩
theorem t20_h7_ok (k : Nat) (rec : S20 → Option R20) (ih : ∀ s r, rec s = some r → P20 s r) (loc2_0 : Int) (loc2_1 : Int) (loc2_2 : Rs) (loc2_3 : Rs) (loc2_4 : Rs) (r : R20) (h : t20_h7 k rec loc2_0 loc2_1 loc2_2 loc2_3 loc2_4 = some r) : P20 (.h7 loc2_0 loc2_1 loc2_2 loc2_3 loc2_4) r := by
  unfold t20_h7 at h
  rw [← Option.some.inj h]
  exact mgo_fin (nb := 0) hmix (n := 2000) (ad := []) (ps := []) (by kernel_rfl) trivial
theorem t20_h8_ok (k : Nat) (rec : S20 → Option R20) (ih : ∀ s r, rec s = some r → P20 s r) (need3 : Rs) (i4 : Int) (t40 : Rs) (t41 : Int) (t42 : Int) (loc2_0 : Int) (loc2_1 : Int) (loc1_0 : Int) (loc1_1 : Int) (loc1_2 : Rs) (loc1_3 : Rs) (loc1_4 : Rs) (r : R20) (h : t20_h8 k rec need3 i4 t40 t41 t42 loc2_0 loc2_1 loc1_0 loc1_1 loc1_2 loc1_3 loc1_4 = some r) : P20 (.h8 need3 i4 t40 t41 t42 loc2_0 loc2_1 loc1_0 loc1_1 loc1_2 loc1_3 loc1_4) r := by
  unfold t20_h8 at h
  exact mgo_at (nb := 0) hmix (ih _ _ h) (n := 1) (ad := []) (ps := []) (m := bm 145 44601490397061246283071436545289026430566369) (ls := []) (cs := []) (by kernel_rfl) trivial
theorem t20_h9_ok (k : Nat) (rec : S20 → Option R20) (ih : ∀ s r, rec s = some r → P20 s r) (need3 : Rs) (became8 : Rs) (t54 : Rs) (t55 : Int) (t56 : Int) (loc7_0 : Int) (loc7_1 : Int) (loc7_2 : Rs) (loc7_3 : Rs) (loc7_4 : Rs) (loc2_0 : Int) (loc2_1 : Int) (loc1_0 : Int) (loc1_1 : Int) (loc1_2 : Rs) (loc1_3 : Rs) (loc1_4 : Rs) (r : R20) (h : t20_h9 k rec need3 became8 t54 t55 t56 loc7_0 loc7_1 loc7_2 loc7_3 loc7_4 loc2_0 loc2_1 loc1_0 loc1_1 loc1_2 loc1_3 loc1_4 = some r) : P20 (.h9 need3 became8 t54 t55 t56 loc7_0 loc7_1 loc7_2 loc7_3 loc7_4 loc2_0 loc2_1 loc1_0 loc1_1 loc1_2 loc1_3 loc1_4) r := by
  unfold t20_h9 at h
  exact mgo_at (nb := 0) hmix (ih _ _ h) (n := 1) (ad := []) (ps := []) (m := bm 145 44601490397061246283071436419195933445586545) (ls := []) (cs := []) (by kernel_rfl) trivial
theorem t20_h10_ok (k : Nat) (rec : S20 → Option R20) (ih : ∀ s r, rec s = some r → P20 s r) (need3 : Rs) (became8 : Rs) (i9 : Int) (t54 : Rs) (t55 : Int) (t56 : Int) (loc10_0 : Int) (loc10_1 : Int) (loc10_2 : Int) (loc10_3 : Int) (loc7_0 : Int) (loc7_1 : Int) (loc7_2 : Rs) (loc7_3 : Rs) (loc7_4 : Rs) (loc2_0 : Int) (loc2_1 : Int) (loc1_0 : Int) (loc1_1 : Int) (loc1_2 : Rs) (loc1_3 : Rs) (loc1_4 : Rs) (r : R20) (h : t20_h10 k rec need3 became8 i9 t54 t55 t56 loc10_0 loc10_1 loc10_2 loc10_3 loc7_0 loc7_1 loc7_2 loc7_3 loc7_4 loc2_0 loc2_1 loc1_0 loc1_1 loc1_2 loc1_3 loc1_4 = some r) : P20 (.h10 need3 became8 i9 t54 t55 t56 loc10_0 loc10_1 loc10_2 loc10_3 loc7_0 loc7_1 loc7_2 loc7_3 loc7_4 loc2_0 loc2_1 loc1_0 loc1_1 loc1_2 loc1_3 loc1_4) r := by
  unfold t20_h10 at h
  rcases bif_or h with ⟨h_x1, h⟩ | ⟨h_x1, h⟩
  ·
    obtain ⟨w_x2, h_x3, h⟩ := ixR_or h
    obtain ⟨x_x4, hq, h1'⟩ := un_i_or h
    clear h; subst hq; have h := h1'; clear h1'
    exact mgo_at (nb := 0) hmix (ih _ _ h) (n := 7) (ad := [(some 122, .test true), (none, .st), (some 131, .bnd), (none, .st)]) (ps := [_, _, _, _]) (m := bm 145 44601490397061246283071436419195933445585521) (ls := []) (cs := []) (by kernel_rfl) ⟨h_x1, (⟨_, rfl⟩ : ∃ c0, cellAt [[ic loc10_0, ic loc10_1, ic loc10_2, ic loc10_3]] 0 1 = some c0), ix_bnd h_x3, ix_cell (o := 0) h_x3 rfl, trivial⟩
  ·
    exact mgo_at (nb := 0) hmix (ih _ _ h) (n := 5) (ad := [(some 122, .test false)]) (ps := [_]) (m := bm 145 44601490397061246283071436419195933445585521) (ls := []) (cs := []) (by kernel_rfl) ⟨h_x1, trivial⟩
theorem t20_h11_ok (k : Nat) (rec : S20 → Option R20) (ih : ∀ s r, rec s = some r → P20 s r) (need3 : Rs) (became8 : Rs) (t54 : Rs) (t55 : Int) (t56 : Int) (loc10_0 : Int) (loc10_1 : Int) (loc10_2 : Int) (loc10_3 : Int) (loc7_0 : Int) (loc7_1 : Int) (loc7_2 : Rs) (loc7_3 : Rs) (loc7_4 : Rs) (loc2_0 : Int) (loc2_1 : Int) (loc1_0 : Int) (loc1_1 : Int) (loc1_2 : Rs) (loc1_3 : Rs) (loc1_4 : Rs) (r : R20) (h : t20_h11 k rec need3 became8 t54 t55 t56 loc10_0 loc10_1 loc10_2 loc10_3 loc7_0 loc7_1 loc7_2 loc7_3 loc7_4 loc2_0 loc2_1 loc1_0 loc1_1 loc1_2 loc1_3 loc1_4 = some r) : P20 (.h11 need3 became8 t54 t55 t56 loc10_0 loc10_1 loc10_2 loc10_3 loc7_0 loc7_1 loc7_2 loc7_3 loc7_4 loc2_0 loc2_1 loc1_0 loc1_1 loc1_2 loc1_3 loc1_4) r := by
  unfold t20_h11 at h
  obtain ⟨h_x1, h⟩ := gd_or h
  exact mgo_at (nb := 0) hmix (ih _ _ h) (n := 2) (ad := [(some 136, .okE false)]) (ps := [_]) (m := bm 145 44601490397061246283071436419195933445586545) (ls := [10]) (cs := []) (by kernel_rfl) ⟨okF [[ic loc10_0, ic loc10_1, ic loc10_2, ic loc10_3]] h_x1, trivial⟩
theorem ok20 : ∀ k s r, itS step20 k s = some r → P20 s r := itS_ok fun k rec ih s r h => match s, h with
  | .e c0_0 c0_1 c0_2 c0_3 c0_4, h => t20_e_ok k rec ih c0_0 c0_1 c0_2 c0_3 c0_4 r h
  | .h0 loc2_0 loc2_1 loc2_2 loc2_3 loc2_4, h => t20_h0_ok k rec ih loc2_0 loc2_1 loc2_2 loc2_3 loc2_4 r h
  | .h1 need3 i4 loc2_0 loc2_1 loc1_0 loc1_1 loc1_2 loc1_3 loc1_4, h => t20_h1_ok k rec ih need3 i4 loc2_0 loc2_1 loc1_0 loc1_1 loc1_2 loc1_3 loc1_4 r h
  | .h2 need3 i4 t34 loc2_0 loc2_1 loc1_0 loc1_1 loc1_2 loc1_3 loc1_4, h => t20_h2_ok k rec ih need3 i4 t34 loc2_0 loc2_1 loc1_0 loc1_1 loc1_2 loc1_3 loc1_4 r h
  | .h3 need3 became8 t54 t55 t56 loc7_0 loc7_1 loc7_2 loc7_3 loc7_4 loc2_0 loc2_1 loc1_0 loc1_1 loc1_2 loc1_3 loc1_4, h => t20_h3_ok k rec ih need3 became8 t54 t55 t56 loc7_0 loc7_1 loc7_2 loc7_3 loc7_4 loc2_0 loc2_1 loc1_0 loc1_1 loc1_2 loc1_3 loc1_4 r h
  | .h4 need3 i4 t40 t41 t42 loc2_0 loc2_1 loc1_0 loc1_1 loc1_2 loc1_3 loc1_4, h => t20_h4_ok k rec ih need3 i4 t40 t41 t42 loc2_0 loc2_1 loc1_0 loc1_1 loc1_2 loc1_3 loc1_4 r h
  | .h5 need3 i4 loc2_0 loc2_1 loc1_0 loc1_1 loc1_2 loc1_3 loc1_4, h => t20_h5_ok k rec ih need3 i4 loc2_0 loc2_1 loc1_0 loc1_1 loc1_2 loc1_3 loc1_4 r h
  | .h6 need3 became8 i9 t54 t55 t56 t71 loc10_0 loc10_1 loc10_2 loc10_3 loc7_0 loc7_1 loc7_2 loc7_3 loc7_4 loc2_0 loc2_1 loc1_0 loc1_1 loc1_2 loc1_3 loc1_4, h => t20_h6_ok k rec ih need3 became8 i9 t54 t55 t56 t71 loc10_0 loc10_1 loc10_2 loc10_3 loc7_0 loc7_1 loc7_2 loc7_3 loc7_4 loc2_0 loc2_1 loc1_0 loc1_1 loc1_2 loc1_3 loc1_4 r h
  | .h7 loc2_0 loc2_1 loc2_2 loc2_3 loc2_4, h => t20_h7_ok k rec ih loc2_0 loc2_1 loc2_2 loc2_3 loc2_4 r h
  | .h8 need3 i4 t40 t41 t42 loc2_0 loc2_1 loc1_0 loc1_1 loc1_2 loc1_3 loc1_4, h => t20_h8_ok k rec ih need3 i4 t40 t41 t42 loc2_0 loc2_1 loc1_0 loc1_1 loc1_2 loc1_3 loc1_4 r h
  | .h9 need3 became8 t54 t55 t56 loc7_0 loc7_1 loc7_2 loc7_3 loc7_4 loc2_0 loc2_1 loc1_0 loc1_1 loc1_2 loc1_3 loc1_4, h => t20_h9_ok k rec ih need3 became8 t54 t55 t56 loc7_0 loc7_1 loc7_2 loc7_3 loc7_4 loc2_0 loc2_1 loc1_0 loc1_1 loc1_2 loc1_3 loc1_4 r h
  | .h10 need3 became8 i9 t54 t55 t56 loc10_0 loc10_1 loc10_2 loc10_3 loc7_0 loc7_1 loc7_2 loc7_3 loc7_4 loc2_0 loc2_1 loc1_0 loc1_1 loc1_2 loc1_3 loc1_4, h => t20_h10_ok k rec ih need3 became8 i9 t54 t55 t56 loc10_0 loc10_1 loc10_2 loc10_3 loc7_0 loc7_1 loc7_2 loc7_3 loc7_4 loc2_0 loc2_1 loc1_0 loc1_1 loc1_2 loc1_3 loc1_4 r h
  | .h11 need3 became8 t54 t55 t56 loc10_0 loc10_1 loc10_2 loc10_3 loc7_0 loc7_1 loc7_2 loc7_3 loc7_4 loc2_0 loc2_1 loc1_0 loc1_1 loc1_2 loc1_3 loc1_4, h => t20_h11_ok k rec ih need3 became8 t54 t55 t56 loc10_0 loc10_1 loc10_2 loc10_3 loc7_0 loc7_1 loc7_2 loc7_3 loc7_4 loc2_0 loc2_1 loc1_0 loc1_1 loc1_2 loc1_3 loc1_4 r h
theorem ev20 {k : Nat} {c0_0 : Int} {c0_1 : Int} {c0_2 : Rs} {c0_3 : Rs} {c0_4 : Rs} {r : R20} (h : g20 k c0_0 c0_1 c0_2 c0_3 c0_4 = some r) : Ev Try.prog noHand 20 [.ag [ic c0_0, ic c0_1, .imm c0_2, .imm c0_3, .imm c0_4]] [] (res20 r) (bx20 r) := evr20 (ok20 _ _ _ h)
-- auspice/ssa.last
inductive S32 where
  | e (c0_0 : Int) (c0_1 : Int) (c0_2 : Rs) (c0_3 : Rs) (c0_4 : Rs)
  | h0 (l3 : Rs) (t13 : Int) (t14 : Int) (loc1_0 : Int) (loc1_1 : Int) (loc1_2 : Rs) (loc1_3 : Rs) (loc1_4 : Rs)
  | h1 (l3 : Rs) (t13 : Int) (t14 : Int) (loc1_0 : Int) (loc1_1 : Int) (loc1_2 : Rs) (loc1_3 : Rs) (loc1_4 : Rs)
  | h2 (l3 : Rs) (t22 : Rs) (t23 : Int) (t24 : Int)
  | h3 (l3 : Rs) (i5 : Int) (t22 : Rs) (t23 : Int) (t24 : Int) (t30 : Rs) (t31 : Int) (t32 : Int)
  | h4 (l3 : Rs) (i5 : Int) (t22 : Rs) (t23 : Int) (t24 : Int) (t30 : Rs) (t31 : Int) (t32 : Int)
abbrev R32 := Rs
def res32 : R32 → ARes
  | r => .ret (.c (.own 1 r))
def bx32 : R32 → List (List Cell)
  | r => []
noncomputable def t32_e (k : Nat) (rec : S32 → Option R32) (c0_0 : Int) (c0_1 : Int) (c0_2 : Rs) (c0_3 : Rs) (c0_4 : Rs) : Option R32 :=
  gd (mkOk c0_0 c0_0 8 1) <|
  rec (.h0 (List.replicate c0_0.toNat [ic 0]) ((List.replicate c0_0.toNat [ic 0]).length : Int) 0 c0_0 c0_1 c0_2 c0_3 c0_4)
noncomputable def t32_h0 (k : Nat) (rec : S32 → Option R32) (l3 : Rs) (t13 : Int) (t14 : Int) (loc1_0 : Int) (loc1_1 : Int) (loc1_2 : Rs) (loc1_3 : Rs) (loc1_4 : Rs) : Option R32 :=
  bif decide (t14 < t13) then
    ixR l3 t14 fun w_x2 =>
    un_i w_x2 fun x_x4 =>
    rec (.h1 (setRow l3 t14.toNat 0 (ic (-1))) t13 t14 loc1_0 loc1_1 loc1_2 loc1_3 loc1_4)
  else
    rec (.h2 l3 loc1_4 (loc1_4.length : Int) 0)
noncomputable def t32_h1 (k : Nat) (rec : S32 → Option R32) (l3 : Rs) (t13 : Int) (t14 : Int) (loc1_0 : Int) (loc1_1 : Int) (loc1_2 : Rs) (loc1_3 : Rs) (loc1_4 : Rs) : Option R32 :=
  rec (.h0 l3 t13 (IntKind.i64.wrap (t14 + 1)) loc1_0 loc1_1 loc1_2 loc1_3 loc1_4)
noncomputable def t32_h2 (k : Nat) (rec : S32 → Option R32) (l3 : Rs) (t22 : Rs) (t23 : Int) (t24 : Int) : Option R32 :=
  bif decide (t24 < t23) then
    ixR t22 t24 fun w_x2 =>
    un_i4 w_x2 fun op_x4 dst_x4 a_x4 b_x4 =>
    (g34 k op_x4 dst_x4 a_x4 b_x4).bind fun v_x5 =>
    rec (.h3 l3 t24 t22 t23 t24 v_x5 (v_x5.length : Int) 0)
  else
    some l3
noncomputable def t32_h3 (k : Nat) (rec : S32 → Option R32) (l3 : Rs) (i5 : Int) (t22 : Rs) (t23 : Int) (t24 : Int) (t30 : Rs) (t31 : Int) (t32 : Int) : Option R32 :=
  bif decide (t32 < t31) then
    ixR t30 t32 fun w_x2 =>
    un_i w_x2 fun x_x4 =>
    ixR l3 x_x4 fun w_x5 =>
    un_i w_x5 fun x_x7 =>
    rec (.h4 (setRow l3 x_x4.toNat 0 (ic i5)) i5 t22 t23 t24 t30 t31 t32)
  else
    rec (.h2 l3 t22 t23 (IntKind.i64.wrap (t24 + 1)))
noncomputable def t32_h4 (k : Nat) (rec : S32 → Option R32) (l3 : Rs) (i5 : Int) (t22 : Rs) (t23 : Int) (t24 : Int) (t30 : Rs) (t31 : Int) (t32 : Int) : Option R32 :=
  rec (.h3 l3 i5 t22 t23 t24 t30 t31 (IntKind.i64.wrap (t32 + 1)))
noncomputable def step32 (k : Nat) (rec : S32 → Option R32) : S32 → Option R32
  | .e c0_0 c0_1 c0_2 c0_3 c0_4 => t32_e k rec c0_0 c0_1 c0_2 c0_3 c0_4
  | .h0 l3 t13 t14 loc1_0 loc1_1 loc1_2 loc1_3 loc1_4 => t32_h0 k rec l3 t13 t14 loc1_0 loc1_1 loc1_2 loc1_3 loc1_4
  | .h1 l3 t13 t14 loc1_0 loc1_1 loc1_2 loc1_3 loc1_4 => t32_h1 k rec l3 t13 t14 loc1_0 loc1_1 loc1_2 loc1_3 loc1_4
  | .h2 l3 t22 t23 t24 => t32_h2 k rec l3 t22 t23 t24
  | .h3 l3 i5 t22 t23 t24 t30 t31 t32 => t32_h3 k rec l3 i5 t22 t23 t24 t30 t31 t32
  | .h4 l3 i5 t22 t23 t24 t30 t31 t32 => t32_h4 k rec l3 i5 t22 t23 t24 t30 t31 t32
noncomputable def g32 (k : Nat) (c0_0 : Int) (c0_1 : Int) (c0_2 : Rs) (c0_3 : Rs) (c0_4 : Rs) : Option R32 := itS step32 k (.e c0_0 c0_1 c0_2 c0_3 c0_4)
noncomputable def P32 : S32 → R32 → Prop
  | .e c0_0 c0_1 c0_2 c0_3 c0_4, r => Fin cx32 Try.f32 [.code body32] (fr0 Try.f32 [.ag [ic c0_0, ic c0_1, .imm c0_2, .imm c0_3, .imm c0_4]] []) (res32 r) (bx32 r)
  | .h0 l3 t13 t14 loc1_0 loc1_1 loc1_2 loc1_3 loc1_4, r => Fin cx32 Try.f32 (kAt body32 [1, 1, 0, 1, 0, 4] []) ⟨[.deadv, .c (.ptr ⟨⟨.loc 1, []⟩, 0, 0⟩), .deadv, .c (.own 1 l3)] ++ rep 9 .deadv ++ [.c (ic t13), .c (ic t14)] ++ rep 28 .deadv, [(.loc 1, [ic loc1_0, ic loc1_1, .imm loc1_2, .imm loc1_3, .imm loc1_4])]⟩ (res32 r) (bx32 r)
  | .h1 l3 t13 t14 loc1_0 loc1_1 loc1_2 loc1_3 loc1_4, r => Fin cx32 Try.f32 (kAt body32 [1, 1, 0, 1, 0, 0, 1, 1, 1, 2] []) ⟨[.deadv, .c (.ptr ⟨⟨.loc 1, []⟩, 0, 0⟩), .deadv, .c (.own 1 l3)] ++ rep 9 .deadv ++ [.c (ic t13), .c (ic t14)] ++ rep 28 .deadv, [(.loc 1, [ic loc1_0, ic loc1_1, .imm loc1_2, .imm loc1_3, .imm loc1_4])]⟩ (res32 r) (bx32 r)
  | .h2 l3 t22 t23 t24, r => Fin cx32 Try.f32 (kAt body32 [1, 1, 1, 0, 1, 0, 4] []) ⟨rep 3 .deadv ++ [.c (.own 1 l3)] ++ rep 18 .deadv ++ [.c (.imm t22), .c (ic t23), .c (ic t24)] ++ rep 18 .deadv, []⟩ (res32 r) (bx32 r)
  | .h3 l3 i5 t22 t23 t24 t30 t31 t32, r => Fin cx32 Try.f32 (kAt body32 [1, 1, 1, 0, 1, 0, 0, 1, 1, 0, 0, 1, 1, 0, 4] []) ⟨rep 3 .deadv ++ [.c (.own 1 l3), .deadv, .c (ic i5)] ++ rep 16 .deadv ++ [.c (.imm t22), .c (ic t23), .c (ic t24)] ++ rep 5 .deadv ++ [.c (.own 1 t30), .c (ic t31), .c (ic t32)] ++ rep 10 .deadv, []⟩ (res32 r) (bx32 r)
  | .h4 l3 i5 t22 t23 t24 t30 t31 t32, r => Fin cx32 Try.f32 (kAt body32 [1, 1, 1, 0, 1, 0, 0, 1, 1, 0, 0, 1, 1, 0, 0, 1, 1, 1, 2] []) ⟨rep 3 .deadv ++ [.c (.own 1 l3), .deadv, .c (ic i5)] ++ rep 16 .deadv ++ [.c (.imm t22), .c (ic t23), .c (ic t24)] ++ rep 5 .deadv ++ [.c (.own 1 t30), .c (ic t31), .c (ic t32)] ++ rep 10 .deadv, []⟩ (res32 r) (bx32 r)
theorem evr32 {c0_0 : Int} {c0_1 : Int} {c0_2 : Rs} {c0_3 : Rs} {c0_4 : Rs} {r : R32} (h : P32 (.e c0_0 c0_1 c0_2 c0_3 c0_4) r) : Ev Try.prog noHand 32 [.ag [ic c0_0, ic c0_1, .imm c0_2, .imm c0_3, .imm c0_4]] [] (res32 r) (bx32 r) := ev_of_fin (fn := Try.f32) (body := body32) (by kernel_rfl) (by kernel_rfl) (by kernel_rfl) rfl h
theorem t32_e_ok (k : Nat) (rec : S32 → Option R32) (ih : ∀ s r, rec s = some r → P32 s r) (c0_0 : Int) (c0_1 : Int) (c0_2 : Rs) (c0_3 : Rs) (c0_4 : Rs) (r : R32) (h : t32_e k rec c0_0 c0_1 c0_2 c0_3 c0_4 = some r) : P32 (.e c0_0 c0_1 c0_2 c0_3 c0_4) r := by
  unfold t32_e at h
  obtain ⟨h_x1, h⟩ := gd_or h
  exact mgo_at (nb := 0) hmix (ih _ _ h) (n := 9) (ad := [(some 11, .ok)]) (ps := [_]) (m := bm 43 8796092997621) (ls := []) (cs := []) (by kernel_rfl) ⟨h_x1, trivial⟩
theorem t32_h0_ok (k : Nat) (rec : S32 → Option R32) (ih : ∀ s r, rec s = some r → P32 s r) (l3 : Rs) (t13 : Int) (t14 : Int) (loc1_0 : Int) (loc1_1 : Int) (loc1_2 : Rs) (loc1_3 : Rs) (loc1_4 : Rs) (r : R32) (h : t32_h0 k rec l3 t13 t14 loc1_0 loc1_1 loc1_2 loc1_3 loc1_4 = some r) : P32 (.h0 l3 t13 t14 loc1_0 loc1_1 loc1_2 loc1_3 loc1_4) r := by
  unfold t32_h0 at h
  rcases bif_or h with ⟨h_x1, h⟩ | ⟨h_x1, h⟩
  ·
    obtain ⟨w_x2, h_x3, h⟩ := ixR_or h
    obtain ⟨x_x4, hq, h1'⟩ := un_i_or h
    clear h; subst hq; have h := h1'; clear h1'
    exact mgo_at (nb := 0) hmix (ih _ _ h) (n := 12) (ad := [(some 15, .test true), (some 19, .bnd), (none, .st)]) (ps := [_, _, _]) (m := bm 43 8796092997621) (ls := []) (cs := []) (by kernel_rfl) ⟨h_x1, ix_bnd h_x3, ix_cell (o := 0) h_x3 rfl, trivial⟩
  ·
    exact mgo_at (nb := 0) hmix (ih _ _ h) (n := 11) (ad := [(some 15, .test false)]) (ps := [_]) (m := bm 43 8796063662071) (ls := [1]) (cs := []) (by kernel_rfl) ⟨h_x1, trivial⟩
theorem t32_h1_ok (k : Nat) (rec : S32 → Option R32) (ih : ∀ s r, rec s = some r → P32 s r) (l3 : Rs) (t13 : Int) (t14 : Int) (loc1_0 : Int) (loc1_1 : Int) (loc1_2 : Rs) (loc1_3 : Rs) (loc1_4 : Rs) (r : R32) (h : t32_h1 k rec l3 t13 t14 loc1_0 loc1_1 loc1_2 loc1_3 loc1_4 = some r) : P32 (.h1 l3 t13 t14 loc1_0 loc1_1 loc1_2 loc1_3 loc1_4) r := by
  unfold t32_h1 at h
  exact mgo_at (nb := 0) hmix (ih _ _ h) (n := 1) (ad := []) (ps := []) (m := bm 43 8796092997621) (ls := []) (cs := []) (by kernel_rfl) trivial
theorem t32_h2_ok (k : Nat) (rec : S32 → Option R32) (ih : ∀ s r, rec s = some r → P32 s r) (l3 : Rs) (t22 : Rs) (t23 : Int) (t24 : Int) (r : R32) (h : t32_h2 k rec l3 t22 t23 t24 = some r) : P32 (.h2 l3 t22 t23 t24) r := by
  unfold t32_h2 at h
  rcases bif_or h with ⟨h_x1, h⟩ | ⟨h_x1, h⟩
  ·
    obtain ⟨w_x2, h_x3, h⟩ := ixR_or h
    obtain ⟨op_x4, dst_x4, a_x4, b_x4, hq, h1'⟩ := un_i4_or h
    clear h; subst hq; have h := h1'; clear h1'
    obtain ⟨v_x5, h_x6, h⟩ := bd_or h
    exact mgo_at (nb := 0) hmix (ih _ _ h) (n := 14) (ad := [(some 25, .test true), (some 27, .row [ic op_x4, ic dst_x4, ic a_x4, ic b_x4]), (some 30, .call (.ret (.c (.own 1 v_x5))) [] false)]) (ps := [_, _, _]) (m := bm 43 8788547469271) (ls := [6]) (cs := []) (by kernel_rfl) ⟨h_x1, ix_row h_x3 rfl, (ev34 h_x6), trivial⟩
  ·
    rw [← Option.some.inj h]
    exact mgo_fin (nb := 0) hmix (n := 2000) (ad := [(some 25, .test false)]) (ps := [_]) (by kernel_rfl) ⟨h_x1, trivial⟩
theorem t32_h3_ok (k : Nat) (rec : S32 → Option R32) (ih : ∀ s r, rec s = some r → P32 s r) (l3 : Rs) (i5 : Int) (t22 : Rs) (t23 : Int) (t24 : Int) (t30 : Rs) (t31 : Int) (t32 : Int) (r : R32) (h : t32_h3 k rec l3 i5 t22 t23 t24 t30 t31 t32 = some r) : P32 (.h3 l3 i5 t22 t23 t24 t30 t31 t32) r := by
  unfold t32_h3 at h
  rcases bif_or h with ⟨h_x1, h⟩ | ⟨h_x1, h⟩
  ·
    obtain ⟨w_x2, h_x3, h⟩ := ixR_or h
    obtain ⟨x_x4, hq, h1'⟩ := un_i_or h
    clear h; subst hq; have h := h1'; clear h1'
    obtain ⟨w_x5, h_x6, h⟩ := ixR_or h
    obtain ⟨x_x7, hq, h1'⟩ := un_i_or h
    clear h; subst hq; have h := h1'; clear h1'
    exact mgo_at (nb := 0) hmix (ih _ _ h) (n := 12) (ad := [(some 33, .test true), (some 34, .bnd), (some 35, .ld [ic x_x4]), (some 39, .bnd), (none, .st)]) (ps := [_, _, _, _, _]) (m := bm 43 8788547469271) (ls := []) (cs := []) (by kernel_rfl) ⟨h_x1, ix_bnd h_x3, h_x3.2, ix_bnd h_x6, ix_cell (o := 0) h_x6 rfl, trivial⟩
  ·
    exact mgo_at (nb := 0) hmix (ih _ _ h) (n := 8) (ad := [(some 33, .test false)]) (ps := [_]) (m := bm 43 8796063662071) (ls := []) (cs := []) (by kernel_rfl) ⟨h_x1, trivial⟩
theorem t32_h4_ok (k : Nat) (rec : S32 → Option R32) (ih : ∀ s r, rec s = some r → P32 s r) (l3 : Rs) (i5 : Int) (t22 : Rs) (t23 : Int) (t24 : Int) (t30 : Rs) (t31 : Int) (t32 : Int) (r : R32) (h : t32_h4 k rec l3 i5 t22 t23 t24 t30 t31 t32 = some r) : P32 (.h4 l3 i5 t22 t23 t24 t30 t31 t32) r := by
  unfold t32_h4 at h
  exact mgo_at (nb := 0) hmix (ih _ _ h) (n := 1) (ad := []) (ps := []) (m := bm 43 8788547469271) (ls := []) (cs := []) (by kernel_rfl) trivial
theorem ok32 : ∀ k s r, itS step32 k s = some r → P32 s r := itS_ok fun k rec ih s r h => match s, h with
  | .e c0_0 c0_1 c0_2 c0_3 c0_4, h => t32_e_ok k rec ih c0_0 c0_1 c0_2 c0_3 c0_4 r h
  | .h0 l3 t13 t14 loc1_0 loc1_1 loc1_2 loc1_3 loc1_4, h => t32_h0_ok k rec ih l3 t13 t14 loc1_0 loc1_1 loc1_2 loc1_3 loc1_4 r h
  | .h1 l3 t13 t14 loc1_0 loc1_1 loc1_2 loc1_3 loc1_4, h => t32_h1_ok k rec ih l3 t13 t14 loc1_0 loc1_1 loc1_2 loc1_3 loc1_4 r h
  | .h2 l3 t22 t23 t24, h => t32_h2_ok k rec ih l3 t22 t23 t24 r h
  | .h3 l3 i5 t22 t23 t24 t30 t31 t32, h => t32_h3_ok k rec ih l3 i5 t22 t23 t24 t30 t31 t32 r h
  | .h4 l3 i5 t22 t23 t24 t30 t31 t32, h => t32_h4_ok k rec ih l3 i5 t22 t23 t24 t30 t31 t32 r h
theorem ev32 {k : Nat} {c0_0 : Int} {c0_1 : Int} {c0_2 : Rs} {c0_3 : Rs} {c0_4 : Rs} {r : R32} (h : g32 k c0_0 c0_1 c0_2 c0_3 c0_4 = some r) : Ev Try.prog noHand 32 [.ag [ic c0_0, ic c0_1, .imm c0_2, .imm c0_3, .imm c0_4]] [] (res32 r) (bx32 r) := evr32 (ok32 _ _ _ h)
-- auspice/ssa.Width
inductive S17 where
  | e (c0_0 : Int) (c0_1 : Int) (c0_2 : Rs) (c0_3 : Rs) (c0_4 : Rs)
  | h0 (l3 : Rs) (most4 : Int) (t14 : Int) (t15 : Int)
  | h1 (l3 : Rs) (most4 : Int) (i5 : Int) (n6 : Int) (t14 : Int) (t15 : Int) (t18 : Int) (t19 : Int)
  | h2 (l3 : Rs) (most4 : Int) (i5 : Int) (n6 : Int) (t14 : Int) (t15 : Int) (t18 : Int) (t19 : Int)
abbrev R17 := Int
def res17 : R17 → ARes
  | r => .ret (.c (ic r))
def bx17 : R17 → List (List Cell)
  | r => []
noncomputable def t17_e (k : Nat) (rec : S17 → Option R17) (c0_0 : Int) (c0_1 : Int) (c0_2 : Rs) (c0_3 : Rs) (c0_4 : Rs) : Option R17 :=
  (g15 k c0_0 c0_1 c0_2 c0_3 c0_4).bind fun v_x1 =>
  bif !v_x1 then
    some 0
  else
    (g32 k c0_0 c0_1 c0_2 c0_3 c0_4).bind fun v_x4 =>
    rec (.h0 v_x4 0 c0_0 0)
noncomputable def t17_h0 (k : Nat) (rec : S17 → Option R17) (l3 : Rs) (most4 : Int) (t14 : Int) (t15 : Int) : Option R17 :=
  bif decide (t15 < t14) then
    rec (.h1 l3 most4 t15 1 t14 t15 t15 0)
  else
    some most4
noncomputable def t17_h1 (k : Nat) (rec : S17 → Option R17) (l3 : Rs) (most4 : Int) (i5 : Int) (n6 : Int) (t14 : Int) (t15 : Int) (t18 : Int) (t19 : Int) : Option R17 :=
  bif decide (t19 < t18) then
    ixR l3 t19 fun w_x2 =>
    un_i w_x2 fun x_x4 =>
    bif decide (x_x4 > i5) then
      rec (.h2 l3 most4 i5 (IntKind.i64.wrap (n6 + 1)) t14 t15 t18 t19)
    else
      rec (.h2 l3 most4 i5 n6 t14 t15 t18 t19)
  else
    rec (.h0 l3 (if (n6 : Int) > most4 then n6 else most4) t14 (IntKind.i64.wrap (t15 + 1)))
noncomputable def t17_h2 (k : Nat) (rec : S17 → Option R17) (l3 : Rs) (most4 : Int) (i5 : Int) (n6 : Int) (t14 : Int) (t15 : Int) (t18 : Int) (t19 : Int) : Option R17 :=
  rec (.h1 l3 most4 i5 n6 t14 t15 t18 (IntKind.i64.wrap (t19 + 1)))
noncomputable def step17 (k : Nat) (rec : S17 → Option R17) : S17 → Option R17
  | .e c0_0 c0_1 c0_2 c0_3 c0_4 => t17_e k rec c0_0 c0_1 c0_2 c0_3 c0_4
  | .h0 l3 most4 t14 t15 => t17_h0 k rec l3 most4 t14 t15
  | .h1 l3 most4 i5 n6 t14 t15 t18 t19 => t17_h1 k rec l3 most4 i5 n6 t14 t15 t18 t19
  | .h2 l3 most4 i5 n6 t14 t15 t18 t19 => t17_h2 k rec l3 most4 i5 n6 t14 t15 t18 t19
noncomputable def g17 (k : Nat) (c0_0 : Int) (c0_1 : Int) (c0_2 : Rs) (c0_3 : Rs) (c0_4 : Rs) : Option R17 := itS step17 k (.e c0_0 c0_1 c0_2 c0_3 c0_4)
noncomputable def P17 : S17 → R17 → Prop
  | .e c0_0 c0_1 c0_2 c0_3 c0_4, r => Fin cx17 Try.f17 [.code body17] (fr0 Try.f17 [.ag [ic c0_0, ic c0_1, .imm c0_2, .imm c0_3, .imm c0_4]] []) (res17 r) (bx17 r)
  | .h0 l3 most4 t14 t15, r => Fin cx17 Try.f17 (kAt body17 [1, 1, 1, 1, 0, 1, 0, 4] []) ⟨rep 3 .deadv ++ [.c (.own 1 l3), .c (ic most4)] ++ rep 9 .deadv ++ [.c (ic t14), .c (ic t15)] ++ rep 20 .deadv, []⟩ (res17 r) (bx17 r)
  | .h1 l3 most4 i5 n6 t14 t15 t18 t19, r => Fin cx17 Try.f17 (kAt body17 [1, 1, 1, 1, 0, 1, 0, 0, 1, 1, 0, 0, 1, 1, 0, 1, 0, 4] []) ⟨rep 3 .deadv ++ [.c (.own 1 l3), .c (ic most4), .c (ic i5), .c (ic n6)] ++ rep 7 .deadv ++ [.c (ic t14), .c (ic t15), .deadv, .deadv, .c (ic t18), .c (ic t19)] ++ rep 16 .deadv, []⟩ (res17 r) (bx17 r)
  | .h2 l3 most4 i5 n6 t14 t15 t18 t19, r => Fin cx17 Try.f17 (kAt body17 [1, 1, 1, 1, 0, 1, 0, 0, 1, 1, 0, 0, 1, 1, 0, 1, 0, 0, 1, 1, 1, 2] []) ⟨rep 3 .deadv ++ [.c (.own 1 l3), .c (ic most4), .c (ic i5), .c (ic n6)] ++ rep 7 .deadv ++ [.c (ic t14), .c (ic t15), .deadv, .deadv, .c (ic t18), .c (ic t19)] ++ rep 16 .deadv, []⟩ (res17 r) (bx17 r)
theorem evr17 {c0_0 : Int} {c0_1 : Int} {c0_2 : Rs} {c0_3 : Rs} {c0_4 : Rs} {r : R17} (h : P17 (.e c0_0 c0_1 c0_2 c0_3 c0_4) r) : Ev Try.prog noHand 17 [.ag [ic c0_0, ic c0_1, .imm c0_2, .imm c0_3, .imm c0_4]] [] (res17 r) (bx17 r) := ev_of_fin (fn := Try.f17) (body := body17) (by kernel_rfl) (by kernel_rfl) (by kernel_rfl) rfl h
theorem t17_e_ok (k : Nat) (rec : S17 → Option R17) (ih : ∀ s r, rec s = some r → P17 s r) (c0_0 : Int) (c0_1 : Int) (c0_2 : Rs) (c0_3 : Rs) (c0_4 : Rs) (r : R17) (h : t17_e k rec c0_0 c0_1 c0_2 c0_3 c0_4 = some r) : P17 (.e c0_0 c0_1 c0_2 c0_3 c0_4) r := by
  unfold t17_e at h
  obtain ⟨v_x1, h_x2, h⟩ := bd_or h
  rcases bif_or h with ⟨h_x3, h⟩ | ⟨h_x3, h⟩
  ·
    rw [← Option.some.inj h]
    exact mgo_fin (nb := 0) hmix (n := 2000) (ad := [(some 9, .call (.ret (.c (bc v_x1))) [] false), (some 10, .test true)]) (ps := [_, _]) (by kernel_rfl) ⟨(ev15 h_x2), h_x3, trivial⟩
  ·
    obtain ⟨v_x4, h_x5, h⟩ := bd_or h
    exact mgo_at (nb := 0) hmix (ih _ _ h) (n := 16) (ad := [(some 9, .call (.ret (.c (bc v_x1))) [] false), (some 10, .test false), (some 12, .call (.ret (.c (.own 1 v_x4))) [] false)]) (ps := [_, _, _]) (m := bm 36 68719427559) (ls := [1]) (cs := []) (by kernel_rfl) ⟨(ev15 h_x2), h_x3, (ev32 h_x5), trivial⟩
theorem t17_h0_ok (k : Nat) (rec : S17 → Option R17) (ih : ∀ s r, rec s = some r → P17 s r) (l3 : Rs) (most4 : Int) (t14 : Int) (t15 : Int) (r : R17) (h : t17_h0 k rec l3 most4 t14 t15 = some r) : P17 (.h0 l3 most4 t14 t15) r := by
  unfold t17_h0 at h
  rcases bif_or h with ⟨h_x1, h⟩ | ⟨h_x1, h⟩
  ·
    exact mgo_at (nb := 0) hmix (ih _ _ h) (n := 17) (ad := [(some 16, .test true)]) (ps := [_]) (m := bm 36 68718641031) (ls := []) (cs := []) (by kernel_rfl) ⟨h_x1, trivial⟩
  ·
    rw [← Option.some.inj h]
    exact mgo_fin (nb := 0) hmix (n := 2000) (ad := [(some 16, .test false)]) (ps := [_]) (by kernel_rfl) ⟨h_x1, trivial⟩
theorem t17_h1_ok (k : Nat) (rec : S17 → Option R17) (ih : ∀ s r, rec s = some r → P17 s r) (l3 : Rs) (most4 : Int) (i5 : Int) (n6 : Int) (t14 : Int) (t15 : Int) (t18 : Int) (t19 : Int) (r : R17) (h : t17_h1 k rec l3 most4 i5 n6 t14 t15 t18 t19 = some r) : P17 (.h1 l3 most4 i5 n6 t14 t15 t18 t19) r := by
  unfold t17_h1 at h
  rcases bif_or h with ⟨h_x1, h⟩ | ⟨h_x1, h⟩
  ·
    obtain ⟨w_x2, h_x3, h⟩ := ixR_or h
    obtain ⟨x_x4, hq, h1'⟩ := un_i_or h
    clear h; subst hq; have h := h1'; clear h1'
    rcases bif_or h with ⟨h_x5, h⟩ | ⟨h_x5, h⟩
    ·
      exact mgo_at (nb := 0) hmix (ih _ _ h) (n := 15) (ad := [(some 20, .test true), (some 24, .bnd), (some 25, .ld [ic x_x4]), (some 27, .test true)]) (ps := [_, _, _, _]) (m := bm 36 68718641031) (ls := []) (cs := []) (by kernel_rfl) ⟨h_x1, ix_bnd h_x3, h_x3.2, h_x5, trivial⟩
    ·
      exact mgo_at (nb := 0) hmix (ih _ _ h) (n := 15) (ad := [(some 20, .test true), (some 24, .bnd), (some 25, .ld [ic x_x4]), (some 27, .test false)]) (ps := [_, _, _, _]) (m := bm 36 68718641031) (ls := []) (cs := []) (by kernel_rfl) ⟨h_x1, ix_bnd h_x3, h_x3.2, h_x5, trivial⟩
  ·
    exact mgo_at (nb := 0) hmix (ih _ _ h) (n := 9) (ad := [(some 20, .test false)]) (ps := [_]) (m := bm 36 68719427559) (ls := []) (cs := []) (by kernel_rfl) ⟨h_x1, trivial⟩
theorem t17_h2_ok (k : Nat) (rec : S17 → Option R17) (ih : ∀ s r, rec s = some r → P17 s r) (l3 : Rs) (most4 : Int) (i5 : Int) (n6 : Int) (t14 : Int) (t15 : Int) (t18 : Int) (t19 : Int) (r : R17) (h : t17_h2 k rec l3 most4 i5 n6 t14 t15 t18 t19 = some r) : P17 (.h2 l3 most4 i5 n6 t14 t15 t18 t19) r := by
  unfold t17_h2 at h
  exact mgo_at (nb := 0) hmix (ih _ _ h) (n := 1) (ad := []) (ps := []) (m := bm 36 68718641031) (ls := []) (cs := []) (by kernel_rfl) trivial
theorem ok17 : ∀ k s r, itS step17 k s = some r → P17 s r := itS_ok fun k rec ih s r h => match s, h with
  | .e c0_0 c0_1 c0_2 c0_3 c0_4, h => t17_e_ok k rec ih c0_0 c0_1 c0_2 c0_3 c0_4 r h
  | .h0 l3 most4 t14 t15, h => t17_h0_ok k rec ih l3 most4 t14 t15 r h
  | .h1 l3 most4 i5 n6 t14 t15 t18 t19, h => t17_h1_ok k rec ih l3 most4 i5 n6 t14 t15 t18 t19 r h
  | .h2 l3 most4 i5 n6 t14 t15 t18 t19, h => t17_h2_ok k rec ih l3 most4 i5 n6 t14 t15 t18 t19 r h
theorem ev17 {k : Nat} {c0_0 : Int} {c0_1 : Int} {c0_2 : Rs} {c0_3 : Rs} {c0_4 : Rs} {r : R17} (h : g17 k c0_0 c0_1 c0_2 c0_3 c0_4 = some r) : Ev Try.prog noHand 17 [.ag [ic c0_0, ic c0_1, .imm c0_2, .imm c0_3, .imm c0_4]] [] (res17 r) (bx17 r) := evr17 (ok17 _ _ _ h)
-- auspice/auspicelaw17.SsaNeeds
inductive S7 where
  | e (l0 : Rs) (share1 : Bool) (c2_0 : Int) (c2_1 : Int) (c2_2 : Rs) (c2_3 : Rs) (c2_4 : Rs)
  | h0 (t26 : Bool) (loc5_0 : Int) (loc5_1 : Int) (loc5_2 : Rs) (loc5_3 : Rs) (loc5_4 : Rs)
  | h1 (t35 : Bool) (loc5_0 : Int) (loc5_1 : Int) (loc5_2 : Rs) (loc5_3 : Rs) (loc5_4 : Rs)
abbrev R7 := Bool
def res7 : R7 → ARes
  | r => .ret (.c (bc r))
def bx7 : R7 → List (List Cell)
  | r => []
noncomputable def t7_e (k : Nat) (rec : S7 → Option R7) (l0 : Rs) (share1 : Bool) (c2_0 : Int) (c2_1 : Int) (c2_2 : Rs) (c2_3 : Rs) (c2_4 : Rs) : Option R7 :=
  (g11 k l0 share1).bind fun v_x1 =>
  tup6 v_x1 fun r00_x3 r01_x3 r02_x3 r03_x3 r04_x3 r10_x3 =>
  bif r10_x3 == 0 then
    (g20 k r00_x3 r01_x3 r02_x3 r03_x3 r04_x3).bind fun v_x5 =>
    tup5 v_x5 fun r0_x7 r1_x7 r2_x7 r3_x7 r4_x7 =>
    (g13 k r0_x7 r1_x7 r2_x7 r3_x7 r4_x7 r00_x3 r01_x3 r02_x3 r03_x3 r04_x3).bind fun v_x8 =>
    rec (.h0 (!v_x8) c2_0 c2_1 c2_2 c2_3 c2_4)
  else
    rec (.h0 false c2_0 c2_1 c2_2 c2_3 c2_4)
noncomputable def t7_h0 (k : Nat) (rec : S7 → Option R7) (t26 : Bool) (loc5_0 : Int) (loc5_1 : Int) (loc5_2 : Rs) (loc5_3 : Rs) (loc5_4 : Rs) : Option R7 :=
  bif t26 then
    some false
  else
    (g15 k loc5_0 loc5_1 loc5_2 loc5_3 loc5_4).bind fun v_x1 =>
    bif !v_x1 then
      rec (.h1 true loc5_0 loc5_1 loc5_2 loc5_3 loc5_4)
    else
      rec (.h1 (decide ((loc5_4.length : Int) > 200)) loc5_0 loc5_1 loc5_2 loc5_3 loc5_4)
noncomputable def t7_h1 (k : Nat) (rec : S7 → Option R7) (t35 : Bool) (loc5_0 : Int) (loc5_1 : Int) (loc5_2 : Rs) (loc5_3 : Rs) (loc5_4 : Rs) : Option R7 :=
  bif t35 then
    some true
  else
    (g20 k loc5_0 loc5_1 loc5_2 loc5_3 loc5_4).bind fun v_x1 =>
    tup5 v_x1 fun r0_x3 r1_x3 r2_x3 r3_x3 r4_x3 =>
    (g15 k r0_x3 r1_x3 r2_x3 r3_x3 r4_x3).bind fun v_x4 =>
    bif v_x4 then
      (g20 k r0_x3 r1_x3 r2_x3 r3_x3 r4_x3).bind fun v_x6 =>
      tup5 v_x6 fun r0_x8 r1_x8 r2_x8 r3_x8 r4_x8 =>
      (g13 k r0_x8 r1_x8 r2_x8 r3_x8 r4_x8 r0_x3 r1_x3 r2_x3 r3_x3 r4_x3).bind fun v_x9 =>
      bif v_x9 then
        (g17 k r0_x3 r1_x3 r2_x3 r3_x3 r4_x3).bind fun v_x11 =>
        (g17 k loc5_0 loc5_1 loc5_2 loc5_3 loc5_4).bind fun v_x13 =>
        bif decide (v_x11 ≤ v_x13) then
          some (decide (r0_x3 ≤ loc5_0))
        else
          some false
      else
        some false
    else
      some false
noncomputable def step7 (k : Nat) (rec : S7 → Option R7) : S7 → Option R7
  | .e l0 share1 c2_0 c2_1 c2_2 c2_3 c2_4 => t7_e k rec l0 share1 c2_0 c2_1 c2_2 c2_3 c2_4
  | .h0 t26 loc5_0 loc5_1 loc5_2 loc5_3 loc5_4 => t7_h0 k rec t26 loc5_0 loc5_1 loc5_2 loc5_3 loc5_4
  | .h1 t35 loc5_0 loc5_1 loc5_2 loc5_3 loc5_4 => t7_h1 k rec t35 loc5_0 loc5_1 loc5_2 loc5_3 loc5_4
noncomputable def g7 (k : Nat) (l0 : Rs) (share1 : Bool) (c2_0 : Int) (c2_1 : Int) (c2_2 : Rs) (c2_3 : Rs) (c2_4 : Rs) : Option R7 := itS step7 k (.e l0 share1 c2_0 c2_1 c2_2 c2_3 c2_4)
noncomputable def P7 : S7 → R7 → Prop
  | .e l0 share1 c2_0 c2_1 c2_2 c2_3 c2_4, r => Fin cx7 Try.f7 [.code body7] (fr0 Try.f7 [.c (.imm l0), .c (bc share1), .ag [ic c2_0, ic c2_1, .imm c2_2, .imm c2_3, .imm c2_4]] []) (res7 r) (bx7 r)
  | .h0 t26 loc5_0 loc5_1 loc5_2 loc5_3 loc5_4, r => Fin cx7 Try.f7 (kAt body7 [1, 1, 0, 1, 1, 2] []) ⟨rep 5 .deadv ++ [.c (.ptr ⟨⟨.loc 5, []⟩, 0, 0⟩)] ++ rep 20 .deadv ++ [.c (bc t26)] ++ rep 33 .deadv, [(.loc 5, [ic loc5_0, ic loc5_1, .imm loc5_2, .imm loc5_3, .imm loc5_4])]⟩ (res7 r) (bx7 r)
  | .h1 t35 loc5_0 loc5_1 loc5_2 loc5_3 loc5_4, r => Fin cx7 Try.f7 (kAt body7 [1, 1, 1, 0, 1, 2] []) ⟨rep 5 .deadv ++ [.c (.ptr ⟨⟨.loc 5, []⟩, 0, 0⟩)] ++ rep 29 .deadv ++ [.c (bc t35)] ++ rep 24 .deadv, [(.loc 5, [ic loc5_0, ic loc5_1, .imm loc5_2, .imm loc5_3, .imm loc5_4])]⟩ (res7 r) (bx7 r)
theorem evr7 {l0 : Rs} {share1 : Bool} {c2_0 : Int} {c2_1 : Int} {c2_2 : Rs} {c2_3 : Rs} {c2_4 : Rs} {r : R7} (h : P7 (.e l0 share1 c2_0 c2_1 c2_2 c2_3 c2_4) r) : Ev Try.prog noHand 7 [.c (.imm l0), .c (bc share1), .ag [ic c2_0, ic c2_1, .imm c2_2, .imm c2_3, .imm c2_4]] [] (res7 r) (bx7 r) := ev_of_fin (fn := Try.f7) (body := body7) (by kernel_rfl) (by kernel_rfl) (by kernel_rfl) rfl h
theorem t7_e_ok (k : Nat) (rec : S7 → Option R7) (ih : ∀ s r, rec s = some r → P7 s r) (l0 : Rs) (share1 : Bool) (c2_0 : Int) (c2_1 : Int) (c2_2 : Rs) (c2_3 : Rs) (c2_4 : Rs) (r : R7) (h : t7_e k rec l0 share1 c2_0 c2_1 c2_2 c2_3 c2_4 = some r) : P7 (.e l0 share1 c2_0 c2_1 c2_2 c2_3 c2_4) r := by
  unfold t7_e at h
  obtain ⟨v_x1, h_x2, h⟩ := bd_or h
  obtain ⟨r00_x3, r01_x3, r02_x3, r03_x3, r04_x3, r10_x3, hq, h1'⟩ := tup6_or h
  clear h; subst hq; have h := h1'; clear h1'
  rcases bif_or h with ⟨h_x4, h⟩ | ⟨h_x4, h⟩
  ·
    obtain ⟨v_x5, h_x6, h⟩ := bd_or h
    obtain ⟨r0_x7, r1_x7, r2_x7, r3_x7, r4_x7, hq, h1'⟩ := tup5_or h
    clear h; subst hq; have h := h1'; clear h1'
    obtain ⟨v_x8, h_x9, h⟩ := bd_or h
    exact mgo_at (nb := 0) hmix (ih _ _ h) (n := 12) (ad := [(some 10, .call (.ret (.c (bc true))) [] false), (some 15, .call (.ret ⟨.tup [true, false], [[ic r00_x3, ic r01_x3, .imm r02_x3, .imm r03_x3, .imm r04_x3], [ic r10_x3]]⟩) [] false), (some 19, .test true), (some 22, .call (.ret (.ag [ic r0_x7, ic r1_x7, .imm r2_x7, .imm r3_x7, .imm r4_x7])) [] false), (some 24, .call (.ret (.c (bc v_x8))) [] false)]) (ps := [_, _, _, _, _]) (m := bm 60 1152921504539738079) (ls := [7]) (cs := []) (by kernel_rfl) ⟨clA_89, (ev11 h_x2), h_x4, (ev20 h_x6), (ev13 h_x9), trivial⟩
  ·
    exact mgo_at (nb := 0) hmix (ih _ _ h) (n := 12) (ad := [(some 10, .call (.ret (.c (bc true))) [] false), (some 15, .call (.ret ⟨.tup [true, false], [[ic r00_x3, ic r01_x3, .imm r02_x3, .imm r03_x3, .imm r04_x3], [ic r10_x3]]⟩) [] false), (some 19, .test false)]) (ps := [_, _, _]) (m := bm 60 1152921504539738079) (ls := [7]) (cs := []) (by kernel_rfl) ⟨clA_89, (ev11 h_x2), h_x4, trivial⟩
theorem t7_h0_ok (k : Nat) (rec : S7 → Option R7) (ih : ∀ s r, rec s = some r → P7 s r) (t26 : Bool) (loc5_0 : Int) (loc5_1 : Int) (loc5_2 : Rs) (loc5_3 : Rs) (loc5_4 : Rs) (r : R7) (h : t7_h0 k rec t26 loc5_0 loc5_1 loc5_2 loc5_3 loc5_4 = some r) : P7 (.h0 t26 loc5_0 loc5_1 loc5_2 loc5_3 loc5_4) r := by
  unfold t7_h0 at h
  rcases bif_or h with ⟨hq, h1'⟩ | ⟨hq, h1'⟩
  · clear h; subst hq; have h := h1'; clear h1'
    rw [← Option.some.inj h]
    exact mgo_fin (nb := 0) hmix (n := 2000) (ad := []) (ps := []) (by kernel_rfl) trivial
  · clear h; subst hq; have h := h1'; clear h1'
    obtain ⟨v_x1, h_x2, h⟩ := bd_or h
    rcases bif_or h with ⟨h_x3, h⟩ | ⟨h_x3, h⟩
    ·
      exact mgo_at (nb := 0) hmix (ih _ _ h) (n := 5) (ad := [(some 28, .call (.ret (.c (bc v_x1))) [] false), (some 29, .test true)]) (ps := [_, _]) (m := bm 60 1152921470247108575) (ls := []) (cs := []) (by kernel_rfl) ⟨(ev15 h_x2), h_x3, trivial⟩
    ·
      exact mgo_at (nb := 0) hmix (ih _ _ h) (n := 5) (ad := [(some 28, .call (.ret (.c (bc v_x1))) [] false), (some 29, .test false)]) (ps := [_, _]) (m := bm 60 1152921470247108575) (ls := []) (cs := []) (by kernel_rfl) ⟨(ev15 h_x2), h_x3, trivial⟩
theorem t7_h1_ok (k : Nat) (rec : S7 → Option R7) (ih : ∀ s r, rec s = some r → P7 s r) (t35 : Bool) (loc5_0 : Int) (loc5_1 : Int) (loc5_2 : Rs) (loc5_3 : Rs) (loc5_4 : Rs) (r : R7) (h : t7_h1 k rec t35 loc5_0 loc5_1 loc5_2 loc5_3 loc5_4 = some r) : P7 (.h1 t35 loc5_0 loc5_1 loc5_2 loc5_3 loc5_4) r := by
  unfold t7_h1 at h
  rcases bif_or h with ⟨hq, h1'⟩ | ⟨hq, h1'⟩
  · clear h; subst hq; have h := h1'; clear h1'
    rw [← Option.some.inj h]
    exact mgo_fin (nb := 0) hmix (n := 2000) (ad := []) (ps := []) (by kernel_rfl) trivial
  · clear h; subst hq; have h := h1'; clear h1'
    obtain ⟨v_x1, h_x2, h⟩ := bd_or h
    obtain ⟨r0_x3, r1_x3, r2_x3, r3_x3, r4_x3, hq, h1'⟩ := tup5_or h
    clear h; subst hq; have h := h1'; clear h1'
    obtain ⟨v_x4, h_x5, h⟩ := bd_or h
    rcases bif_or h with ⟨hq, h1'⟩ | ⟨hq, h1'⟩
    · clear h; subst hq; have h := h1'; clear h1'
      obtain ⟨v_x6, h_x7, h⟩ := bd_or h
      obtain ⟨r0_x8, r1_x8, r2_x8, r3_x8, r4_x8, hq, h1'⟩ := tup5_or h
      clear h; subst hq; have h := h1'; clear h1'
      obtain ⟨v_x9, h_x10, h⟩ := bd_or h
      rcases bif_or h with ⟨hq, h1'⟩ | ⟨hq, h1'⟩
      · clear h; subst hq; have h := h1'; clear h1'
        obtain ⟨v_x11, h_x12, h⟩ := bd_or h
        obtain ⟨v_x13, h_x14, h⟩ := bd_or h
        rcases bif_or h with ⟨h_x15, h⟩ | ⟨h_x15, h⟩
        ·
          rw [← Option.some.inj h]
          exact mgo_fin (nb := 0) hmix (n := 2000) (ad := [(some 37, .call (.ret (.ag [ic r0_x3, ic r1_x3, .imm r2_x3, .imm r3_x3, .imm r4_x3])) [] false), (some 39, .call (.ret (.c (bc true))) [] false), (some 42, .call (.ret (.ag [ic r0_x8, ic r1_x8, .imm r2_x8, .imm r3_x8, .imm r4_x8])) [] false), (some 44, .call (.ret (.c (bc true))) [] false), (some 48, .call (.ret (.c (ic v_x11))) [] false), (some 50, .call (.ret (.c (ic v_x13))) [] false), (some 51, .test true)]) (ps := [_, _, _, _, _, _, _]) (by kernel_rfl) ⟨(ev20 h_x2), (ev15 h_x5), (ev20 h_x7), (ev13 h_x10), (ev17 h_x12), (ev17 h_x14), h_x15, trivial⟩
        ·
          rw [← Option.some.inj h]
          exact mgo_fin (nb := 0) hmix (n := 2000) (ad := [(some 37, .call (.ret (.ag [ic r0_x3, ic r1_x3, .imm r2_x3, .imm r3_x3, .imm r4_x3])) [] false), (some 39, .call (.ret (.c (bc true))) [] false), (some 42, .call (.ret (.ag [ic r0_x8, ic r1_x8, .imm r2_x8, .imm r3_x8, .imm r4_x8])) [] false), (some 44, .call (.ret (.c (bc true))) [] false), (some 48, .call (.ret (.c (ic v_x11))) [] false), (some 50, .call (.ret (.c (ic v_x13))) [] false), (some 51, .test false)]) (ps := [_, _, _, _, _, _, _]) (by kernel_rfl) ⟨(ev20 h_x2), (ev15 h_x5), (ev20 h_x7), (ev13 h_x10), (ev17 h_x12), (ev17 h_x14), h_x15, trivial⟩
      · clear h; subst hq; have h := h1'; clear h1'
        rw [← Option.some.inj h]
        exact mgo_fin (nb := 0) hmix (n := 2000) (ad := [(some 37, .call (.ret (.ag [ic r0_x3, ic r1_x3, .imm r2_x3, .imm r3_x3, .imm r4_x3])) [] false), (some 39, .call (.ret (.c (bc true))) [] false), (some 42, .call (.ret (.ag [ic r0_x8, ic r1_x8, .imm r2_x8, .imm r3_x8, .imm r4_x8])) [] false), (some 44, .call (.ret (.c (bc false))) [] false)]) (ps := [_, _, _, _]) (by kernel_rfl) ⟨(ev20 h_x2), (ev15 h_x5), (ev20 h_x7), (ev13 h_x10), trivial⟩
    · clear h; subst hq; have h := h1'; clear h1'
      rw [← Option.some.inj h]
      exact mgo_fin (nb := 0) hmix (n := 2000) (ad := [(some 37, .call (.ret (.ag [ic r0_x3, ic r1_x3, .imm r2_x3, .imm r3_x3, .imm r4_x3])) [] false), (some 39, .call (.ret (.c (bc false))) [] false)]) (ps := [_, _]) (by kernel_rfl) ⟨(ev20 h_x2), (ev15 h_x5), trivial⟩
theorem ok7 : ∀ k s r, itS step7 k s = some r → P7 s r := itS_ok fun k rec ih s r h => match s, h with
  | .e l0 share1 c2_0 c2_1 c2_2 c2_3 c2_4, h => t7_e_ok k rec ih l0 share1 c2_0 c2_1 c2_2 c2_3 c2_4 r h
  | .h0 t26 loc5_0 loc5_1 loc5_2 loc5_3 loc5_4, h => t7_h0_ok k rec ih t26 loc5_0 loc5_1 loc5_2 loc5_3 loc5_4 r h
  | .h1 t35 loc5_0 loc5_1 loc5_2 loc5_3 loc5_4, h => t7_h1_ok k rec ih t35 loc5_0 loc5_1 loc5_2 loc5_3 loc5_4 r h
theorem ev7 {k : Nat} {l0 : Rs} {share1 : Bool} {c2_0 : Int} {c2_1 : Int} {c2_2 : Rs} {c2_3 : Rs} {c2_4 : Rs} {r : R7} (h : g7 k l0 share1 c2_0 c2_1 c2_2 c2_3 c2_4 = some r) : Ev Try.prog noHand 7 [.c (.imm l0), .c (bc share1), .ag [ic c2_0, ic c2_1, .imm c2_2, .imm c2_3, .imm c2_4]] [] (res7 r) (bx7 r) := evr7 (ok7 _ _ _ h)
end Ab
end Go.Proofs.Ytebmcaceklbopaa
