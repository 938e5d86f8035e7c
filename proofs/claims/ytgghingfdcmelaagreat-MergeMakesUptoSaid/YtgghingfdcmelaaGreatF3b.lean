/-
  Functions' ways, printed by a program: what each computes, and that this is what the interpreter computes.
-/
import Derived.Test.YtgghingfdcmelaaGreatF3
import Derived.KernelRfl
set_option linter.unusedVariables false
set_option linter.unusedSimpArgs false
namespace Go.Proofs.YtgghingfdcmelaaGreat
namespace Ab
-- auspice/auspiceref14.SameBars
inductive S18 where
  | e (a0 : Rs) (b1 : Rs)
  | h0 (a0 : Rs) (b1 : Rs) (t12 : Int) (t13 : Int)
  | h1 (a0 : Rs) (b1 : Rs) (t12 : Int) (t13 : Int) (t40 : Bool)
abbrev R18 := Bool
def res18 : R18 → ARes
  | r => .ret (.c (bc r))
def bx18 : R18 → List (List Cell)
  | r => []
noncomputable def t18_e (k : Nat) (rec : S18 → Option R18) (a0 : Rs) (b1 : Rs) : Option R18 :=
  bif (a0.length : Int) != (b1.length : Int) then
    some false
  else
    rec (.h0 a0 b1 (a0.length : Int) 0)
noncomputable def t18_h0 (k : Nat) (rec : S18 → Option R18) (a0 : Rs) (b1 : Rs) (t12 : Int) (t13 : Int) : Option R18 :=
  bif decide (t13 < t12) then
    ixR a0 t13 fun w_x2 =>
    un_im w_x2 fun type_x4 guards_x4 =>
    ixR b1 t13 fun w_x5 =>
    un_im w_x5 fun type_x7 guards_x7 =>
    bif type_x4 != type_x7 then
      rec (.h1 a0 b1 t12 t13 true)
    else
      (g17 k guards_x4 guards_x7).bind fun v_x9 =>
      rec (.h1 a0 b1 t12 t13 (!v_x9))
  else
    some true
noncomputable def t18_h1 (k : Nat) (rec : S18 → Option R18) (a0 : Rs) (b1 : Rs) (t12 : Int) (t13 : Int) (t40 : Bool) : Option R18 :=
  bif t40 then
    some false
  else
    rec (.h0 a0 b1 t12 (IntKind.i64.wrap (t13 + 1)))
noncomputable def step18 (k : Nat) (rec : S18 → Option R18) : S18 → Option R18
  | .e a0 b1 => t18_e k rec a0 b1
  | .h0 a0 b1 t12 t13 => t18_h0 k rec a0 b1 t12 t13
  | .h1 a0 b1 t12 t13 t40 => t18_h1 k rec a0 b1 t12 t13 t40
noncomputable def g18 (k : Nat) (a0 : Rs) (b1 : Rs) : Option R18 := itS step18 k (.e a0 b1)
noncomputable def P18 : S18 → R18 → Prop
  | .e a0 b1, r => Fin cx18 Tryz.f18 [.code body18] (fr0 Tryz.f18 [.c (.imm a0), .c (.imm b1)] []) (res18 r) (bx18 r)
  | .h0 a0 b1 t12 t13, r => Fin cx18 Tryz.f18 (kAt body18 [1, 1, 0, 1, 0, 4] []) ⟨[.c (.imm a0), .c (.imm b1)] ++ rep 10 .deadv ++ [.c (ic t12), .c (ic t13)] ++ rep 28 .deadv, []⟩ (res18 r) (bx18 r)
  | .h1 a0 b1 t12 t13 t40, r => Fin cx18 Tryz.f18 (kAt body18 [1, 1, 0, 1, 0, 0, 1, 1, 0, 0, 1, 1, 2] []) ⟨[.c (.imm a0), .c (.imm b1)] ++ rep 10 .deadv ++ [.c (ic t12), .c (ic t13)] ++ rep 26 .deadv ++ [.c (bc t40), .deadv], []⟩ (res18 r) (bx18 r)
theorem evr18 {a0 : Rs} {b1 : Rs} {r : R18} (h : P18 (.e a0 b1) r) : Ev Tryz.prog noHand 18 [.c (.imm a0), .c (.imm b1)] [] (res18 r) (bx18 r) := ev_of_fin (fn := Tryz.f18) (body := body18) (by kernel_rfl) (by kernel_rfl) (by kernel_rfl) rfl h
theorem t18_e_ok (k : Nat) (rec : S18 → Option R18) (ih : ∀ s r, rec s = some r → P18 s r) (a0 : Rs) (b1 : Rs) (r : R18) (h : t18_e k rec a0 b1 = some r) : P18 (.e a0 b1) r := by
  unfold t18_e at h
  rcases bif_or h with ⟨h_x1, h⟩ | ⟨h_x1, h⟩
  ·
    rw [← Option.some.inj h]
    exact mgo_fin (nb := 0) hmix (n := 2000) (ad := [(some 10, .test true)]) (ps := [_]) (by kernel_rfl) ⟨h_x1, trivial⟩
  ·
    exact mgo_at (nb := 0) hmix (ih _ _ h) (n := 12) (ad := [(some 10, .test false)]) (ps := [_]) (m := bm 42 4398046498812) (ls := []) (cs := []) (by kernel_rfl) ⟨h_x1, trivial⟩
theorem t18_h0_ok (k : Nat) (rec : S18 → Option R18) (ih : ∀ s r, rec s = some r → P18 s r) (a0 : Rs) (b1 : Rs) (t12 : Int) (t13 : Int) (r : R18) (h : t18_h0 k rec a0 b1 t12 t13 = some r) : P18 (.h0 a0 b1 t12 t13) r := by
  unfold t18_h0 at h
  rcases bif_or h with ⟨h_x1, h⟩ | ⟨h_x1, h⟩
  ·
    obtain ⟨w_x2, h_x3, h⟩ := ixR_or h
    obtain ⟨type_x4, guards_x4, hq, h1'⟩ := un_im_or h
    clear h; subst hq; have h := h1'; clear h1'
    obtain ⟨w_x5, h_x6, h⟩ := ixR_or h
    obtain ⟨type_x7, guards_x7, hq, h1'⟩ := un_im_or h
    clear h; subst hq; have h := h1'; clear h1'
    rcases bif_or h with ⟨h_x8, h⟩ | ⟨h_x8, h⟩
    ·
      exact mgo_at (nb := 0) hmix (ih _ _ h) (n := 12) (ad := [(some 14, .test true), (some 18, .row [ic type_x4, .imm guards_x4]), (some 23, .row [ic type_x7, .imm guards_x7]), (some 26, .test true)]) (ps := [_, _, _, _]) (m := bm 42 3298534871036) (ls := []) (cs := []) (by kernel_rfl) ⟨h_x1, ix_row h_x3 rfl, ix_row h_x6 rfl, h_x8, trivial⟩
    ·
      obtain ⟨v_x9, h_x10, h⟩ := bd_or h
      exact mgo_at (nb := 0) hmix (ih _ _ h) (n := 12) (ad := [(some 14, .test true), (some 18, .row [ic type_x4, .imm guards_x4]), (some 23, .row [ic type_x7, .imm guards_x7]), (some 26, .test false), (some 30, .row [ic type_x4, .imm guards_x4]), (some 35, .row [ic type_x7, .imm guards_x7]), (some 38, .call (.ret (.c (bc v_x9))) [] false)]) (ps := [_, _, _, _, _, _, _]) (m := bm 42 3298534871036) (ls := []) (cs := []) (by kernel_rfl) ⟨h_x1, ix_row h_x3 rfl, ix_row h_x6 rfl, h_x8, ix_row h_x3 rfl, ix_row h_x6 rfl, (ev17 h_x10), trivial⟩
  ·
    rw [← Option.some.inj h]
    exact mgo_fin (nb := 0) hmix (n := 2000) (ad := [(some 14, .test false)]) (ps := [_]) (by kernel_rfl) ⟨h_x1, trivial⟩
theorem t18_h1_ok (k : Nat) (rec : S18 → Option R18) (ih : ∀ s r, rec s = some r → P18 s r) (a0 : Rs) (b1 : Rs) (t12 : Int) (t13 : Int) (t40 : Bool) (r : R18) (h : t18_h1 k rec a0 b1 t12 t13 t40 = some r) : P18 (.h1 a0 b1 t12 t13 t40) r := by
  unfold t18_h1 at h
  rcases bif_or h with ⟨hq, h1'⟩ | ⟨hq, h1'⟩
  · clear h; subst hq; have h := h1'; clear h1'
    rw [← Option.some.inj h]
    exact mgo_fin (nb := 0) hmix (n := 2000) (ad := []) (ps := []) (by kernel_rfl) trivial
  · clear h; subst hq; have h := h1'; clear h1'
    exact mgo_at (nb := 0) hmix (ih _ _ h) (n := 4) (ad := []) (ps := []) (m := bm 42 4398046498812) (ls := []) (cs := []) (by kernel_rfl) trivial
theorem ok18 : ∀ k s r, itS step18 k s = some r → P18 s r := itS_ok fun k rec ih s r h => match s, h with
  | .e a0 b1, h => t18_e_ok k rec ih a0 b1 r h
  | .h0 a0 b1 t12 t13, h => t18_h0_ok k rec ih a0 b1 t12 t13 r h
  | .h1 a0 b1 t12 t13 t40, h => t18_h1_ok k rec ih a0 b1 t12 t13 t40 r h
theorem ev18 {k : Nat} {a0 : Rs} {b1 : Rs} {r : R18} (h : g18 k a0 b1 = some r) : Ev Tryz.prog noHand 18 [.c (.imm a0), .c (.imm b1)] [] (res18 r) (bx18 r) := evr18 (ok18 _ _ _ h)
-- auspice/auspiceref14.Alike
inductive S16 where
  | e (x0_0 : Int) (x0_1 : Int) (x0_2 : Bool) (x0_3 : Int) (x0_4 : Rs) (x0_5 : Rs) (x0_6 : Rs) (x0_7 : Rs) (y1_0 : Int) (y1_1 : Int) (y1_2 : Bool) (y1_3 : Int) (y1_4 : Rs) (y1_5 : Rs) (y1_6 : Rs) (y1_7 : Rs)
abbrev R16 := Bool
def res16 : R16 → ARes
  | r => .ret (.c (bc r))
def bx16 : R16 → List (List Cell)
  | r => []
noncomputable def t16_e (k : Nat) (rec : S16 → Option R16) (x0_0 : Int) (x0_1 : Int) (x0_2 : Bool) (x0_3 : Int) (x0_4 : Rs) (x0_5 : Rs) (x0_6 : Rs) (x0_7 : Rs) (y1_0 : Int) (y1_1 : Int) (y1_2 : Bool) (y1_3 : Int) (y1_4 : Rs) (y1_5 : Rs) (y1_6 : Rs) (y1_7 : Rs) : Option R16 :=
  bif x0_0 == y1_0 then
    bif x0_1 == y1_1 then
      bif x0_2 == y1_2 then
        bif x0_3 == y1_3 then
          (g18 k x0_4 y1_4).bind fun v_x5 =>
          bif v_x5 then
            (g17 k x0_5 y1_5).bind fun v_x7 =>
            bif v_x7 then
              (g17 k x0_6 y1_6).bind fun v_x9 =>
              some v_x9
            else
              some false
          else
            some false
        else
          some false
      else
        some false
    else
      some false
  else
    some false
noncomputable def step16 (k : Nat) (rec : S16 → Option R16) : S16 → Option R16
  | .e x0_0 x0_1 x0_2 x0_3 x0_4 x0_5 x0_6 x0_7 y1_0 y1_1 y1_2 y1_3 y1_4 y1_5 y1_6 y1_7 => t16_e k rec x0_0 x0_1 x0_2 x0_3 x0_4 x0_5 x0_6 x0_7 y1_0 y1_1 y1_2 y1_3 y1_4 y1_5 y1_6 y1_7
noncomputable def g16 (k : Nat) (x0_0 : Int) (x0_1 : Int) (x0_2 : Bool) (x0_3 : Int) (x0_4 : Rs) (x0_5 : Rs) (x0_6 : Rs) (x0_7 : Rs) (y1_0 : Int) (y1_1 : Int) (y1_2 : Bool) (y1_3 : Int) (y1_4 : Rs) (y1_5 : Rs) (y1_6 : Rs) (y1_7 : Rs) : Option R16 := itS step16 k (.e x0_0 x0_1 x0_2 x0_3 x0_4 x0_5 x0_6 x0_7 y1_0 y1_1 y1_2 y1_3 y1_4 y1_5 y1_6 y1_7)
noncomputable def P16 : S16 → R16 → Prop
  | .e x0_0 x0_1 x0_2 x0_3 x0_4 x0_5 x0_6 x0_7 y1_0 y1_1 y1_2 y1_3 y1_4 y1_5 y1_6 y1_7, r => Fin cx16 Tryz.f16 [.code body16] (fr0 Tryz.f16 [.ag [ic x0_0, ic x0_1, bc x0_2, ic x0_3, .imm x0_4, .imm x0_5, .imm x0_6, .imm x0_7], .ag [ic y1_0, ic y1_1, bc y1_2, ic y1_3, .imm y1_4, .imm y1_5, .imm y1_6, .imm y1_7]] []) (res16 r) (bx16 r)
theorem evr16 {x0_0 : Int} {x0_1 : Int} {x0_2 : Bool} {x0_3 : Int} {x0_4 : Rs} {x0_5 : Rs} {x0_6 : Rs} {x0_7 : Rs} {y1_0 : Int} {y1_1 : Int} {y1_2 : Bool} {y1_3 : Int} {y1_4 : Rs} {y1_5 : Rs} {y1_6 : Rs} {y1_7 : Rs} {r : R16} (h : P16 (.e x0_0 x0_1 x0_2 x0_3 x0_4 x0_5 x0_6 x0_7 y1_0 y1_1 y1_2 y1_3 y1_4 y1_5 y1_6 y1_7) r) : Ev Tryz.prog noHand 16 [.ag [ic x0_0, ic x0_1, bc x0_2, ic x0_3, .imm x0_4, .imm x0_5, .imm x0_6, .imm x0_7], .ag [ic y1_0, ic y1_1, bc y1_2, ic y1_3, .imm y1_4, .imm y1_5, .imm y1_6, .imm y1_7]] [] (res16 r) (bx16 r) := ev_of_fin (fn := Tryz.f16) (body := body16) (by kernel_rfl) (by kernel_rfl) (by kernel_rfl) rfl h
theorem t16_e_ok (k : Nat) (rec : S16 → Option R16) (ih : ∀ s r, rec s = some r → P16 s r) (x0_0 : Int) (x0_1 : Int) (x0_2 : Bool) (x0_3 : Int) (x0_4 : Rs) (x0_5 : Rs) (x0_6 : Rs) (x0_7 : Rs) (y1_0 : Int) (y1_1 : Int) (y1_2 : Bool) (y1_3 : Int) (y1_4 : Rs) (y1_5 : Rs) (y1_6 : Rs) (y1_7 : Rs) (r : R16) (h : t16_e k rec x0_0 x0_1 x0_2 x0_3 x0_4 x0_5 x0_6 x0_7 y1_0 y1_1 y1_2 y1_3 y1_4 y1_5 y1_6 y1_7 = some r) : P16 (.e x0_0 x0_1 x0_2 x0_3 x0_4 x0_5 x0_6 x0_7 y1_0 y1_1 y1_2 y1_3 y1_4 y1_5 y1_6 y1_7) r := by
  unfold t16_e at h
  rcases bif_or h with ⟨h_x1, h⟩ | ⟨h_x1, h⟩
  ·
    rcases bif_or h with ⟨h_x2, h⟩ | ⟨h_x2, h⟩
    ·
      rcases bif_or h with ⟨h_x3, h⟩ | ⟨h_x3, h⟩
      ·
        rcases bif_or h with ⟨h_x4, h⟩ | ⟨h_x4, h⟩
        ·
          obtain ⟨v_x5, h_x6, h⟩ := bd_or h
          rcases bif_or h with ⟨hq, h1'⟩ | ⟨hq, h1'⟩
          · clear h; subst hq; have h := h1'; clear h1'
            obtain ⟨v_x7, h_x8, h⟩ := bd_or h
            rcases bif_or h with ⟨hq, h1'⟩ | ⟨hq, h1'⟩
            · clear h; subst hq; have h := h1'; clear h1'
              obtain ⟨v_x9, h_x10, h⟩ := bd_or h
              rw [← Option.some.inj h]
              exact mgo_fin (nb := 0) hmix (n := 2000) (ad := [(some 9, .test true), (some 15, .test true), (some 22, .test true), (some 29, .test true), (some 36, .call (.ret (.c (bc true))) [] false), (some 43, .call (.ret (.c (bc true))) [] false), (some 50, .call (.ret (.c (bc v_x9))) [] false)]) (ps := [_, _, _, _, _, _, _]) (by kernel_rfl) ⟨h_x1, h_x2, h_x3, h_x4, (ev18 h_x6), (ev17 h_x8), (ev17 h_x10), trivial⟩
            · clear h; subst hq; have h := h1'; clear h1'
              rw [← Option.some.inj h]
              exact mgo_fin (nb := 0) hmix (n := 2000) (ad := [(some 9, .test true), (some 15, .test true), (some 22, .test true), (some 29, .test true), (some 36, .call (.ret (.c (bc true))) [] false), (some 43, .call (.ret (.c (bc false))) [] false)]) (ps := [_, _, _, _, _, _]) (by kernel_rfl) ⟨h_x1, h_x2, h_x3, h_x4, (ev18 h_x6), (ev17 h_x8), trivial⟩
          · clear h; subst hq; have h := h1'; clear h1'
            rw [← Option.some.inj h]
            exact mgo_fin (nb := 0) hmix (n := 2000) (ad := [(some 9, .test true), (some 15, .test true), (some 22, .test true), (some 29, .test true), (some 36, .call (.ret (.c (bc false))) [] false)]) (ps := [_, _, _, _, _]) (by kernel_rfl) ⟨h_x1, h_x2, h_x3, h_x4, (ev18 h_x6), trivial⟩
        ·
          rw [← Option.some.inj h]
          exact mgo_fin (nb := 0) hmix (n := 2000) (ad := [(some 9, .test true), (some 15, .test true), (some 22, .test true), (some 29, .test false)]) (ps := [_, _, _, _]) (by kernel_rfl) ⟨h_x1, h_x2, h_x3, h_x4, trivial⟩
      ·
        rw [← Option.some.inj h]
        exact mgo_fin (nb := 0) hmix (n := 2000) (ad := [(some 9, .test true), (some 15, .test true), (some 22, .test false)]) (ps := [_, _, _]) (by kernel_rfl) ⟨h_x1, h_x2, h_x3, trivial⟩
    ·
      rw [← Option.some.inj h]
      exact mgo_fin (nb := 0) hmix (n := 2000) (ad := [(some 9, .test true), (some 15, .test false)]) (ps := [_, _]) (by kernel_rfl) ⟨h_x1, h_x2, trivial⟩
  ·
    rw [← Option.some.inj h]
    exact mgo_fin (nb := 0) hmix (n := 2000) (ad := [(some 9, .test false)]) (ps := [_]) (by kernel_rfl) ⟨h_x1, trivial⟩
theorem ok16 : ∀ k s r, itS step16 k s = some r → P16 s r := itS_ok fun k rec ih s r h => match s, h with
  | .e x0_0 x0_1 x0_2 x0_3 x0_4 x0_5 x0_6 x0_7 y1_0 y1_1 y1_2 y1_3 y1_4 y1_5 y1_6 y1_7, h => t16_e_ok k rec ih x0_0 x0_1 x0_2 x0_3 x0_4 x0_5 x0_6 x0_7 y1_0 y1_1 y1_2 y1_3 y1_4 y1_5 y1_6 y1_7 r h
theorem ev16 {k : Nat} {x0_0 : Int} {x0_1 : Int} {x0_2 : Bool} {x0_3 : Int} {x0_4 : Rs} {x0_5 : Rs} {x0_6 : Rs} {x0_7 : Rs} {y1_0 : Int} {y1_1 : Int} {y1_2 : Bool} {y1_3 : Int} {y1_4 : Rs} {y1_5 : Rs} {y1_6 : Rs} {y1_7 : Rs} {r : R16} (h : g16 k x0_0 x0_1 x0_2 x0_3 x0_4 x0_5 x0_6 x0_7 y1_0 y1_1 y1_2 y1_3 y1_4 y1_5 y1_6 y1_7 = some r) : Ev Tryz.prog noHand 16 [.ag [ic x0_0, ic x0_1, bc x0_2, ic x0_3, .imm x0_4, .imm x0_5, .imm x0_6, .imm x0_7], .ag [ic y1_0, ic y1_1, bc y1_2, ic y1_3, .imm y1_4, .imm y1_5, .imm y1_6, .imm y1_7]] [] (res16 r) (bx16 r) := evr16 (ok16 _ _ _ h)
-- auspice/auspiceref16.Merge
inductive S9 where
  | e (a0_0 : Int) (a0_1 : Rs) (a0_2 : Rs)
  | h0 (became5 : Rs) (t19 : Int) (t20 : Int) (loc4_0 : Int) (loc4_1 : Rs) (loc4_2 : Rs) (loc3_0 : Int) (loc3_1 : Rs) (loc3_2 : Rs) (loc2_0 : Int)
  | h1 (became5 : Rs) (t19 : Int) (t20 : Int) (t26 : Bool) (loc7_0 : Int) (loc7_1 : Int) (loc7_2 : Bool) (loc7_3 : Int) (loc7_4 : Rs) (loc7_5 : Rs) (loc7_6 : Rs) (loc7_7 : Rs) (loc4_0 : Int) (loc4_1 : Rs) (loc4_2 : Rs) (loc3_0 : Int) (loc3_1 : Rs) (loc3_2 : Rs) (loc2_0 : Int)
  | h2 (became5 : Rs) (t19 : Int) (t20 : Int) (loc7_0 : Int) (loc7_1 : Int) (loc7_2 : Bool) (loc7_3 : Int) (loc7_4 : Rs) (loc7_5 : Rs) (loc7_6 : Rs) (loc7_7 : Rs) (loc4_0 : Int) (loc4_1 : Rs) (loc4_2 : Rs) (loc3_0 : Int) (loc3_1 : Rs) (loc3_2 : Rs) (loc2_0 : Int)
  | h3 (became5 : Rs) (at8 : Int) (t19 : Int) (t20 : Int) (t35 : Int) (t36 : Int) (loc7_0 : Int) (loc7_1 : Int) (loc7_2 : Bool) (loc7_3 : Int) (loc7_4 : Rs) (loc7_5 : Rs) (loc7_6 : Rs) (loc7_7 : Rs) (loc4_0 : Int) (loc4_1 : Rs) (loc4_2 : Rs) (loc3_0 : Int) (loc3_1 : Rs) (loc3_2 : Rs) (loc2_0 : Int)
  | h4 (became5 : Rs) (at8 : Int) (k9 : Int) (t19 : Int) (t20 : Int) (t35 : Int) (t36 : Int) (t45 : Bool) (loc7_0 : Int) (loc7_1 : Int) (loc7_2 : Bool) (loc7_3 : Int) (loc7_4 : Rs) (loc7_5 : Rs) (loc7_6 : Rs) (loc7_7 : Rs) (loc4_0 : Int) (loc4_1 : Rs) (loc4_2 : Rs) (loc3_0 : Int) (loc3_1 : Rs) (loc3_2 : Rs) (loc2_0 : Int)
  | h5 (became5 : Rs) (at8 : Int) (t19 : Int) (t20 : Int) (loc4_0 : Int) (loc4_1 : Rs) (loc4_2 : Rs) (loc3_0 : Int) (loc3_1 : Rs) (loc3_2 : Rs) (loc2_0 : Int)
  | h6 (became5 : Rs) (at8 : Int) (t19 : Int) (t20 : Int) (t35 : Int) (t36 : Int) (loc7_0 : Int) (loc7_1 : Int) (loc7_2 : Bool) (loc7_3 : Int) (loc7_4 : Rs) (loc7_5 : Rs) (loc7_6 : Rs) (loc7_7 : Rs) (loc4_0 : Int) (loc4_1 : Rs) (loc4_2 : Rs) (loc3_0 : Int) (loc3_1 : Rs) (loc3_2 : Rs) (loc2_0 : Int)
abbrev R9 := Int × Rs × Rs
def res9 : R9 → ARes
  | (r_0, r_1, r_2) => .ret (.ag [ic r_0, .imm r_1, .imm r_2])
def bx9 : R9 → List (List Cell)
  | (r_0, r_1, r_2) => []
noncomputable def t9_e (k : Nat) (rec : S9 → Option R9) (a0_0 : Int) (a0_1 : Rs) (a0_2 : Rs) : Option R9 :=
  (g6 k a0_0 a0_1 a0_2).bind fun v_x1 =>
  tup3 v_x1 fun r0_x3 r1_x3 r2_x3 =>
  rec (.h0 [] (r2_x3.length : Int) 0 r0_x3 (immRs r1_x3) [] r0_x3 (immRs r1_x3) r2_x3 0)
noncomputable def t9_h0 (k : Nat) (rec : S9 → Option R9) (became5 : Rs) (t19 : Int) (t20 : Int) (loc4_0 : Int) (loc4_1 : Rs) (loc4_2 : Rs) (loc3_0 : Int) (loc3_1 : Rs) (loc3_2 : Rs) (loc2_0 : Int) : Option R9 :=
  bif decide (t20 < t19) then
    ixR loc3_2 t20 fun w_x2 =>
    ua_iibio2o7o7n_iibio2o7o7o3 w_x2 (fun parent_x4 type_x4 many_x4 window_x4 bars_x4 leaves_x4 guards_x4 =>
      rec (.h1 became5 t19 t20 (decide (parent_x4 ≥ 0)) parent_x4 type_x4 many_x4 window_x4 bars_x4 leaves_x4 guards_x4 [] loc4_0 loc4_1 loc4_2 loc3_0 loc3_1 (setRow (setRow (setRow loc3_2 t20.toNat 4 .dead) t20.toNat 5 .dead) t20.toNat 6 .dead) loc2_0)) (fun parent_x4 type_x4 many_x4 window_x4 bars_x4 leaves_x4 guards_x4 ends_x4 =>
      rec (.h1 became5 t19 t20 (decide (parent_x4 ≥ 0)) parent_x4 type_x4 many_x4 window_x4 bars_x4 leaves_x4 guards_x4 ends_x4 loc4_0 loc4_1 loc4_2 loc3_0 loc3_1 (setRow (setRow (setRow (setRow loc3_2 t20.toNat 4 .dead) t20.toNat 5 .dead) t20.toNat 6 .dead) t20.toNat 7 .dead) loc2_0))
  else
    some (loc4_0, loc4_1, immRs loc4_2)
noncomputable def t9_h1 (k : Nat) (rec : S9 → Option R9) (became5 : Rs) (t19 : Int) (t20 : Int) (t26 : Bool) (loc7_0 : Int) (loc7_1 : Int) (loc7_2 : Bool) (loc7_3 : Int) (loc7_4 : Rs) (loc7_5 : Rs) (loc7_6 : Rs) (loc7_7 : Rs) (loc4_0 : Int) (loc4_1 : Rs) (loc4_2 : Rs) (loc3_0 : Int) (loc3_1 : Rs) (loc3_2 : Rs) (loc2_0 : Int) : Option R9 :=
  bif t26 then
    ixR became5 loc7_0 fun w_x1 =>
    un_i w_x1 fun x_x3 =>
    rec (.h2 became5 t19 t20 x_x3 loc7_1 loc7_2 loc7_3 loc7_4 loc7_5 loc7_6 loc7_7 loc4_0 loc4_1 loc4_2 loc3_0 loc3_1 loc3_2 loc2_0)
  else
    rec (.h2 became5 t19 t20 loc7_0 loc7_1 loc7_2 loc7_3 loc7_4 loc7_5 loc7_6 loc7_7 loc4_0 loc4_1 loc4_2 loc3_0 loc3_1 loc3_2 loc2_0)
noncomputable def t9_h2 (k : Nat) (rec : S9 → Option R9) (became5 : Rs) (t19 : Int) (t20 : Int) (loc7_0 : Int) (loc7_1 : Int) (loc7_2 : Bool) (loc7_3 : Int) (loc7_4 : Rs) (loc7_5 : Rs) (loc7_6 : Rs) (loc7_7 : Rs) (loc4_0 : Int) (loc4_1 : Rs) (loc4_2 : Rs) (loc3_0 : Int) (loc3_1 : Rs) (loc3_2 : Rs) (loc2_0 : Int) : Option R9 :=
  rec (.h3 became5 (-1) t19 t20 (loc4_2.length : Int) 0 loc7_0 loc7_1 loc7_2 loc7_3 loc7_4 loc7_5 loc7_6 loc7_7 loc4_0 loc4_1 loc4_2 loc3_0 loc3_1 loc3_2 loc2_0)
noncomputable def t9_h3 (k : Nat) (rec : S9 → Option R9) (became5 : Rs) (at8 : Int) (t19 : Int) (t20 : Int) (t35 : Int) (t36 : Int) (loc7_0 : Int) (loc7_1 : Int) (loc7_2 : Bool) (loc7_3 : Int) (loc7_4 : Rs) (loc7_5 : Rs) (loc7_6 : Rs) (loc7_7 : Rs) (loc4_0 : Int) (loc4_1 : Rs) (loc4_2 : Rs) (loc3_0 : Int) (loc3_1 : Rs) (loc3_2 : Rs) (loc2_0 : Int) : Option R9 :=
  bif decide (t36 < t35) then
    ixR loc4_2 t36 fun w_x2 =>
    ua_iibio2o7o7n_iibio2o7o7o3 w_x2 (fun parent_x4 type_x4 many_x4 window_x4 bars_x4 leaves_x4 guards_x4 =>
      (g16 k parent_x4 type_x4 many_x4 window_x4 (immRs bars_x4) (immRs leaves_x4) (immRs guards_x4) [] loc7_0 loc7_1 loc7_2 loc7_3 (immRs loc7_4) (immRs loc7_5) (immRs loc7_6) (immRs loc7_7)).bind fun v_x5 =>
      rec (.h4 became5 at8 t36 t19 t20 t35 t36 v_x5 loc7_0 loc7_1 loc7_2 loc7_3 loc7_4 loc7_5 loc7_6 loc7_7 loc4_0 loc4_1 loc4_2 loc3_0 loc3_1 loc3_2 loc2_0)) (fun parent_x4 type_x4 many_x4 window_x4 bars_x4 leaves_x4 guards_x4 ends_x4 =>
      (g16 k parent_x4 type_x4 many_x4 window_x4 (immRs bars_x4) (immRs leaves_x4) (immRs guards_x4) (immRs ends_x4) loc7_0 loc7_1 loc7_2 loc7_3 (immRs loc7_4) (immRs loc7_5) (immRs loc7_6) (immRs loc7_7)).bind fun v_x5 =>
      rec (.h4 became5 at8 t36 t19 t20 t35 t36 v_x5 loc7_0 loc7_1 loc7_2 loc7_3 loc7_4 loc7_5 loc7_6 loc7_7 loc4_0 loc4_1 loc4_2 loc3_0 loc3_1 loc3_2 loc2_0))
  else
    bif decide (at8 < 0) then
      gd (apOk 128 8 loc4_2 [[ic loc7_0, ic loc7_1, bc loc7_2, ic loc7_3, .own 2 loc7_4, .own 7 loc7_5, .own 7 loc7_6, .own 3 loc7_7]]) <|
      rec (.h5 became5 (loc4_2.length : Int) t19 t20 loc4_0 loc4_1 (loc4_2 ++ [[ic loc7_0, ic loc7_1, bc loc7_2, ic loc7_3, .own 2 loc7_4, .own 7 loc7_5, .own 7 loc7_6, .own 3 loc7_7]]) loc3_0 loc3_1 loc3_2 loc2_0)
    else
      ixR loc4_2 at8 fun w_x3 =>
      ua_iibio2o7o7n_iibio2o7o7o3 w_x3 (fun parent_x5 type_x5 many_x5 window_x5 bars_x5 leaves_x5 guards_x5 =>
        bif (immRs loc7_7).isEmpty then
          gd (apOk 56 3 [] (immRs loc7_7)) <|
          rec (.h5 became5 at8 t19 t20 loc4_0 loc4_1 (setRow loc4_2 at8.toNat 7 .nil) loc3_0 loc3_1 loc3_2 loc2_0)
        else
          gd (apOk 56 3 [] (immRs loc7_7)) <|
          rec (.h5 became5 at8 t19 t20 loc4_0 loc4_1 (setRow loc4_2 at8.toNat 7 (.own 3 (([] : Rs) ++ (immRs loc7_7)))) loc3_0 loc3_1 loc3_2 loc2_0)) (fun parent_x5 type_x5 many_x5 window_x5 bars_x5 leaves_x5 guards_x5 ends_x5 =>
        gd (apOk 56 3 ends_x5 (immRs loc7_7)) <|
        rec (.h5 became5 at8 t19 t20 loc4_0 loc4_1 (setRow (setRow loc4_2 at8.toNat 7 .dead) at8.toNat 7 (.own 3 (ends_x5 ++ (immRs loc7_7)))) loc3_0 loc3_1 loc3_2 loc2_0))
noncomputable def t9_h4 (k : Nat) (rec : S9 → Option R9) (became5 : Rs) (at8 : Int) (k9 : Int) (t19 : Int) (t20 : Int) (t35 : Int) (t36 : Int) (t45 : Bool) (loc7_0 : Int) (loc7_1 : Int) (loc7_2 : Bool) (loc7_3 : Int) (loc7_4 : Rs) (loc7_5 : Rs) (loc7_6 : Rs) (loc7_7 : Rs) (loc4_0 : Int) (loc4_1 : Rs) (loc4_2 : Rs) (loc3_0 : Int) (loc3_1 : Rs) (loc3_2 : Rs) (loc2_0 : Int) : Option R9 :=
  bif t45 then
    rec (.h6 became5 k9 t19 t20 t35 t36 loc7_0 loc7_1 loc7_2 loc7_3 loc7_4 loc7_5 loc7_6 loc7_7 loc4_0 loc4_1 loc4_2 loc3_0 loc3_1 loc3_2 loc2_0)
  else
    rec (.h6 became5 at8 t19 t20 t35 t36 loc7_0 loc7_1 loc7_2 loc7_3 loc7_4 loc7_5 loc7_6 loc7_7 loc4_0 loc4_1 loc4_2 loc3_0 loc3_1 loc3_2 loc2_0)
noncomputable def t9_h5 (k : Nat) (rec : S9 → Option R9) (became5 : Rs) (at8 : Int) (t19 : Int) (t20 : Int) (loc4_0 : Int) (loc4_1 : Rs) (loc4_2 : Rs) (loc3_0 : Int) (loc3_1 : Rs) (loc3_2 : Rs) (loc2_0 : Int) : Option R9 :=
  gd (apOk 8 1 became5 [[ic at8]]) <|
  rec (.h0 (became5 ++ [[ic at8]]) t19 (IntKind.i64.wrap (t20 + 1)) loc4_0 loc4_1 loc4_2 loc3_0 loc3_1 loc3_2 loc2_0)
noncomputable def t9_h6 (k : Nat) (rec : S9 → Option R9) (became5 : Rs) (at8 : Int) (t19 : Int) (t20 : Int) (t35 : Int) (t36 : Int) (loc7_0 : Int) (loc7_1 : Int) (loc7_2 : Bool) (loc7_3 : Int) (loc7_4 : Rs) (loc7_5 : Rs) (loc7_6 : Rs) (loc7_7 : Rs) (loc4_0 : Int) (loc4_1 : Rs) (loc4_2 : Rs) (loc3_0 : Int) (loc3_1 : Rs) (loc3_2 : Rs) (loc2_0 : Int) : Option R9 :=
  rec (.h3 became5 at8 t19 t20 t35 (IntKind.i64.wrap (t36 + 1)) loc7_0 loc7_1 loc7_2 loc7_3 loc7_4 loc7_5 loc7_6 loc7_7 loc4_0 loc4_1 loc4_2 loc3_0 loc3_1 loc3_2 loc2_0)
noncomputable def step9 (k : Nat) (rec : S9 → Option R9) : S9 → Option R9
  | .e a0_0 a0_1 a0_2 => t9_e k rec a0_0 a0_1 a0_2
  | .h0 became5 t19 t20 loc4_0 loc4_1 loc4_2 loc3_0 loc3_1 loc3_2 loc2_0 => t9_h0 k rec became5 t19 t20 loc4_0 loc4_1 loc4_2 loc3_0 loc3_1 loc3_2 loc2_0
  | .h1 became5 t19 t20 t26 loc7_0 loc7_1 loc7_2 loc7_3 loc7_4 loc7_5 loc7_6 loc7_7 loc4_0 loc4_1 loc4_2 loc3_0 loc3_1 loc3_2 loc2_0 => t9_h1 k rec became5 t19 t20 t26 loc7_0 loc7_1 loc7_2 loc7_3 loc7_4 loc7_5 loc7_6 loc7_7 loc4_0 loc4_1 loc4_2 loc3_0 loc3_1 loc3_2 loc2_0
  | .h2 became5 t19 t20 loc7_0 loc7_1 loc7_2 loc7_3 loc7_4 loc7_5 loc7_6 loc7_7 loc4_0 loc4_1 loc4_2 loc3_0 loc3_1 loc3_2 loc2_0 => t9_h2 k rec became5 t19 t20 loc7_0 loc7_1 loc7_2 loc7_3 loc7_4 loc7_5 loc7_6 loc7_7 loc4_0 loc4_1 loc4_2 loc3_0 loc3_1 loc3_2 loc2_0
  | .h3 became5 at8 t19 t20 t35 t36 loc7_0 loc7_1 loc7_2 loc7_3 loc7_4 loc7_5 loc7_6 loc7_7 loc4_0 loc4_1 loc4_2 loc3_0 loc3_1 loc3_2 loc2_0 => t9_h3 k rec became5 at8 t19 t20 t35 t36 loc7_0 loc7_1 loc7_2 loc7_3 loc7_4 loc7_5 loc7_6 loc7_7 loc4_0 loc4_1 loc4_2 loc3_0 loc3_1 loc3_2 loc2_0
  | .h4 became5 at8 k9 t19 t20 t35 t36 t45 loc7_0 loc7_1 loc7_2 loc7_3 loc7_4 loc7_5 loc7_6 loc7_7 loc4_0 loc4_1 loc4_2 loc3_0 loc3_1 loc3_2 loc2_0 => t9_h4 k rec became5 at8 k9 t19 t20 t35 t36 t45 loc7_0 loc7_1 loc7_2 loc7_3 loc7_4 loc7_5 loc7_6 loc7_7 loc4_0 loc4_1 loc4_2 loc3_0 loc3_1 loc3_2 loc2_0
  | .h5 became5 at8 t19 t20 loc4_0 loc4_1 loc4_2 loc3_0 loc3_1 loc3_2 loc2_0 => t9_h5 k rec became5 at8 t19 t20 loc4_0 loc4_1 loc4_2 loc3_0 loc3_1 loc3_2 loc2_0
  | .h6 became5 at8 t19 t20 t35 t36 loc7_0 loc7_1 loc7_2 loc7_3 loc7_4 loc7_5 loc7_6 loc7_7 loc4_0 loc4_1 loc4_2 loc3_0 loc3_1 loc3_2 loc2_0 => t9_h6 k rec became5 at8 t19 t20 t35 t36 loc7_0 loc7_1 loc7_2 loc7_3 loc7_4 loc7_5 loc7_6 loc7_7 loc4_0 loc4_1 loc4_2 loc3_0 loc3_1 loc3_2 loc2_0
noncomputable def g9 (k : Nat) (a0_0 : Int) (a0_1 : Rs) (a0_2 : Rs) : Option R9 := itS step9 k (.e a0_0 a0_1 a0_2)
noncomputable def P9 : S9 → R9 → Prop
  | .e a0_0 a0_1 a0_2, r => Fin cx9 Tryz.f9 [.code body9] (fr0 Tryz.f9 [.ag [ic a0_0, .imm a0_1, .imm a0_2]] []) (res9 r) (bx9 r)
  | .h0 became5 t19 t20 loc4_0 loc4_1 loc4_2 loc3_0 loc3_1 loc3_2 loc2_0, r => Fin cx9 Tryz.f9 (kAt body9 [1, 1, 1, 1, 0, 1, 0, 4] []) ⟨[.deadv, .deadv, .c (.ptr ⟨⟨.loc 2, []⟩, 0, 0⟩), .deadv, .c (.ptr ⟨⟨.loc 4, []⟩, 0, 0⟩), .c (.own 1 became5)] ++ rep 12 .deadv ++ [.c (.ref ⟨⟨.loc 3, []⟩, 0, 2⟩), .c (ic t19), .c (ic t20)] ++ rep 58 .deadv, [(.loc 4, [ic loc4_0, .imm loc4_1, .own 8 loc4_2]), (.loc 3, [ic loc3_0, .imm loc3_1, .own 8 loc3_2]), (.loc 2, [ic loc2_0, .nil, .nil])]⟩ (res9 r) (bx9 r)
  | .h1 became5 t19 t20 t26 loc7_0 loc7_1 loc7_2 loc7_3 loc7_4 loc7_5 loc7_6 loc7_7 loc4_0 loc4_1 loc4_2 loc3_0 loc3_1 loc3_2 loc2_0, r => Fin cx9 Tryz.f9 (kAt body9 [1, 1, 1, 1, 0, 1, 0, 0, 1, 1, 0, 0, 1, 0, 1, 2] []) ⟨[.deadv, .deadv, .c (.ptr ⟨⟨.loc 2, []⟩, 0, 0⟩), .deadv, .c (.ptr ⟨⟨.loc 4, []⟩, 0, 0⟩), .c (.own 1 became5), .deadv, .c (.ptr ⟨⟨.loc 7, []⟩, 0, 0⟩)] ++ rep 10 .deadv ++ [.c (.ref ⟨⟨.loc 3, []⟩, 0, 2⟩), .c (ic t19), .c (ic t20)] ++ rep 5 .deadv ++ [.c (bc t26)] ++ rep 52 .deadv, [(.loc 7, [ic loc7_0, ic loc7_1, bc loc7_2, ic loc7_3, .own 2 loc7_4, .own 7 loc7_5, .own 7 loc7_6, .own 3 loc7_7]), (.loc 4, [ic loc4_0, .imm loc4_1, .own 8 loc4_2]), (.loc 3, [ic loc3_0, .imm loc3_1, .own 8 loc3_2]), (.loc 2, [ic loc2_0, .nil, .nil])]⟩ (res9 r) (bx9 r)
  | .h2 became5 t19 t20 loc7_0 loc7_1 loc7_2 loc7_3 loc7_4 loc7_5 loc7_6 loc7_7 loc4_0 loc4_1 loc4_2 loc3_0 loc3_1 loc3_2 loc2_0, r => Fin cx9 Tryz.f9 (kAt body9 [1, 1, 1, 1, 0, 1, 0, 0, 1, 1, 0, 0, 1, 1, 2] []) ⟨[.deadv, .deadv, .c (.ptr ⟨⟨.loc 2, []⟩, 0, 0⟩), .deadv, .c (.ptr ⟨⟨.loc 4, []⟩, 0, 0⟩), .c (.own 1 became5), .deadv, .c (.ptr ⟨⟨.loc 7, []⟩, 0, 0⟩)] ++ rep 10 .deadv ++ [.c (.ref ⟨⟨.loc 3, []⟩, 0, 2⟩), .c (ic t19), .c (ic t20)] ++ rep 58 .deadv, [(.loc 7, [ic loc7_0, ic loc7_1, bc loc7_2, ic loc7_3, .own 2 loc7_4, .own 7 loc7_5, .own 7 loc7_6, .own 3 loc7_7]), (.loc 4, [ic loc4_0, .imm loc4_1, .own 8 loc4_2]), (.loc 3, [ic loc3_0, .imm loc3_1, .own 8 loc3_2]), (.loc 2, [ic loc2_0, .nil, .nil])]⟩ (res9 r) (bx9 r)
  | .h3 became5 at8 t19 t20 t35 t36 loc7_0 loc7_1 loc7_2 loc7_3 loc7_4 loc7_5 loc7_6 loc7_7 loc4_0 loc4_1 loc4_2 loc3_0 loc3_1 loc3_2 loc2_0, r => Fin cx9 Tryz.f9 (kAt body9 [1, 1, 1, 1, 0, 1, 0, 0, 1, 1, 0, 0, 1, 1, 1, 0, 1, 0, 4] []) ⟨[.deadv, .deadv, .c (.ptr ⟨⟨.loc 2, []⟩, 0, 0⟩), .deadv, .c (.ptr ⟨⟨.loc 4, []⟩, 0, 0⟩), .c (.own 1 became5), .deadv, .c (.ptr ⟨⟨.loc 7, []⟩, 0, 0⟩), .c (ic at8)] ++ rep 9 .deadv ++ [.c (.ref ⟨⟨.loc 3, []⟩, 0, 2⟩), .c (ic t19), .c (ic t20)] ++ rep 14 .deadv ++ [.c (ic t35), .c (ic t36)] ++ rep 42 .deadv, [(.loc 7, [ic loc7_0, ic loc7_1, bc loc7_2, ic loc7_3, .own 2 loc7_4, .own 7 loc7_5, .own 7 loc7_6, .own 3 loc7_7]), (.loc 4, [ic loc4_0, .imm loc4_1, .own 8 loc4_2]), (.loc 3, [ic loc3_0, .imm loc3_1, .own 8 loc3_2]), (.loc 2, [ic loc2_0, .nil, .nil])]⟩ (res9 r) (bx9 r)
  | .h4 became5 at8 k9 t19 t20 t35 t36 t45 loc7_0 loc7_1 loc7_2 loc7_3 loc7_4 loc7_5 loc7_6 loc7_7 loc4_0 loc4_1 loc4_2 loc3_0 loc3_1 loc3_2 loc2_0, r => Fin cx9 Tryz.f9 (kAt body9 [1, 1, 1, 1, 0, 1, 0, 0, 1, 1, 0, 0, 1, 1, 1, 0, 1, 0, 0, 1, 1, 0, 0, 1, 1, 2] []) ⟨[.deadv, .deadv, .c (.ptr ⟨⟨.loc 2, []⟩, 0, 0⟩), .deadv, .c (.ptr ⟨⟨.loc 4, []⟩, 0, 0⟩), .c (.own 1 became5), .deadv, .c (.ptr ⟨⟨.loc 7, []⟩, 0, 0⟩), .c (ic at8), .c (ic k9)] ++ rep 8 .deadv ++ [.c (.ref ⟨⟨.loc 3, []⟩, 0, 2⟩), .c (ic t19), .c (ic t20)] ++ rep 14 .deadv ++ [.c (ic t35), .c (ic t36)] ++ rep 8 .deadv ++ [.c (bc t45)] ++ rep 33 .deadv, [(.loc 7, [ic loc7_0, ic loc7_1, bc loc7_2, ic loc7_3, .own 2 loc7_4, .own 7 loc7_5, .own 7 loc7_6, .own 3 loc7_7]), (.loc 4, [ic loc4_0, .imm loc4_1, .own 8 loc4_2]), (.loc 3, [ic loc3_0, .imm loc3_1, .own 8 loc3_2]), (.loc 2, [ic loc2_0, .nil, .nil])]⟩ (res9 r) (bx9 r)
  | .h5 became5 at8 t19 t20 loc4_0 loc4_1 loc4_2 loc3_0 loc3_1 loc3_2 loc2_0, r => Fin cx9 Tryz.f9 (kAt body9 [1, 1, 1, 1, 0, 1, 0, 0, 1, 1, 0, 0, 1, 1, 1, 1, 1, 2] []) ⟨[.deadv, .deadv, .c (.ptr ⟨⟨.loc 2, []⟩, 0, 0⟩), .deadv, .c (.ptr ⟨⟨.loc 4, []⟩, 0, 0⟩), .c (.own 1 became5), .deadv, .deadv, .c (ic at8)] ++ rep 9 .deadv ++ [.c (.ref ⟨⟨.loc 3, []⟩, 0, 2⟩), .c (ic t19), .c (ic t20)] ++ rep 58 .deadv, [(.loc 4, [ic loc4_0, .imm loc4_1, .own 8 loc4_2]), (.loc 3, [ic loc3_0, .imm loc3_1, .own 8 loc3_2]), (.loc 2, [ic loc2_0, .nil, .nil])]⟩ (res9 r) (bx9 r)
  | .h6 became5 at8 t19 t20 t35 t36 loc7_0 loc7_1 loc7_2 loc7_3 loc7_4 loc7_5 loc7_6 loc7_7 loc4_0 loc4_1 loc4_2 loc3_0 loc3_1 loc3_2 loc2_0, r => Fin cx9 Tryz.f9 (kAt body9 [1, 1, 1, 1, 0, 1, 0, 0, 1, 1, 0, 0, 1, 1, 1, 0, 1, 0, 0, 1, 1, 1, 2] []) ⟨[.deadv, .deadv, .c (.ptr ⟨⟨.loc 2, []⟩, 0, 0⟩), .deadv, .c (.ptr ⟨⟨.loc 4, []⟩, 0, 0⟩), .c (.own 1 became5), .deadv, .c (.ptr ⟨⟨.loc 7, []⟩, 0, 0⟩), .c (ic at8)] ++ rep 9 .deadv ++ [.c (.ref ⟨⟨.loc 3, []⟩, 0, 2⟩), .c (ic t19), .c (ic t20)] ++ rep 14 .deadv ++ [.c (ic t35), .c (ic t36)] ++ rep 42 .deadv, [(.loc 7, [ic loc7_0, ic loc7_1, bc loc7_2, ic loc7_3, .own 2 loc7_4, .own 7 loc7_5, .own 7 loc7_6, .own 3 loc7_7]), (.loc 4, [ic loc4_0, .imm loc4_1, .own 8 loc4_2]), (.loc 3, [ic loc3_0, .imm loc3_1, .own 8 loc3_2]), (.loc 2, [ic loc2_0, .nil, .nil])]⟩ (res9 r) (bx9 r)
theorem evr9 {a0_0 : Int} {a0_1 : Rs} {a0_2 : Rs} {r : R9} (h : P9 (.e a0_0 a0_1 a0_2) r) : Ev Tryz.prog noHand 9 [.ag [ic a0_0, .imm a0_1, .imm a0_2]] [] (res9 r) (bx9 r) := ev_of_fin (fn := Tryz.f9) (body := body9) (by kernel_rfl) (by kernel_rfl) (by kernel_rfl) rfl h
theorem t9_e_ok (k : Nat) (rec : S9 → Option R9) (ih : ∀ s r, rec s = some r → P9 s r) (a0_0 : Int) (a0_1 : Rs) (a0_2 : Rs) (r : R9) (h : t9_e k rec a0_0 a0_1 a0_2 = some r) : P9 (.e a0_0 a0_1 a0_2) r := by
  unfold t9_e at h
  obtain ⟨v_x1, h_x2, h⟩ := bd_or h
  obtain ⟨r0_x3, r1_x3, r2_x3, hq, h1'⟩ := tup3_or h
  clear h; subst hq; have h := h1'; clear h1'
  exact mgo_at (nb := 0) hmix (ih _ _ h) (n := 13) (ad := [(some 11, .call (.ret (.ag [ic r0_x3, .own 1 r1_x3, .own 8 r2_x3])) [] false)]) (ps := [_]) (m := bm 79 604462909807314585518027) (ls := [1]) (cs := [(⟨⟨.slot 5, []⟩, 0, 0⟩, some 1), (⟨⟨.loc 4, []⟩, 0, 2⟩, some 8)]) (by kernel_rfl) ⟨(ev6 h_x2), trivial⟩
theorem t9_h0_ok (k : Nat) (rec : S9 → Option R9) (ih : ∀ s r, rec s = some r → P9 s r) (became5 : Rs) (t19 : Int) (t20 : Int) (loc4_0 : Int) (loc4_1 : Rs) (loc4_2 : Rs) (loc3_0 : Int) (loc3_1 : Rs) (loc3_2 : Rs) (loc2_0 : Int) (r : R9) (h : t9_h0 k rec became5 t19 t20 loc4_0 loc4_1 loc4_2 loc3_0 loc3_1 loc3_2 loc2_0 = some r) : P9 (.h0 became5 t19 t20 loc4_0 loc4_1 loc4_2 loc3_0 loc3_1 loc3_2 loc2_0) r := by
  unfold t9_h0 at h
  rcases bif_or h with ⟨h_x1, h⟩ | ⟨h_x1, h⟩
  ·
    obtain ⟨w_x2, h_x3, h⟩ := ixR_or h
    rcases ua_iibio2o7o7n_iibio2o7o7o3_or h with ⟨parent_x4, type_x4, many_x4, window_x4, bars_x4, leaves_x4, guards_x4, hq, h1'⟩ | ⟨parent_x4, type_x4, many_x4, window_x4, bars_x4, leaves_x4, guards_x4, ends_x4, hq, h1'⟩
    · clear h; subst hq; have h := h1'; clear h1'
      exact mgo_at (nb := 0) hmix (ih _ _ h) (n := 13) (ad := [(some 21, .test true), (some 22, .bnd), (some 23, .ldm [ic parent_x4, ic type_x4, bc many_x4, ic window_x4, .own 2 bars_x4, .own 7 leaves_x4, .own 7 guards_x4, .nil])]) (ps := [_, _, _, _, _, _, _, _, _, _]) (m := bm 79 604462909807314518409035) (ls := []) (cs := [(⟨⟨.loc 7, []⟩, 0, 7⟩, some 3)]) (by kernel_rfl) ⟨h_x1, ix_bnd h_x3, ix_at (o := 0) h_x3 rfl, ix_at (o := 1) h_x3 rfl, ix_at (o := 2) h_x3 rfl, ix_at (o := 3) h_x3 rfl, ix_at (o := 4) h_x3 rfl, ix_at (o := 5) (row_set (o := 4) (c := .dead) h_x3) rfl, ix_at (o := 6) (row_set (o := 5) (c := .dead) (row_set (o := 4) (c := .dead) h_x3)) rfl, ix_at (o := 7) (row_set (o := 6) (c := .dead) (row_set (o := 5) (c := .dead) (row_set (o := 4) (c := .dead) h_x3))) rfl, trivial⟩
    · clear h; subst hq; have h := h1'; clear h1'
      exact mgo_at (nb := 0) hmix (ih _ _ h) (n := 13) (ad := [(some 21, .test true), (some 22, .bnd), (some 23, .ldm [ic parent_x4, ic type_x4, bc many_x4, ic window_x4, .own 2 bars_x4, .own 7 leaves_x4, .own 7 guards_x4, .own 3 ends_x4])]) (ps := [_, _, _, _, _, _, _, _, _, _]) (m := bm 79 604462909807314518409035) (ls := []) (cs := []) (by kernel_rfl) ⟨h_x1, ix_bnd h_x3, ix_at (o := 0) h_x3 rfl, ix_at (o := 1) h_x3 rfl, ix_at (o := 2) h_x3 rfl, ix_at (o := 3) h_x3 rfl, ix_at (o := 4) h_x3 rfl, ix_at (o := 5) (row_set (o := 4) (c := .dead) h_x3) rfl, ix_at (o := 6) (row_set (o := 5) (c := .dead) (row_set (o := 4) (c := .dead) h_x3)) rfl, ix_at (o := 7) (row_set (o := 6) (c := .dead) (row_set (o := 5) (c := .dead) (row_set (o := 4) (c := .dead) h_x3))) rfl, trivial⟩
  ·
    rw [← Option.some.inj h]
    exact mgo_fin (nb := 0) hmix (n := 2000) (ad := [(some 21, .test false)]) (ps := [_]) (by kernel_rfl) ⟨h_x1, trivial⟩
theorem t9_h1_ok (k : Nat) (rec : S9 → Option R9) (ih : ∀ s r, rec s = some r → P9 s r) (became5 : Rs) (t19 : Int) (t20 : Int) (t26 : Bool) (loc7_0 : Int) (loc7_1 : Int) (loc7_2 : Bool) (loc7_3 : Int) (loc7_4 : Rs) (loc7_5 : Rs) (loc7_6 : Rs) (loc7_7 : Rs) (loc4_0 : Int) (loc4_1 : Rs) (loc4_2 : Rs) (loc3_0 : Int) (loc3_1 : Rs) (loc3_2 : Rs) (loc2_0 : Int) (r : R9) (h : t9_h1 k rec became5 t19 t20 t26 loc7_0 loc7_1 loc7_2 loc7_3 loc7_4 loc7_5 loc7_6 loc7_7 loc4_0 loc4_1 loc4_2 loc3_0 loc3_1 loc3_2 loc2_0 = some r) : P9 (.h1 became5 t19 t20 t26 loc7_0 loc7_1 loc7_2 loc7_3 loc7_4 loc7_5 loc7_6 loc7_7 loc4_0 loc4_1 loc4_2 loc3_0 loc3_1 loc3_2 loc2_0) r := by
  unfold t9_h1 at h
  rcases bif_or h with ⟨hq, h1'⟩ | ⟨hq, h1'⟩
  · clear h; subst hq; have h := h1'; clear h1'
    obtain ⟨w_x1, h_x2, h⟩ := ixR_or h
    obtain ⟨x_x3, hq, h1'⟩ := un_i_or h
    clear h; subst hq; have h := h1'; clear h1'
    exact mgo_at (nb := 0) hmix (ih _ _ h) (n := 2) (ad := [(some 30, .bnd), (some 31, .ld [ic x_x3])]) (ps := [_, _]) (m := bm 79 604462909807314585517899) (ls := []) (cs := []) (by kernel_rfl) ⟨ix_bnd h_x2, h_x2.2, trivial⟩
  · clear h; subst hq; have h := h1'; clear h1'
    exact mgo_at (nb := 0) hmix (ih _ _ h) (n := 2) (ad := []) (ps := []) (m := bm 79 604462909807314585517899) (ls := []) (cs := []) (by kernel_rfl) trivial
theorem t9_h2_ok (k : Nat) (rec : S9 → Option R9) (ih : ∀ s r, rec s = some r → P9 s r) (became5 : Rs) (t19 : Int) (t20 : Int) (loc7_0 : Int) (loc7_1 : Int) (loc7_2 : Bool) (loc7_3 : Int) (loc7_4 : Rs) (loc7_5 : Rs) (loc7_6 : Rs) (loc7_7 : Rs) (loc4_0 : Int) (loc4_1 : Rs) (loc4_2 : Rs) (loc3_0 : Int) (loc3_1 : Rs) (loc3_2 : Rs) (loc2_0 : Int) (r : R9) (h : t9_h2 k rec became5 t19 t20 loc7_0 loc7_1 loc7_2 loc7_3 loc7_4 loc7_5 loc7_6 loc7_7 loc4_0 loc4_1 loc4_2 loc3_0 loc3_1 loc3_2 loc2_0 = some r) : P9 (.h2 became5 t19 t20 loc7_0 loc7_1 loc7_2 loc7_3 loc7_4 loc7_5 loc7_6 loc7_7 loc4_0 loc4_1 loc4_2 loc3_0 loc3_1 loc3_2 loc2_0) r := by
  unfold t9_h2 at h
  exact mgo_at (nb := 0) hmix (ih _ _ h) (n := 7) (ad := []) (ps := []) (m := bm 79 604462909807211506302539) (ls := []) (cs := []) (by kernel_rfl) trivial
theorem t9_h3_ok (k : Nat) (rec : S9 → Option R9) (ih : ∀ s r, rec s = some r → P9 s r) (became5 : Rs) (at8 : Int) (t19 : Int) (t20 : Int) (t35 : Int) (t36 : Int) (loc7_0 : Int) (loc7_1 : Int) (loc7_2 : Bool) (loc7_3 : Int) (loc7_4 : Rs) (loc7_5 : Rs) (loc7_6 : Rs) (loc7_7 : Rs) (loc4_0 : Int) (loc4_1 : Rs) (loc4_2 : Rs) (loc3_0 : Int) (loc3_1 : Rs) (loc3_2 : Rs) (loc2_0 : Int) (r : R9) (h : t9_h3 k rec became5 at8 t19 t20 t35 t36 loc7_0 loc7_1 loc7_2 loc7_3 loc7_4 loc7_5 loc7_6 loc7_7 loc4_0 loc4_1 loc4_2 loc3_0 loc3_1 loc3_2 loc2_0 = some r) : P9 (.h3 became5 at8 t19 t20 t35 t36 loc7_0 loc7_1 loc7_2 loc7_3 loc7_4 loc7_5 loc7_6 loc7_7 loc4_0 loc4_1 loc4_2 loc3_0 loc3_1 loc3_2 loc2_0) r := by
  unfold t9_h3 at h
  rcases bif_or h with ⟨h_x1, h⟩ | ⟨h_x1, h⟩
  ·
    obtain ⟨w_x2, h_x3, h⟩ := ixR_or h
    rcases ua_iibio2o7o7n_iibio2o7o7o3_or h with ⟨parent_x4, type_x4, many_x4, window_x4, bars_x4, leaves_x4, guards_x4, hq, h1'⟩ | ⟨parent_x4, type_x4, many_x4, window_x4, bars_x4, leaves_x4, guards_x4, ends_x4, hq, h1'⟩
    · clear h; subst hq; have h := h1'; clear h1'
      obtain ⟨v_x5, h_x6, h⟩ := bd_or h
      exact mgo_at (nb := 0) hmix (ih _ _ h) (n := 12) (ad := [(some 37, .test true), (some 42, .bnd), (some 43, .ld [ic parent_x4, ic type_x4, bc many_x4, ic window_x4, .own 2 bars_x4, .own 7 leaves_x4, .own 7 guards_x4, .nil]), (some 45, .callO (.c (bc v_x5)) [(2, bars_x4), (7, leaves_x4), (7, guards_x4), (2, loc7_4), (7, loc7_5), (7, loc7_6), (3, loc7_7)])]) (ps := [_, _, _, _, _, _, _, _, _, _, _]) (m := bm 79 604462909772027134213195) (ls := []) (cs := []) (by kernel_rfl) ⟨h_x1, ix_bnd h_x3, h_x3.2, (ev16 h_x6), ix_at (o := 4) h_x3 rfl, ix_at (o := 5) h_x3 rfl, ix_at (o := 6) h_x3 rfl, (rfl : cellAt [[ic loc7_0, ic loc7_1, bc loc7_2, ic loc7_3, .own 2 loc7_4, .own 7 loc7_5, .own 7 loc7_6, .own 3 loc7_7]] 0 4 = some (.own 2 loc7_4)), (rfl : cellAt [[ic loc7_0, ic loc7_1, bc loc7_2, ic loc7_3, .own 2 loc7_4, .own 7 loc7_5, .own 7 loc7_6, .own 3 loc7_7]] 0 5 = some (.own 7 loc7_5)), (rfl : cellAt [[ic loc7_0, ic loc7_1, bc loc7_2, ic loc7_3, .own 2 loc7_4, .own 7 loc7_5, .own 7 loc7_6, .own 3 loc7_7]] 0 6 = some (.own 7 loc7_6)), (rfl : cellAt [[ic loc7_0, ic loc7_1, bc loc7_2, ic loc7_3, .own 2 loc7_4, .own 7 loc7_5, .own 7 loc7_6, .own 3 loc7_7]] 0 7 = some (.own 3 loc7_7)), trivial⟩
    · clear h; subst hq; have h := h1'; clear h1'
      obtain ⟨v_x5, h_x6, h⟩ := bd_or h
      exact mgo_at (nb := 0) hmix (ih _ _ h) (n := 12) (ad := [(some 37, .test true), (some 42, .bnd), (some 43, .ld [ic parent_x4, ic type_x4, bc many_x4, ic window_x4, .own 2 bars_x4, .own 7 leaves_x4, .own 7 guards_x4, .own 3 ends_x4]), (some 45, .callO (.c (bc v_x5)) [(2, bars_x4), (7, leaves_x4), (7, guards_x4), (3, ends_x4), (2, loc7_4), (7, loc7_5), (7, loc7_6), (3, loc7_7)])]) (ps := [_, _, _, _, _, _, _, _, _, _, _, _]) (m := bm 79 604462909772027134213195) (ls := []) (cs := []) (by kernel_rfl) ⟨h_x1, ix_bnd h_x3, h_x3.2, (ev16 h_x6), ix_at (o := 4) h_x3 rfl, ix_at (o := 5) h_x3 rfl, ix_at (o := 6) h_x3 rfl, ix_at (o := 7) h_x3 rfl, (rfl : cellAt [[ic loc7_0, ic loc7_1, bc loc7_2, ic loc7_3, .own 2 loc7_4, .own 7 loc7_5, .own 7 loc7_6, .own 3 loc7_7]] 0 4 = some (.own 2 loc7_4)), (rfl : cellAt [[ic loc7_0, ic loc7_1, bc loc7_2, ic loc7_3, .own 2 loc7_4, .own 7 loc7_5, .own 7 loc7_6, .own 3 loc7_7]] 0 5 = some (.own 7 loc7_5)), (rfl : cellAt [[ic loc7_0, ic loc7_1, bc loc7_2, ic loc7_3, .own 2 loc7_4, .own 7 loc7_5, .own 7 loc7_6, .own 3 loc7_7]] 0 6 = some (.own 7 loc7_6)), (rfl : cellAt [[ic loc7_0, ic loc7_1, bc loc7_2, ic loc7_3, .own 2 loc7_4, .own 7 loc7_5, .own 7 loc7_6, .own 3 loc7_7]] 0 7 = some (.own 3 loc7_7)), trivial⟩
  ·
    rcases bif_or h with ⟨h_x2, h⟩ | ⟨h_x2, h⟩
    ·
      obtain ⟨h_x3, h⟩ := gd_or h
      exact mgo_at (nb := 0) hmix (ih _ _ h) (n := 13) (ad := [(some 37, .test false), (some 49, .test true), (some 57, .okE false)]) (ps := [_, _, _]) (m := bm 79 604462909807314585517771) (ls := [7]) (cs := []) (by kernel_rfl) ⟨h_x1, h_x2, okF [[ic loc7_0, ic loc7_1, bc loc7_2, ic loc7_3, .own 2 loc7_4, .own 7 loc7_5, .own 7 loc7_6, .own 3 loc7_7]] h_x3, trivial⟩
    ·
      obtain ⟨w_x3, h_x4, h⟩ := ixR_or h
      rcases ua_iibio2o7o7n_iibio2o7o7o3_or h with ⟨parent_x5, type_x5, many_x5, window_x5, bars_x5, leaves_x5, guards_x5, hq, h1'⟩ | ⟨parent_x5, type_x5, many_x5, window_x5, bars_x5, leaves_x5, guards_x5, ends_x5, hq, h1'⟩
      · clear h; subst hq; have h := h1'; clear h1'
        rcases bif_or h with ⟨h_x6, h⟩ | ⟨h_x6, h⟩
        ·
          obtain ⟨h_x7, h⟩ := gd_or h
          exact mgo_at (nb := 0) hmix (ih _ _ h) (n := 11) (ad := [(some 37, .test false), (some 49, .test false), (some 65, .bnd), (some 67, .ld [ic parent_x5, ic type_x5, bc many_x5, ic window_x5, .own 2 bars_x5, .own 7 leaves_x5, .own 7 guards_x5, .nil]), (some 70, .okE true), (some 71, .bnd), (none, .st)]) (ps := [_, _, _, _, _, _, _]) (m := bm 79 604462909807314585517771) (ls := [7]) (cs := []) (by kernel_rfl) ⟨h_x1, h_x2, ix_bnd h_x4, h_x4.2, okT h_x7 h_x6, ix_bnd h_x4, ix_cell (o := 7) h_x4 rfl, trivial⟩
        ·
          obtain ⟨h_x7, h⟩ := gd_or h
          exact mgo_at (nb := 0) hmix (ih _ _ h) (n := 11) (ad := [(some 37, .test false), (some 49, .test false), (some 65, .bnd), (some 67, .ld [ic parent_x5, ic type_x5, bc many_x5, ic window_x5, .own 2 bars_x5, .own 7 leaves_x5, .own 7 guards_x5, .nil]), (some 70, .okE false), (some 71, .bnd), (none, .st)]) (ps := [_, _, _, _, _, _, _]) (m := bm 79 604462909807314585517771) (ls := [7]) (cs := []) (by kernel_rfl) ⟨h_x1, h_x2, ix_bnd h_x4, h_x4.2, okT h_x7 h_x6, ix_bnd h_x4, ix_cell (o := 7) h_x4 rfl, trivial⟩
      · clear h; subst hq; have h := h1'; clear h1'
        obtain ⟨h_x6, h⟩ := gd_or h
        exact mgo_at (nb := 0) hmix (ih _ _ h) (n := 11) (ad := [(some 37, .test false), (some 49, .test false), (none, .alt 1 11), (some 65, .bnd), (some 67, .ld [ic parent_x5, ic type_x5, bc many_x5, ic window_x5, .own 2 bars_x5, .own 7 leaves_x5, .own 7 guards_x5, .own 3 ends_x5]), (some 70, .okO ends_x5 false), (some 71, .bnd), (none, .st), (some 65, .bnd), (some 67, .ld [ic parent_x5, ic type_x5, bc many_x5, ic window_x5, .own 2 bars_x5, .own 7 leaves_x5, .own 7 guards_x5, .own 3 ends_x5]), (some 70, .okO ends_x5 false), (some 71, .bnd), (none, .st)]) (ps := [_, _, _, _, _, _, _, _, _, _, _, _, _, _, _, _, _]) (m := bm 79 604462909807314585517771) (ls := [7]) (cs := []) (by kernel_rfl) ⟨h_x1, h_x2, (rfl : (⟨[.deadv, .deadv, .c (.ptr ⟨⟨.loc 2, []⟩, 0, 0⟩), .deadv, .c (.ptr ⟨⟨.loc 4, []⟩, 0, 0⟩), .c (.own 1 became5), .deadv, .c (.ptr ⟨⟨.loc 7, []⟩, 0, 0⟩), .c (ic at8)] ++ rep 9 .deadv ++ [.c (.ref ⟨⟨.loc 3, []⟩, 0, 2⟩), .c (ic t19), .c (ic t20)] ++ rep 14 .deadv ++ [.c (ic t35), .c (ic t36), .c (bc false)] ++ rep 10 .deadv ++ [.c (ic at8), .c (bc false)] ++ rep 9 .deadv ++ [.c (.ptr ⟨⟨.loc 4, []⟩, 0, 2⟩), .c (.ref ⟨⟨.loc 4, []⟩, 0, 2⟩), .c (ic at8), .c (.ptr ⟨⟨.loc 4, []⟩, 0, 2⟩), .c (.ref ⟨⟨.loc 4, []⟩, 0, 2⟩), .c (ic at8), .c (.ptr ⟨⟨.loc 4, [(0, 2)]⟩, at8.toNat, 0⟩), .c (.ptr ⟨⟨.loc 4, [(0, 2)]⟩, at8.toNat, 7⟩), .deadv, .c (.ptr ⟨⟨.loc 7, []⟩, 0, 7⟩), .c (.ref ⟨⟨.loc 7, []⟩, 0, 7⟩), .deadv, .c (.ptr ⟨⟨.loc 4, [(0, 2)]⟩, at8.toNat, 0⟩), .c (.ptr ⟨⟨.loc 4, [(0, 2)]⟩, at8.toNat, 7⟩)] ++ rep 6 .deadv, [(.loc 7, [ic loc7_0, ic loc7_1, bc loc7_2, ic loc7_3, .own 2 loc7_4, .own 7 loc7_5, .own 7 loc7_6, .imm (immRs loc7_7)]), (.loc 4, [ic loc4_0, .imm loc4_1, .own 8 (setRow (setRow loc4_2 at8.toNat 7 .dead) at8.toNat 7 (.own 3 (ends_x5 ++ (immRs loc7_7))))]), (.loc 3, [ic loc3_0, .imm loc3_1, .own 8 loc3_2]), (.loc 2, [ic loc2_0, .nil, .nil])]⟩ : Fr) = ⟨[.deadv, .deadv, .c (.ptr ⟨⟨.loc 2, []⟩, 0, 0⟩), .deadv, .c (.ptr ⟨⟨.loc 4, []⟩, 0, 0⟩), .c (.own 1 became5), .deadv, .c (.ptr ⟨⟨.loc 7, []⟩, 0, 0⟩), .c (ic at8)] ++ rep 9 .deadv ++ [.c (.ref ⟨⟨.loc 3, []⟩, 0, 2⟩), .c (ic t19), .c (ic t20)] ++ rep 14 .deadv ++ [.c (ic t35), .c (ic t36), .c (bc false)] ++ rep 10 .deadv ++ [.c (ic at8), .c (bc false)] ++ rep 9 .deadv ++ [.c (.ptr ⟨⟨.loc 4, []⟩, 0, 2⟩), .c (.ref ⟨⟨.loc 4, []⟩, 0, 2⟩), .c (ic at8), .c (.ptr ⟨⟨.loc 4, []⟩, 0, 2⟩), .c (.ref ⟨⟨.loc 4, []⟩, 0, 2⟩), .c (ic at8), .c (.ptr ⟨⟨.loc 4, [(0, 2)]⟩, at8.toNat, 0⟩), .c (.ptr ⟨⟨.loc 4, [(0, 2)]⟩, at8.toNat, 7⟩), .deadv, .c (.ptr ⟨⟨.loc 7, []⟩, 0, 7⟩), .c (.ref ⟨⟨.loc 7, []⟩, 0, 7⟩), .deadv, .c (.ptr ⟨⟨.loc 4, [(0, 2)]⟩, at8.toNat, 0⟩), .c (.ptr ⟨⟨.loc 4, [(0, 2)]⟩, at8.toNat, 7⟩)] ++ rep 6 .deadv, [(.loc 7, [ic loc7_0, ic loc7_1, bc loc7_2, ic loc7_3, .own 2 loc7_4, .own 7 loc7_5, .own 7 loc7_6, .imm (immRs loc7_7)]), (.loc 4, [ic loc4_0, .imm loc4_1, .own 8 (setRow (setRow loc4_2 at8.toNat 7 .dead) at8.toNat 7 (.own 3 (ends_x5 ++ (immRs loc7_7))))]), (.loc 3, [ic loc3_0, .imm loc3_1, .own 8 loc3_2]), (.loc 2, [ic loc2_0, .nil, .nil])]⟩), ix_bnd h_x4, h_x4.2, ix_at (o := 7) h_x4 rfl, (rfl : some (AV.c (.ref ⟨⟨.loc 4, [(0, 2)]⟩, at8.toNat, 7⟩)) = some (AV.c (.ref ⟨⟨.loc 4, [(0, 2)]⟩, at8.toNat, 7⟩))), okF (immRs loc7_7) h_x6, ix_bnd (row_set (o := 7) (c := .dead) h_x4), ix_cell (o := 7) (row_set (o := 7) (c := .dead) h_x4) rfl, ix_bnd h_x4, h_x4.2, ix_at (o := 7) h_x4 rfl, (rfl : some (AV.c (.ref ⟨⟨.loc 4, [(0, 2)]⟩, at8.toNat, 7⟩)) = some (AV.c (.ref ⟨⟨.loc 4, [(0, 2)]⟩, at8.toNat, 7⟩))), okF (immRs loc7_7) h_x6, ix_bnd (row_set (o := 7) (c := .dead) h_x4), ix_cell (o := 7) (row_set (o := 7) (c := .dead) h_x4) rfl, trivial⟩
theorem t9_h4_ok (k : Nat) (rec : S9 → Option R9) (ih : ∀ s r, rec s = some r → P9 s r) (became5 : Rs) (at8 : Int) (k9 : Int) (t19 : Int) (t20 : Int) (t35 : Int) (t36 : Int) (t45 : Bool) (loc7_0 : Int) (loc7_1 : Int) (loc7_2 : Bool) (loc7_3 : Int) (loc7_4 : Rs) (loc7_5 : Rs) (loc7_6 : Rs) (loc7_7 : Rs) (loc4_0 : Int) (loc4_1 : Rs) (loc4_2 : Rs) (loc3_0 : Int) (loc3_1 : Rs) (loc3_2 : Rs) (loc2_0 : Int) (r : R9) (h : t9_h4 k rec became5 at8 k9 t19 t20 t35 t36 t45 loc7_0 loc7_1 loc7_2 loc7_3 loc7_4 loc7_5 loc7_6 loc7_7 loc4_0 loc4_1 loc4_2 loc3_0 loc3_1 loc3_2 loc2_0 = some r) : P9 (.h4 became5 at8 k9 t19 t20 t35 t36 t45 loc7_0 loc7_1 loc7_2 loc7_3 loc7_4 loc7_5 loc7_6 loc7_7 loc4_0 loc4_1 loc4_2 loc3_0 loc3_1 loc3_2 loc2_0) r := by
  unfold t9_h4 at h
  rcases bif_or h with ⟨hq, h1'⟩ | ⟨hq, h1'⟩
  · clear h; subst hq; have h := h1'; clear h1'
    exact mgo_at (nb := 0) hmix (ih _ _ h) (n := 3) (ad := []) (ps := []) (m := bm 79 604462909807211506302539) (ls := []) (cs := []) (by kernel_rfl) trivial
  · clear h; subst hq; have h := h1'; clear h1'
    exact mgo_at (nb := 0) hmix (ih _ _ h) (n := 3) (ad := []) (ps := []) (m := bm 79 604462909807211506302539) (ls := []) (cs := []) (by kernel_rfl) trivial
theorem t9_h5_ok (k : Nat) (rec : S9 → Option R9) (ih : ∀ s r, rec s = some r → P9 s r) (became5 : Rs) (at8 : Int) (t19 : Int) (t20 : Int) (loc4_0 : Int) (loc4_1 : Rs) (loc4_2 : Rs) (loc3_0 : Int) (loc3_1 : Rs) (loc3_2 : Rs) (loc2_0 : Int) (r : R9) (h : t9_h5 k rec became5 at8 t19 t20 loc4_0 loc4_1 loc4_2 loc3_0 loc3_1 loc3_2 loc2_0 = some r) : P9 (.h5 became5 at8 t19 t20 loc4_0 loc4_1 loc4_2 loc3_0 loc3_1 loc3_2 loc2_0) r := by
  unfold t9_h5 at h
  obtain ⟨h_x1, h⟩ := gd_or h
  exact mgo_at (nb := 0) hmix (ih _ _ h) (n := 3) (ad := [(some 76, .okE false)]) (ps := [_]) (m := bm 79 604462909807314585518027) (ls := []) (cs := []) (by kernel_rfl) ⟨okF [[ic at8]] h_x1, trivial⟩
theorem t9_h6_ok (k : Nat) (rec : S9 → Option R9) (ih : ∀ s r, rec s = some r → P9 s r) (became5 : Rs) (at8 : Int) (t19 : Int) (t20 : Int) (t35 : Int) (t36 : Int) (loc7_0 : Int) (loc7_1 : Int) (loc7_2 : Bool) (loc7_3 : Int) (loc7_4 : Rs) (loc7_5 : Rs) (loc7_6 : Rs) (loc7_7 : Rs) (loc4_0 : Int) (loc4_1 : Rs) (loc4_2 : Rs) (loc3_0 : Int) (loc3_1 : Rs) (loc3_2 : Rs) (loc2_0 : Int) (r : R9) (h : t9_h6 k rec became5 at8 t19 t20 t35 t36 loc7_0 loc7_1 loc7_2 loc7_3 loc7_4 loc7_5 loc7_6 loc7_7 loc4_0 loc4_1 loc4_2 loc3_0 loc3_1 loc3_2 loc2_0 = some r) : P9 (.h6 became5 at8 t19 t20 t35 t36 loc7_0 loc7_1 loc7_2 loc7_3 loc7_4 loc7_5 loc7_6 loc7_7 loc4_0 loc4_1 loc4_2 loc3_0 loc3_1 loc3_2 loc2_0) r := by
  unfold t9_h6 at h
  exact mgo_at (nb := 0) hmix (ih _ _ h) (n := 1) (ad := []) (ps := []) (m := bm 79 604462909807211506302539) (ls := []) (cs := []) (by kernel_rfl) trivial
theorem ok9 : ∀ k s r, itS step9 k s = some r → P9 s r := itS_ok fun k rec ih s r h => match s, h with
  | .e a0_0 a0_1 a0_2, h => t9_e_ok k rec ih a0_0 a0_1 a0_2 r h
  | .h0 became5 t19 t20 loc4_0 loc4_1 loc4_2 loc3_0 loc3_1 loc3_2 loc2_0, h => t9_h0_ok k rec ih became5 t19 t20 loc4_0 loc4_1 loc4_2 loc3_0 loc3_1 loc3_2 loc2_0 r h
  | .h1 became5 t19 t20 t26 loc7_0 loc7_1 loc7_2 loc7_3 loc7_4 loc7_5 loc7_6 loc7_7 loc4_0 loc4_1 loc4_2 loc3_0 loc3_1 loc3_2 loc2_0, h => t9_h1_ok k rec ih became5 t19 t20 t26 loc7_0 loc7_1 loc7_2 loc7_3 loc7_4 loc7_5 loc7_6 loc7_7 loc4_0 loc4_1 loc4_2 loc3_0 loc3_1 loc3_2 loc2_0 r h
  | .h2 became5 t19 t20 loc7_0 loc7_1 loc7_2 loc7_3 loc7_4 loc7_5 loc7_6 loc7_7 loc4_0 loc4_1 loc4_2 loc3_0 loc3_1 loc3_2 loc2_0, h => t9_h2_ok k rec ih became5 t19 t20 loc7_0 loc7_1 loc7_2 loc7_3 loc7_4 loc7_5 loc7_6 loc7_7 loc4_0 loc4_1 loc4_2 loc3_0 loc3_1 loc3_2 loc2_0 r h
  | .h3 became5 at8 t19 t20 t35 t36 loc7_0 loc7_1 loc7_2 loc7_3 loc7_4 loc7_5 loc7_6 loc7_7 loc4_0 loc4_1 loc4_2 loc3_0 loc3_1 loc3_2 loc2_0, h => t9_h3_ok k rec ih became5 at8 t19 t20 t35 t36 loc7_0 loc7_1 loc7_2 loc7_3 loc7_4 loc7_5 loc7_6 loc7_7 loc4_0 loc4_1 loc4_2 loc3_0 loc3_1 loc3_2 loc2_0 r h
  | .h4 became5 at8 k9 t19 t20 t35 t36 t45 loc7_0 loc7_1 loc7_2 loc7_3 loc7_4 loc7_5 loc7_6 loc7_7 loc4_0 loc4_1 loc4_2 loc3_0 loc3_1 loc3_2 loc2_0, h => t9_h4_ok k rec ih became5 at8 k9 t19 t20 t35 t36 t45 loc7_0 loc7_1 loc7_2 loc7_3 loc7_4 loc7_5 loc7_6 loc7_7 loc4_0 loc4_1 loc4_2 loc3_0 loc3_1 loc3_2 loc2_0 r h
  | .h5 became5 at8 t19 t20 loc4_0 loc4_1 loc4_2 loc3_0 loc3_1 loc3_2 loc2_0, h => t9_h5_ok k rec ih became5 at8 t19 t20 loc4_0 loc4_1 loc4_2 loc3_0 loc3_1 loc3_2 loc2_0 r h
  | .h6 became5 at8 t19 t20 t35 t36 loc7_0 loc7_1 loc7_2 loc7_3 loc7_4 loc7_5 loc7_6 loc7_7 loc4_0 loc4_1 loc4_2 loc3_0 loc3_1 loc3_2 loc2_0, h => t9_h6_ok k rec ih became5 at8 t19 t20 t35 t36 loc7_0 loc7_1 loc7_2 loc7_3 loc7_4 loc7_5 loc7_6 loc7_7 loc4_0 loc4_1 loc4_2 loc3_0 loc3_1 loc3_2 loc2_0 r h
theorem ev9 {k : Nat} {a0_0 : Int} {a0_1 : Rs} {a0_2 : Rs} {r : R9} (h : g9 k a0_0 a0_1 a0_2 = some r) : Ev Tryz.prog noHand 9 [.ag [ic a0_0, .imm a0_1, .imm a0_2]] [] (res9 r) (bx9 r) := evr9 (ok9 _ _ _ h)
-- auspice/auspiceref14.Same
inductive S7 where
  | e (a0_0 : Int) (a0_1 : Rs) (a0_2 : Rs) (b1_0 : Int) (b1_1 : Rs) (b1_2 : Rs)
  | h0 (t32 : Bool) (loc3_0 : Int) (loc3_1 : Rs) (loc3_2 : Rs) (loc2_0 : Int) (loc2_1 : Rs) (loc2_2 : Rs)
  | h1 (t35 : Int) (t36 : Int) (loc3_0 : Int) (loc3_1 : Rs) (loc3_2 : Rs) (loc2_0 : Int) (loc2_1 : Rs) (loc2_2 : Rs)
  | h2 (t53 : Int) (t54 : Int) (loc3_0 : Int) (loc3_1 : Rs) (loc3_2 : Rs) (loc2_0 : Int) (loc2_1 : Rs) (loc2_2 : Rs)
  | h3 (t53 : Int) (t54 : Int) (t79 : Bool) (loc8_0 : Int) (loc8_1 : Int) (loc8_2 : Bool) (loc8_3 : Int) (loc8_4 : Rs) (loc8_5 : Rs) (loc8_6 : Rs) (loc8_7 : Rs) (loc7_0 : Int) (loc7_1 : Int) (loc7_2 : Bool) (loc7_3 : Int) (loc7_4 : Rs) (loc7_5 : Rs) (loc7_6 : Rs) (loc7_7 : Rs) (loc3_0 : Int) (loc3_1 : Rs) (loc3_2 : Rs) (loc2_0 : Int) (loc2_1 : Rs) (loc2_2 : Rs)
  | h4 (t53 : Int) (t54 : Int) (t82 : Int) (t83 : Int) (loc8_0 : Int) (loc8_1 : Int) (loc8_2 : Bool) (loc8_3 : Int) (loc8_4 : Rs) (loc8_5 : Rs) (loc8_6 : Rs) (loc8_7 : Rs) (loc7_0 : Int) (loc7_1 : Int) (loc7_2 : Bool) (loc7_3 : Int) (loc7_4 : Rs) (loc7_5 : Rs) (loc7_6 : Rs) (loc7_7 : Rs) (loc3_0 : Int) (loc3_1 : Rs) (loc3_2 : Rs) (loc2_0 : Int) (loc2_1 : Rs) (loc2_2 : Rs)
  | h5 (t53 : Int) (t54 : Int) (t82 : Int) (t83 : Int) (t130 : Bool) (loc8_0 : Int) (loc8_1 : Int) (loc8_2 : Bool) (loc8_3 : Int) (loc8_4 : Rs) (loc8_5 : Rs) (loc8_6 : Rs) (loc8_7 : Rs) (loc7_0 : Int) (loc7_1 : Int) (loc7_2 : Bool) (loc7_3 : Int) (loc7_4 : Rs) (loc7_5 : Rs) (loc7_6 : Rs) (loc7_7 : Rs) (loc3_0 : Int) (loc3_1 : Rs) (loc3_2 : Rs) (loc2_0 : Int) (loc2_1 : Rs) (loc2_2 : Rs)
abbrev R7 := Bool
def res7 : R7 → ARes
  | r => .ret (.c (bc r))
def bx7 : R7 → List (List Cell)
  | r => []
noncomputable def t7_e (k : Nat) (rec : S7 → Option R7) (a0_0 : Int) (a0_1 : Rs) (a0_2 : Rs) (b1_0 : Int) (b1_1 : Rs) (b1_2 : Rs) : Option R7 :=
  bif a0_0 != b1_0 then
    rec (.h0 true b1_0 b1_1 b1_2 a0_0 a0_1 a0_2)
  else
    bif (a0_1.length : Int) != (b1_1.length : Int) then
      rec (.h0 true b1_0 b1_1 b1_2 a0_0 a0_1 a0_2)
    else
      rec (.h0 ((a0_2.length : Int) != (b1_2.length : Int)) b1_0 b1_1 b1_2 a0_0 a0_1 a0_2)
noncomputable def t7_h0 (k : Nat) (rec : S7 → Option R7) (t32 : Bool) (loc3_0 : Int) (loc3_1 : Rs) (loc3_2 : Rs) (loc2_0 : Int) (loc2_1 : Rs) (loc2_2 : Rs) : Option R7 :=
  bif t32 then
    some false
  else
    rec (.h1 (loc2_1.length : Int) 0 loc3_0 loc3_1 loc3_2 loc2_0 loc2_1 loc2_2)
noncomputable def t7_h1 (k : Nat) (rec : S7 → Option R7) (t35 : Int) (t36 : Int) (loc3_0 : Int) (loc3_1 : Rs) (loc3_2 : Rs) (loc2_0 : Int) (loc2_1 : Rs) (loc2_2 : Rs) : Option R7 :=
  bif decide (t36 < t35) then
    ixR loc2_1 t36 fun w_x2 =>
    un_i w_x2 fun x_x4 =>
    ixR loc3_1 t36 fun w_x5 =>
    un_i w_x5 fun x_x7 =>
    bif x_x4 != x_x7 then
      some false
    else
      rec (.h1 t35 (IntKind.i64.wrap (t36 + 1)) loc3_0 loc3_1 loc3_2 loc2_0 loc2_1 loc2_2)
  else
    rec (.h2 (loc2_2.length : Int) 0 loc3_0 loc3_1 loc3_2 loc2_0 loc2_1 loc2_2)
noncomputable def t7_h2 (k : Nat) (rec : S7 → Option R7) (t53 : Int) (t54 : Int) (loc3_0 : Int) (loc3_1 : Rs) (loc3_2 : Rs) (loc2_0 : Int) (loc2_1 : Rs) (loc2_2 : Rs) : Option R7 :=
  bif decide (t54 < t53) then
    ixR loc2_2 t54 fun w_x2 =>
    un_iibim4 w_x2 fun parent_x4 type_x4 many_x4 window_x4 bars_x4 leaves_x4 guards_x4 ends_x4 =>
    ixR loc3_2 t54 fun w_x5 =>
    un_iibim4 w_x5 fun parent_x7 type_x7 many_x7 window_x7 bars_x7 leaves_x7 guards_x7 ends_x7 =>
    (g16 k parent_x4 type_x4 many_x4 window_x4 bars_x4 leaves_x4 guards_x4 ends_x4 parent_x7 type_x7 many_x7 window_x7 bars_x7 leaves_x7 guards_x7 ends_x7).bind fun v_x8 =>
    bif !v_x8 then
      rec (.h3 t53 t54 true parent_x7 type_x7 many_x7 window_x7 bars_x7 leaves_x7 guards_x7 ends_x7 parent_x4 type_x4 many_x4 window_x4 bars_x4 leaves_x4 guards_x4 ends_x4 loc3_0 loc3_1 loc3_2 loc2_0 loc2_1 loc2_2)
    else
      rec (.h3 t53 t54 ((ends_x4.length : Int) != (ends_x7.length : Int)) parent_x7 type_x7 many_x7 window_x7 bars_x7 leaves_x7 guards_x7 ends_x7 parent_x4 type_x4 many_x4 window_x4 bars_x4 leaves_x4 guards_x4 ends_x4 loc3_0 loc3_1 loc3_2 loc2_0 loc2_1 loc2_2)
  else
    some true
noncomputable def t7_h3 (k : Nat) (rec : S7 → Option R7) (t53 : Int) (t54 : Int) (t79 : Bool) (loc8_0 : Int) (loc8_1 : Int) (loc8_2 : Bool) (loc8_3 : Int) (loc8_4 : Rs) (loc8_5 : Rs) (loc8_6 : Rs) (loc8_7 : Rs) (loc7_0 : Int) (loc7_1 : Int) (loc7_2 : Bool) (loc7_3 : Int) (loc7_4 : Rs) (loc7_5 : Rs) (loc7_6 : Rs) (loc7_7 : Rs) (loc3_0 : Int) (loc3_1 : Rs) (loc3_2 : Rs) (loc2_0 : Int) (loc2_1 : Rs) (loc2_2 : Rs) : Option R7 :=
  bif t79 then
    some false
  else
    rec (.h4 t53 t54 (loc7_7.length : Int) 0 loc8_0 loc8_1 loc8_2 loc8_3 loc8_4 loc8_5 loc8_6 loc8_7 loc7_0 loc7_1 loc7_2 loc7_3 loc7_4 loc7_5 loc7_6 loc7_7 loc3_0 loc3_1 loc3_2 loc2_0 loc2_1 loc2_2)
noncomputable def t7_h4 (k : Nat) (rec : S7 → Option R7) (t53 : Int) (t54 : Int) (t82 : Int) (t83 : Int) (loc8_0 : Int) (loc8_1 : Int) (loc8_2 : Bool) (loc8_3 : Int) (loc8_4 : Rs) (loc8_5 : Rs) (loc8_6 : Rs) (loc8_7 : Rs) (loc7_0 : Int) (loc7_1 : Int) (loc7_2 : Bool) (loc7_3 : Int) (loc7_4 : Rs) (loc7_5 : Rs) (loc7_6 : Rs) (loc7_7 : Rs) (loc3_0 : Int) (loc3_1 : Rs) (loc3_2 : Rs) (loc2_0 : Int) (loc2_1 : Rs) (loc2_2 : Rs) : Option R7 :=
  bif decide (t83 < t82) then
    ixR loc7_7 t83 fun w_x2 =>
    un_imm w_x2 fun branch_x4 closes_x4 bars_x4 =>
    ixR loc8_7 t83 fun w_x5 =>
    un_imm w_x5 fun branch_x7 closes_x7 bars_x7 =>
    bif branch_x4 != branch_x7 then
      rec (.h5 t53 t54 t82 t83 true loc8_0 loc8_1 loc8_2 loc8_3 loc8_4 loc8_5 loc8_6 loc8_7 loc7_0 loc7_1 loc7_2 loc7_3 loc7_4 loc7_5 loc7_6 loc7_7 loc3_0 loc3_1 loc3_2 loc2_0 loc2_1 loc2_2)
    else
      (g17 k closes_x4 closes_x7).bind fun v_x9 =>
      bif !v_x9 then
        rec (.h5 t53 t54 t82 t83 true loc8_0 loc8_1 loc8_2 loc8_3 loc8_4 loc8_5 loc8_6 loc8_7 loc7_0 loc7_1 loc7_2 loc7_3 loc7_4 loc7_5 loc7_6 loc7_7 loc3_0 loc3_1 loc3_2 loc2_0 loc2_1 loc2_2)
      else
        (g18 k bars_x4 bars_x7).bind fun v_x12 =>
        rec (.h5 t53 t54 t82 t83 (!v_x12) loc8_0 loc8_1 loc8_2 loc8_3 loc8_4 loc8_5 loc8_6 loc8_7 loc7_0 loc7_1 loc7_2 loc7_3 loc7_4 loc7_5 loc7_6 loc7_7 loc3_0 loc3_1 loc3_2 loc2_0 loc2_1 loc2_2)
  else
    rec (.h2 t53 (IntKind.i64.wrap (t54 + 1)) loc3_0 loc3_1 loc3_2 loc2_0 loc2_1 loc2_2)
noncomputable def t7_h5 (k : Nat) (rec : S7 → Option R7) (t53 : Int) (t54 : Int) (t82 : Int) (t83 : Int) (t130 : Bool) (loc8_0 : Int) (loc8_1 : Int) (loc8_2 : Bool) (loc8_3 : Int) (loc8_4 : Rs) (loc8_5 : Rs) (loc8_6 : Rs) (loc8_7 : Rs) (loc7_0 : Int) (loc7_1 : Int) (loc7_2 : Bool) (loc7_3 : Int) (loc7_4 : Rs) (loc7_5 : Rs) (loc7_6 : Rs) (loc7_7 : Rs) (loc3_0 : Int) (loc3_1 : Rs) (loc3_2 : Rs) (loc2_0 : Int) (loc2_1 : Rs) (loc2_2 : Rs) : Option R7 :=
  bif t130 then
    some false
  else
    rec (.h4 t53 t54 t82 (IntKind.i64.wrap (t83 + 1)) loc8_0 loc8_1 loc8_2 loc8_3 loc8_4 loc8_5 loc8_6 loc8_7 loc7_0 loc7_1 loc7_2 loc7_3 loc7_4 loc7_5 loc7_6 loc7_7 loc3_0 loc3_1 loc3_2 loc2_0 loc2_1 loc2_2)
noncomputable def step7 (k : Nat) (rec : S7 → Option R7) : S7 → Option R7
  | .e a0_0 a0_1 a0_2 b1_0 b1_1 b1_2 => t7_e k rec a0_0 a0_1 a0_2 b1_0 b1_1 b1_2
  | .h0 t32 loc3_0 loc3_1 loc3_2 loc2_0 loc2_1 loc2_2 => t7_h0 k rec t32 loc3_0 loc3_1 loc3_2 loc2_0 loc2_1 loc2_2
  | .h1 t35 t36 loc3_0 loc3_1 loc3_2 loc2_0 loc2_1 loc2_2 => t7_h1 k rec t35 t36 loc3_0 loc3_1 loc3_2 loc2_0 loc2_1 loc2_2
  | .h2 t53 t54 loc3_0 loc3_1 loc3_2 loc2_0 loc2_1 loc2_2 => t7_h2 k rec t53 t54 loc3_0 loc3_1 loc3_2 loc2_0 loc2_1 loc2_2
  | .h3 t53 t54 t79 loc8_0 loc8_1 loc8_2 loc8_3 loc8_4 loc8_5 loc8_6 loc8_7 loc7_0 loc7_1 loc7_2 loc7_3 loc7_4 loc7_5 loc7_6 loc7_7 loc3_0 loc3_1 loc3_2 loc2_0 loc2_1 loc2_2 => t7_h3 k rec t53 t54 t79 loc8_0 loc8_1 loc8_2 loc8_3 loc8_4 loc8_5 loc8_6 loc8_7 loc7_0 loc7_1 loc7_2 loc7_3 loc7_4 loc7_5 loc7_6 loc7_7 loc3_0 loc3_1 loc3_2 loc2_0 loc2_1 loc2_2
  | .h4 t53 t54 t82 t83 loc8_0 loc8_1 loc8_2 loc8_3 loc8_4 loc8_5 loc8_6 loc8_7 loc7_0 loc7_1 loc7_2 loc7_3 loc7_4 loc7_5 loc7_6 loc7_7 loc3_0 loc3_1 loc3_2 loc2_0 loc2_1 loc2_2 => t7_h4 k rec t53 t54 t82 t83 loc8_0 loc8_1 loc8_2 loc8_3 loc8_4 loc8_5 loc8_6 loc8_7 loc7_0 loc7_1 loc7_2 loc7_3 loc7_4 loc7_5 loc7_6 loc7_7 loc3_0 loc3_1 loc3_2 loc2_0 loc2_1 loc2_2
  | .h5 t53 t54 t82 t83 t130 loc8_0 loc8_1 loc8_2 loc8_3 loc8_4 loc8_5 loc8_6 loc8_7 loc7_0 loc7_1 loc7_2 loc7_3 loc7_4 loc7_5 loc7_6 loc7_7 loc3_0 loc3_1 loc3_2 loc2_0 loc2_1 loc2_2 => t7_h5 k rec t53 t54 t82 t83 t130 loc8_0 loc8_1 loc8_2 loc8_3 loc8_4 loc8_5 loc8_6 loc8_7 loc7_0 loc7_1 loc7_2 loc7_3 loc7_4 loc7_5 loc7_6 loc7_7 loc3_0 loc3_1 loc3_2 loc2_0 loc2_1 loc2_2
noncomputable def g7 (k : Nat) (a0_0 : Int) (a0_1 : Rs) (a0_2 : Rs) (b1_0 : Int) (b1_1 : Rs) (b1_2 : Rs) : Option R7 := itS step7 k (.e a0_0 a0_1 a0_2 b1_0 b1_1 b1_2)
noncomputable def P7 : S7 → R7 → Prop
  | .e a0_0 a0_1 a0_2 b1_0 b1_1 b1_2, r => Fin cx7 Tryz.f7 [.code body7] (fr0 Tryz.f7 [.ag [ic a0_0, .imm a0_1, .imm a0_2], .ag [ic b1_0, .imm b1_1, .imm b1_2]] []) (res7 r) (bx7 r)
  | .h0 t32 loc3_0 loc3_1 loc3_2 loc2_0 loc2_1 loc2_2, r => Fin cx7 Tryz.f7 (kAt body7 [1, 0, 1, 2] []) ⟨[.deadv, .deadv, .c (.ptr ⟨⟨.loc 2, []⟩, 0, 0⟩), .c (.ptr ⟨⟨.loc 3, []⟩, 0, 0⟩)] ++ rep 28 .deadv ++ [.c (bc t32)] ++ rep 100 .deadv, [(.loc 3, [ic loc3_0, .imm loc3_1, .imm loc3_2]), (.loc 2, [ic loc2_0, .imm loc2_1, .imm loc2_2])]⟩ (res7 r) (bx7 r)
  | .h1 t35 t36 loc3_0 loc3_1 loc3_2 loc2_0 loc2_1 loc2_2, r => Fin cx7 Tryz.f7 (kAt body7 [1, 1, 0, 1, 0, 4] []) ⟨[.deadv, .deadv, .c (.ptr ⟨⟨.loc 2, []⟩, 0, 0⟩), .c (.ptr ⟨⟨.loc 3, []⟩, 0, 0⟩)] ++ rep 31 .deadv ++ [.c (ic t35), .c (ic t36)] ++ rep 96 .deadv, [(.loc 3, [ic loc3_0, .imm loc3_1, .imm loc3_2]), (.loc 2, [ic loc2_0, .imm loc2_1, .imm loc2_2])]⟩ (res7 r) (bx7 r)
  | .h2 t53 t54 loc3_0 loc3_1 loc3_2 loc2_0 loc2_1 loc2_2, r => Fin cx7 Tryz.f7 (kAt body7 [1, 1, 1, 0, 1, 0, 4] []) ⟨[.deadv, .deadv, .c (.ptr ⟨⟨.loc 2, []⟩, 0, 0⟩), .c (.ptr ⟨⟨.loc 3, []⟩, 0, 0⟩)] ++ rep 49 .deadv ++ [.c (ic t53), .c (ic t54)] ++ rep 78 .deadv, [(.loc 3, [ic loc3_0, .imm loc3_1, .imm loc3_2]), (.loc 2, [ic loc2_0, .imm loc2_1, .imm loc2_2])]⟩ (res7 r) (bx7 r)
  | .h3 t53 t54 t79 loc8_0 loc8_1 loc8_2 loc8_3 loc8_4 loc8_5 loc8_6 loc8_7 loc7_0 loc7_1 loc7_2 loc7_3 loc7_4 loc7_5 loc7_6 loc7_7 loc3_0 loc3_1 loc3_2 loc2_0 loc2_1 loc2_2, r => Fin cx7 Tryz.f7 (kAt body7 [1, 1, 1, 0, 1, 0, 0, 1, 1, 0, 0, 1, 1, 0, 1, 2] []) ⟨[.deadv, .deadv, .c (.ptr ⟨⟨.loc 2, []⟩, 0, 0⟩), .c (.ptr ⟨⟨.loc 3, []⟩, 0, 0⟩)] ++ rep 3 .deadv ++ [.c (.ptr ⟨⟨.loc 7, []⟩, 0, 0⟩), .c (.ptr ⟨⟨.loc 8, []⟩, 0, 0⟩)] ++ rep 44 .deadv ++ [.c (ic t53), .c (ic t54)] ++ rep 24 .deadv ++ [.c (bc t79)] ++ rep 53 .deadv, [(.loc 8, [ic loc8_0, ic loc8_1, bc loc8_2, ic loc8_3, .imm loc8_4, .imm loc8_5, .imm loc8_6, .imm loc8_7]), (.loc 7, [ic loc7_0, ic loc7_1, bc loc7_2, ic loc7_3, .imm loc7_4, .imm loc7_5, .imm loc7_6, .imm loc7_7]), (.loc 3, [ic loc3_0, .imm loc3_1, .imm loc3_2]), (.loc 2, [ic loc2_0, .imm loc2_1, .imm loc2_2])]⟩ (res7 r) (bx7 r)
  | .h4 t53 t54 t82 t83 loc8_0 loc8_1 loc8_2 loc8_3 loc8_4 loc8_5 loc8_6 loc8_7 loc7_0 loc7_1 loc7_2 loc7_3 loc7_4 loc7_5 loc7_6 loc7_7 loc3_0 loc3_1 loc3_2 loc2_0 loc2_1 loc2_2, r => Fin cx7 Tryz.f7 (kAt body7 [1, 1, 1, 0, 1, 0, 0, 1, 1, 0, 0, 1, 1, 1, 1, 0, 4] []) ⟨[.deadv, .deadv, .c (.ptr ⟨⟨.loc 2, []⟩, 0, 0⟩), .c (.ptr ⟨⟨.loc 3, []⟩, 0, 0⟩)] ++ rep 3 .deadv ++ [.c (.ptr ⟨⟨.loc 7, []⟩, 0, 0⟩), .c (.ptr ⟨⟨.loc 8, []⟩, 0, 0⟩)] ++ rep 44 .deadv ++ [.c (ic t53), .c (ic t54)] ++ rep 27 .deadv ++ [.c (ic t82), .c (ic t83)] ++ rep 49 .deadv, [(.loc 8, [ic loc8_0, ic loc8_1, bc loc8_2, ic loc8_3, .imm loc8_4, .imm loc8_5, .imm loc8_6, .imm loc8_7]), (.loc 7, [ic loc7_0, ic loc7_1, bc loc7_2, ic loc7_3, .imm loc7_4, .imm loc7_5, .imm loc7_6, .imm loc7_7]), (.loc 3, [ic loc3_0, .imm loc3_1, .imm loc3_2]), (.loc 2, [ic loc2_0, .imm loc2_1, .imm loc2_2])]⟩ (res7 r) (bx7 r)
  | .h5 t53 t54 t82 t83 t130 loc8_0 loc8_1 loc8_2 loc8_3 loc8_4 loc8_5 loc8_6 loc8_7 loc7_0 loc7_1 loc7_2 loc7_3 loc7_4 loc7_5 loc7_6 loc7_7 loc3_0 loc3_1 loc3_2 loc2_0 loc2_1 loc2_2, r => Fin cx7 Tryz.f7 (kAt body7 [1, 1, 1, 0, 1, 0, 0, 1, 1, 0, 0, 1, 1, 1, 1, 0, 0, 1, 1, 0, 0, 1, 1, 2] []) ⟨[.deadv, .deadv, .c (.ptr ⟨⟨.loc 2, []⟩, 0, 0⟩), .c (.ptr ⟨⟨.loc 3, []⟩, 0, 0⟩)] ++ rep 3 .deadv ++ [.c (.ptr ⟨⟨.loc 7, []⟩, 0, 0⟩), .c (.ptr ⟨⟨.loc 8, []⟩, 0, 0⟩)] ++ rep 44 .deadv ++ [.c (ic t53), .c (ic t54)] ++ rep 27 .deadv ++ [.c (ic t82), .c (ic t83)] ++ rep 46 .deadv ++ [.c (bc t130), .deadv, .deadv], [(.loc 8, [ic loc8_0, ic loc8_1, bc loc8_2, ic loc8_3, .imm loc8_4, .imm loc8_5, .imm loc8_6, .imm loc8_7]), (.loc 7, [ic loc7_0, ic loc7_1, bc loc7_2, ic loc7_3, .imm loc7_4, .imm loc7_5, .imm loc7_6, .imm loc7_7]), (.loc 3, [ic loc3_0, .imm loc3_1, .imm loc3_2]), (.loc 2, [ic loc2_0, .imm loc2_1, .imm loc2_2])]⟩ (res7 r) (bx7 r)
theorem evr7 {a0_0 : Int} {a0_1 : Rs} {a0_2 : Rs} {b1_0 : Int} {b1_1 : Rs} {b1_2 : Rs} {r : R7} (h : P7 (.e a0_0 a0_1 a0_2 b1_0 b1_1 b1_2) r) : Ev Tryz.prog noHand 7 [.ag [ic a0_0, .imm a0_1, .imm a0_2], .ag [ic b1_0, .imm b1_1, .imm b1_2]] [] (res7 r) (bx7 r) := ev_of_fin (fn := Tryz.f7) (body := body7) (by kernel_rfl) (by kernel_rfl) (by kernel_rfl) rfl h
theorem t7_e_ok (k : Nat) (rec : S7 → Option R7) (ih : ∀ s r, rec s = some r → P7 s r) (a0_0 : Int) (a0_1 : Rs) (a0_2 : Rs) (b1_0 : Int) (b1_1 : Rs) (b1_2 : Rs) (r : R7) (h : t7_e k rec a0_0 a0_1 a0_2 b1_0 b1_1 b1_2 = some r) : P7 (.e a0_0 a0_1 a0_2 b1_0 b1_1 b1_2) r := by
  unfold t7_e at h
  rcases bif_or h with ⟨h_x1, h⟩ | ⟨h_x1, h⟩
  ·
    exact mgo_at (nb := 0) hmix (ih _ _ h) (n := 5) (ad := [(some 14, .test true)]) (ps := [_]) (m := bm 133 10889035741470030830827987437812287799283) (ls := []) (cs := []) (by kernel_rfl) ⟨h_x1, trivial⟩
  ·
    rcases bif_or h with ⟨h_x2, h⟩ | ⟨h_x2, h⟩
    ·
      exact mgo_at (nb := 0) hmix (ih _ _ h) (n := 5) (ad := [(some 14, .test false), (some 22, .test true)]) (ps := [_, _]) (m := bm 133 10889035741470030830827987437812287799283) (ls := []) (cs := []) (by kernel_rfl) ⟨h_x1, h_x2, trivial⟩
    ·
      exact mgo_at (nb := 0) hmix (ih _ _ h) (n := 5) (ad := [(some 14, .test false), (some 22, .test false)]) (ps := [_, _]) (m := bm 133 10889035741470030830827987437812287799283) (ls := []) (cs := []) (by kernel_rfl) ⟨h_x1, h_x2, trivial⟩
theorem t7_h0_ok (k : Nat) (rec : S7 → Option R7) (ih : ∀ s r, rec s = some r → P7 s r) (t32 : Bool) (loc3_0 : Int) (loc3_1 : Rs) (loc3_2 : Rs) (loc2_0 : Int) (loc2_1 : Rs) (loc2_2 : Rs) (r : R7) (h : t7_h0 k rec t32 loc3_0 loc3_1 loc3_2 loc2_0 loc2_1 loc2_2 = some r) : P7 (.h0 t32 loc3_0 loc3_1 loc3_2 loc2_0 loc2_1 loc2_2) r := by
  unfold t7_h0 at h
  rcases bif_or h with ⟨hq, h1'⟩ | ⟨hq, h1'⟩
  · clear h; subst hq; have h := h1'; clear h1'
    rw [← Option.some.inj h]
    exact mgo_fin (nb := 0) hmix (n := 2000) (ad := []) (ps := []) (by kernel_rfl) trivial
  · clear h; subst hq; have h := h1'; clear h1'
    exact mgo_at (nb := 0) hmix (ih _ _ h) (n := 7) (ad := []) (ps := []) (m := bm 133 10889035741470030830827987437713503551475) (ls := []) (cs := []) (by kernel_rfl) trivial
theorem t7_h1_ok (k : Nat) (rec : S7 → Option R7) (ih : ∀ s r, rec s = some r → P7 s r) (t35 : Int) (t36 : Int) (loc3_0 : Int) (loc3_1 : Rs) (loc3_2 : Rs) (loc2_0 : Int) (loc2_1 : Rs) (loc2_2 : Rs) (r : R7) (h : t7_h1 k rec t35 t36 loc3_0 loc3_1 loc3_2 loc2_0 loc2_1 loc2_2 = some r) : P7 (.h1 t35 t36 loc3_0 loc3_1 loc3_2 loc2_0 loc2_1 loc2_2) r := by
  unfold t7_h1 at h
  rcases bif_or h with ⟨h_x1, h⟩ | ⟨h_x1, h⟩
  ·
    obtain ⟨w_x2, h_x3, h⟩ := ixR_or h
    obtain ⟨x_x4, hq, h1'⟩ := un_i_or h
    clear h; subst hq; have h := h1'; clear h1'
    obtain ⟨w_x5, h_x6, h⟩ := ixR_or h
    obtain ⟨x_x7, hq, h1'⟩ := un_i_or h
    clear h; subst hq; have h := h1'; clear h1'
    rcases bif_or h with ⟨h_x8, h⟩ | ⟨h_x8, h⟩
    ·
      rw [← Option.some.inj h]
      exact mgo_fin (nb := 0) hmix (n := 2000) (ad := [(some 37, .test true), (some 42, .row [ic x_x4]), (some 47, .row [ic x_x7]), (some 49, .test true)]) (ps := [_, _, _, _]) (by kernel_rfl) ⟨h_x1, ix_row h_x3 rfl, ix_row h_x6 rfl, h_x8, trivial⟩
    ·
      exact mgo_at (nb := 0) hmix (ih _ _ h) (n := 16) (ad := [(some 37, .test true), (some 42, .row [ic x_x4]), (some 47, .row [ic x_x7]), (some 49, .test false)]) (ps := [_, _, _, _]) (m := bm 133 10889035741470030830827987437713503551475) (ls := []) (cs := []) (by kernel_rfl) ⟨h_x1, ix_row h_x3 rfl, ix_row h_x6 rfl, h_x8, trivial⟩
  ·
    exact mgo_at (nb := 0) hmix (ih _ _ h) (n := 11) (ad := [(some 37, .test false)]) (ps := [_]) (m := bm 133 10889035741470030830827960416218818543603) (ls := []) (cs := []) (by kernel_rfl) ⟨h_x1, trivial⟩
theorem t7_h2_ok (k : Nat) (rec : S7 → Option R7) (ih : ∀ s r, rec s = some r → P7 s r) (t53 : Int) (t54 : Int) (loc3_0 : Int) (loc3_1 : Rs) (loc3_2 : Rs) (loc2_0 : Int) (loc2_1 : Rs) (loc2_2 : Rs) (r : R7) (h : t7_h2 k rec t53 t54 loc3_0 loc3_1 loc3_2 loc2_0 loc2_1 loc2_2 = some r) : P7 (.h2 t53 t54 loc3_0 loc3_1 loc3_2 loc2_0 loc2_1 loc2_2) r := by
  unfold t7_h2 at h
  rcases bif_or h with ⟨h_x1, h⟩ | ⟨h_x1, h⟩
  ·
    obtain ⟨w_x2, h_x3, h⟩ := ixR_or h
    obtain ⟨parent_x4, type_x4, many_x4, window_x4, bars_x4, leaves_x4, guards_x4, ends_x4, hq, h1'⟩ := un_iibim4_or h
    clear h; subst hq; have h := h1'; clear h1'
    obtain ⟨w_x5, h_x6, h⟩ := ixR_or h
    obtain ⟨parent_x7, type_x7, many_x7, window_x7, bars_x7, leaves_x7, guards_x7, ends_x7, hq, h1'⟩ := un_iibim4_or h
    clear h; subst hq; have h := h1'; clear h1'
    obtain ⟨v_x8, h_x9, h⟩ := bd_or h
    rcases bif_or h with ⟨h_x10, h⟩ | ⟨h_x10, h⟩
    ·
      exact mgo_at (nb := 0) hmix (ih _ _ h) (n := 15) (ad := [(some 55, .test true), (some 60, .row [ic parent_x4, ic type_x4, bc many_x4, ic window_x4, .imm bars_x4, .imm leaves_x4, .imm guards_x4, .imm ends_x4]), (some 65, .row [ic parent_x7, ic type_x7, bc many_x7, ic window_x7, .imm bars_x7, .imm leaves_x7, .imm guards_x7, .imm ends_x7]), (some 69, .call (.ret (.c (bc v_x8))) [] false), (some 70, .test true)]) (ps := [_, _, _, _, _]) (m := bm 133 10889035741470030226365050608904231190131) (ls := []) (cs := []) (by kernel_rfl) ⟨h_x1, ix_row h_x3 rfl, ix_row h_x6 rfl, (ev16 h_x9), h_x10, trivial⟩
    ·
      exact mgo_at (nb := 0) hmix (ih _ _ h) (n := 15) (ad := [(some 55, .test true), (some 60, .row [ic parent_x4, ic type_x4, bc many_x4, ic window_x4, .imm bars_x4, .imm leaves_x4, .imm guards_x4, .imm ends_x4]), (some 65, .row [ic parent_x7, ic type_x7, bc many_x7, ic window_x7, .imm bars_x7, .imm leaves_x7, .imm guards_x7, .imm ends_x7]), (some 69, .call (.ret (.c (bc v_x8))) [] false), (some 70, .test false)]) (ps := [_, _, _, _, _]) (m := bm 133 10889035741470030226365050608904231190131) (ls := []) (cs := []) (by kernel_rfl) ⟨h_x1, ix_row h_x3 rfl, ix_row h_x6 rfl, (ev16 h_x9), h_x10, trivial⟩
  ·
    rw [← Option.some.inj h]
    exact mgo_fin (nb := 0) hmix (n := 2000) (ad := [(some 55, .test false)]) (ps := [_]) (by kernel_rfl) ⟨h_x1, trivial⟩
theorem t7_h3_ok (k : Nat) (rec : S7 → Option R7) (ih : ∀ s r, rec s = some r → P7 s r) (t53 : Int) (t54 : Int) (t79 : Bool) (loc8_0 : Int) (loc8_1 : Int) (loc8_2 : Bool) (loc8_3 : Int) (loc8_4 : Rs) (loc8_5 : Rs) (loc8_6 : Rs) (loc8_7 : Rs) (loc7_0 : Int) (loc7_1 : Int) (loc7_2 : Bool) (loc7_3 : Int) (loc7_4 : Rs) (loc7_5 : Rs) (loc7_6 : Rs) (loc7_7 : Rs) (loc3_0 : Int) (loc3_1 : Rs) (loc3_2 : Rs) (loc2_0 : Int) (loc2_1 : Rs) (loc2_2 : Rs) (r : R7) (h : t7_h3 k rec t53 t54 t79 loc8_0 loc8_1 loc8_2 loc8_3 loc8_4 loc8_5 loc8_6 loc8_7 loc7_0 loc7_1 loc7_2 loc7_3 loc7_4 loc7_5 loc7_6 loc7_7 loc3_0 loc3_1 loc3_2 loc2_0 loc2_1 loc2_2 = some r) : P7 (.h3 t53 t54 t79 loc8_0 loc8_1 loc8_2 loc8_3 loc8_4 loc8_5 loc8_6 loc8_7 loc7_0 loc7_1 loc7_2 loc7_3 loc7_4 loc7_5 loc7_6 loc7_7 loc3_0 loc3_1 loc3_2 loc2_0 loc2_1 loc2_2) r := by
  unfold t7_h3 at h
  rcases bif_or h with ⟨hq, h1'⟩ | ⟨hq, h1'⟩
  · clear h; subst hq; have h := h1'; clear h1'
    rw [← Option.some.inj h]
    exact mgo_fin (nb := 0) hmix (n := 2000) (ad := []) (ps := []) (by kernel_rfl) trivial
  · clear h; subst hq; have h := h1'; clear h1'
    exact mgo_at (nb := 0) hmix (ih _ _ h) (n := 6) (ad := []) (ps := []) (m := bm 133 10889035741470016323718125040668722069107) (ls := []) (cs := []) (by kernel_rfl) trivial
theorem t7_h4_ok (k : Nat) (rec : S7 → Option R7) (ih : ∀ s r, rec s = some r → P7 s r) (t53 : Int) (t54 : Int) (t82 : Int) (t83 : Int) (loc8_0 : Int) (loc8_1 : Int) (loc8_2 : Bool) (loc8_3 : Int) (loc8_4 : Rs) (loc8_5 : Rs) (loc8_6 : Rs) (loc8_7 : Rs) (loc7_0 : Int) (loc7_1 : Int) (loc7_2 : Bool) (loc7_3 : Int) (loc7_4 : Rs) (loc7_5 : Rs) (loc7_6 : Rs) (loc7_7 : Rs) (loc3_0 : Int) (loc3_1 : Rs) (loc3_2 : Rs) (loc2_0 : Int) (loc2_1 : Rs) (loc2_2 : Rs) (r : R7) (h : t7_h4 k rec t53 t54 t82 t83 loc8_0 loc8_1 loc8_2 loc8_3 loc8_4 loc8_5 loc8_6 loc8_7 loc7_0 loc7_1 loc7_2 loc7_3 loc7_4 loc7_5 loc7_6 loc7_7 loc3_0 loc3_1 loc3_2 loc2_0 loc2_1 loc2_2 = some r) : P7 (.h4 t53 t54 t82 t83 loc8_0 loc8_1 loc8_2 loc8_3 loc8_4 loc8_5 loc8_6 loc8_7 loc7_0 loc7_1 loc7_2 loc7_3 loc7_4 loc7_5 loc7_6 loc7_7 loc3_0 loc3_1 loc3_2 loc2_0 loc2_1 loc2_2) r := by
  unfold t7_h4 at h
  rcases bif_or h with ⟨h_x1, h⟩ | ⟨h_x1, h⟩
  ·
    obtain ⟨w_x2, h_x3, h⟩ := ixR_or h
    obtain ⟨branch_x4, closes_x4, bars_x4, hq, h1'⟩ := un_imm_or h
    clear h; subst hq; have h := h1'; clear h1'
    obtain ⟨w_x5, h_x6, h⟩ := ixR_or h
    obtain ⟨branch_x7, closes_x7, bars_x7, hq, h1'⟩ := un_imm_or h
    clear h; subst hq; have h := h1'; clear h1'
    rcases bif_or h with ⟨h_x8, h⟩ | ⟨h_x8, h⟩
    ·
      exact mgo_at (nb := 0) hmix (ih _ _ h) (n := 12) (ad := [(some 84, .test true), (some 89, .row [ic branch_x4, .imm closes_x4, .imm bars_x4]), (some 95, .row [ic branch_x7, .imm closes_x7, .imm bars_x7]), (some 98, .test true)]) (ps := [_, _, _, _]) (m := bm 133 9527906273786262469864626610941649223283) (ls := []) (cs := []) (by kernel_rfl) ⟨h_x1, ix_row h_x3 rfl, ix_row h_x6 rfl, h_x8, trivial⟩
    ·
      obtain ⟨v_x9, h_x10, h⟩ := bd_or h
      rcases bif_or h with ⟨h_x11, h⟩ | ⟨h_x11, h⟩
      ·
        exact mgo_at (nb := 0) hmix (ih _ _ h) (n := 12) (ad := [(some 84, .test true), (some 89, .row [ic branch_x4, .imm closes_x4, .imm bars_x4]), (some 95, .row [ic branch_x7, .imm closes_x7, .imm bars_x7]), (some 98, .test false), (some 103, .row [ic branch_x4, .imm closes_x4, .imm bars_x4]), (some 109, .row [ic branch_x7, .imm closes_x7, .imm bars_x7]), (some 112, .call (.ret (.c (bc v_x9))) [] false), (some 113, .test true)]) (ps := [_, _, _, _, _, _, _, _]) (m := bm 133 9527906273786262469864626610941649223283) (ls := []) (cs := []) (by kernel_rfl) ⟨h_x1, ix_row h_x3 rfl, ix_row h_x6 rfl, h_x8, ix_row h_x3 rfl, ix_row h_x6 rfl, (ev17 h_x10), h_x11, trivial⟩
      ·
        obtain ⟨v_x12, h_x13, h⟩ := bd_or h
        exact mgo_at (nb := 0) hmix (ih _ _ h) (n := 12) (ad := [(some 84, .test true), (some 89, .row [ic branch_x4, .imm closes_x4, .imm bars_x4]), (some 95, .row [ic branch_x7, .imm closes_x7, .imm bars_x7]), (some 98, .test false), (some 103, .row [ic branch_x4, .imm closes_x4, .imm bars_x4]), (some 109, .row [ic branch_x7, .imm closes_x7, .imm bars_x7]), (some 112, .call (.ret (.c (bc v_x9))) [] false), (some 113, .test false), (some 119, .row [ic branch_x4, .imm closes_x4, .imm bars_x4]), (some 125, .row [ic branch_x7, .imm closes_x7, .imm bars_x7]), (some 128, .call (.ret (.c (bc v_x12))) [] false)]) (ps := [_, _, _, _, _, _, _, _, _, _, _]) (m := bm 133 9527906273786262469864626610941649223283) (ls := []) (cs := []) (by kernel_rfl) ⟨h_x1, ix_row h_x3 rfl, ix_row h_x6 rfl, h_x8, ix_row h_x3 rfl, ix_row h_x6 rfl, (ev17 h_x10), h_x11, ix_row h_x3 rfl, ix_row h_x6 rfl, (ev18 h_x13), trivial⟩
  ·
    exact mgo_at (nb := 0) hmix (ih _ _ h) (n := 8) (ad := [(some 84, .test false)]) (ps := [_]) (m := bm 133 10889035741470030830827960416218818543603) (ls := [8, 7]) (cs := []) (by kernel_rfl) ⟨h_x1, trivial⟩
theorem t7_h5_ok (k : Nat) (rec : S7 → Option R7) (ih : ∀ s r, rec s = some r → P7 s r) (t53 : Int) (t54 : Int) (t82 : Int) (t83 : Int) (t130 : Bool) (loc8_0 : Int) (loc8_1 : Int) (loc8_2 : Bool) (loc8_3 : Int) (loc8_4 : Rs) (loc8_5 : Rs) (loc8_6 : Rs) (loc8_7 : Rs) (loc7_0 : Int) (loc7_1 : Int) (loc7_2 : Bool) (loc7_3 : Int) (loc7_4 : Rs) (loc7_5 : Rs) (loc7_6 : Rs) (loc7_7 : Rs) (loc3_0 : Int) (loc3_1 : Rs) (loc3_2 : Rs) (loc2_0 : Int) (loc2_1 : Rs) (loc2_2 : Rs) (r : R7) (h : t7_h5 k rec t53 t54 t82 t83 t130 loc8_0 loc8_1 loc8_2 loc8_3 loc8_4 loc8_5 loc8_6 loc8_7 loc7_0 loc7_1 loc7_2 loc7_3 loc7_4 loc7_5 loc7_6 loc7_7 loc3_0 loc3_1 loc3_2 loc2_0 loc2_1 loc2_2 = some r) : P7 (.h5 t53 t54 t82 t83 t130 loc8_0 loc8_1 loc8_2 loc8_3 loc8_4 loc8_5 loc8_6 loc8_7 loc7_0 loc7_1 loc7_2 loc7_3 loc7_4 loc7_5 loc7_6 loc7_7 loc3_0 loc3_1 loc3_2 loc2_0 loc2_1 loc2_2) r := by
  unfold t7_h5 at h
  rcases bif_or h with ⟨hq, h1'⟩ | ⟨hq, h1'⟩
  · clear h; subst hq; have h := h1'; clear h1'
    rw [← Option.some.inj h]
    exact mgo_fin (nb := 0) hmix (n := 2000) (ad := []) (ps := []) (by kernel_rfl) trivial
  · clear h; subst hq; have h := h1'; clear h1'
    exact mgo_at (nb := 0) hmix (ih _ _ h) (n := 4) (ad := []) (ps := []) (m := bm 133 10889035741470016323718125040668722069107) (ls := []) (cs := []) (by kernel_rfl) trivial
theorem ok7 : ∀ k s r, itS step7 k s = some r → P7 s r := itS_ok fun k rec ih s r h => match s, h with
  | .e a0_0 a0_1 a0_2 b1_0 b1_1 b1_2, h => t7_e_ok k rec ih a0_0 a0_1 a0_2 b1_0 b1_1 b1_2 r h
  | .h0 t32 loc3_0 loc3_1 loc3_2 loc2_0 loc2_1 loc2_2, h => t7_h0_ok k rec ih t32 loc3_0 loc3_1 loc3_2 loc2_0 loc2_1 loc2_2 r h
  | .h1 t35 t36 loc3_0 loc3_1 loc3_2 loc2_0 loc2_1 loc2_2, h => t7_h1_ok k rec ih t35 t36 loc3_0 loc3_1 loc3_2 loc2_0 loc2_1 loc2_2 r h
  | .h2 t53 t54 loc3_0 loc3_1 loc3_2 loc2_0 loc2_1 loc2_2, h => t7_h2_ok k rec ih t53 t54 loc3_0 loc3_1 loc3_2 loc2_0 loc2_1 loc2_2 r h
  | .h3 t53 t54 t79 loc8_0 loc8_1 loc8_2 loc8_3 loc8_4 loc8_5 loc8_6 loc8_7 loc7_0 loc7_1 loc7_2 loc7_3 loc7_4 loc7_5 loc7_6 loc7_7 loc3_0 loc3_1 loc3_2 loc2_0 loc2_1 loc2_2, h => t7_h3_ok k rec ih t53 t54 t79 loc8_0 loc8_1 loc8_2 loc8_3 loc8_4 loc8_5 loc8_6 loc8_7 loc7_0 loc7_1 loc7_2 loc7_3 loc7_4 loc7_5 loc7_6 loc7_7 loc3_0 loc3_1 loc3_2 loc2_0 loc2_1 loc2_2 r h
  | .h4 t53 t54 t82 t83 loc8_0 loc8_1 loc8_2 loc8_3 loc8_4 loc8_5 loc8_6 loc8_7 loc7_0 loc7_1 loc7_2 loc7_3 loc7_4 loc7_5 loc7_6 loc7_7 loc3_0 loc3_1 loc3_2 loc2_0 loc2_1 loc2_2, h => t7_h4_ok k rec ih t53 t54 t82 t83 loc8_0 loc8_1 loc8_2 loc8_3 loc8_4 loc8_5 loc8_6 loc8_7 loc7_0 loc7_1 loc7_2 loc7_3 loc7_4 loc7_5 loc7_6 loc7_7 loc3_0 loc3_1 loc3_2 loc2_0 loc2_1 loc2_2 r h
  | .h5 t53 t54 t82 t83 t130 loc8_0 loc8_1 loc8_2 loc8_3 loc8_4 loc8_5 loc8_6 loc8_7 loc7_0 loc7_1 loc7_2 loc7_3 loc7_4 loc7_5 loc7_6 loc7_7 loc3_0 loc3_1 loc3_2 loc2_0 loc2_1 loc2_2, h => t7_h5_ok k rec ih t53 t54 t82 t83 t130 loc8_0 loc8_1 loc8_2 loc8_3 loc8_4 loc8_5 loc8_6 loc8_7 loc7_0 loc7_1 loc7_2 loc7_3 loc7_4 loc7_5 loc7_6 loc7_7 loc3_0 loc3_1 loc3_2 loc2_0 loc2_1 loc2_2 r h
theorem ev7 {k : Nat} {a0_0 : Int} {a0_1 : Rs} {a0_2 : Rs} {b1_0 : Int} {b1_1 : Rs} {b1_2 : Rs} {r : R7} (h : g7 k a0_0 a0_1 a0_2 b1_0 b1_1 b1_2 = some r) : Ev Tryz.prog noHand 7 [.ag [ic a0_0, .imm a0_1, .imm a0_2], .ag [ic b1_0, .imm b1_1, .imm b1_2]] [] (res7 r) (bx7 r) := evr7 (ok7 _ _ _ h)
-- auspice/auspicelaw16.MergeMakes
end Ab
end Go.Proofs.YtgghingfdcmelaaGreat
