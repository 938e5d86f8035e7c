/-
 Functions' ways, printed by a program: what each computes, and that this is what the interpreter computes.
-/
import Derived.Test.YtniibdfnijeaeaaDoorSqq
import Derived.KernelRfl
set_option linter.unusedVariables false
set_option linter.unusedSimpArgs false
set_option linter.unusedSectionVars false
namespace Go.Proofs.YtniibdfnijeaeaaDoor
namespace Ab
variable [Laid2]
def un_isi3 {α : Type} (row : List Cell) (k : Int → ByteArray → Int → Int → Int → Option α) : Option α := match row with
 | [.val (.int .i64 x0), .val (.string x1), .val (.int .i64 x2), .val (.int .i64 x3), .val (.int .i64 x4)] => k x0 x1 x2 x3 x4
 | _ => none
theorem un_isi3_or {α : Type} {row : List Cell} {k : Int → ByteArray → Int → Int → Int → Option α} {r : α} (h : un_isi3 row k = some r) : ∃ x0 x1 x2 x3 x4, row = [.val (.int .i64 x0), .val (.string x1), .val (.int .i64 x2), .val (.int .i64 x3), .val (.int .i64 x4)] ∧ k x0 x1 x2 x3 x4 = some r := by
 unfold un_isi3 at h
 split at h
 ·
  exact ⟨_, _, _, _, _, rfl, h⟩
 ·
  cases h
def un_s {α : Type} (row : List Cell) (k : ByteArray → Option α) : Option α := match row with
 | [.val (.string x0)] => k x0
 | _ => none
theorem un_s_or {α : Type} {row : List Cell} {k : ByteArray → Option α} {r : α} (h : un_s row k = some r) : ∃ x0, row = [.val (.string x0)] ∧ k x0 = some r := by
 unfold un_s at h
 split at h
 ·
  exact ⟨_, rfl, h⟩
 ·
  cases h
def un_y {α : Type} (row : List Cell) (k : Int → Option α) : Option α := match row with
 | [.val (.int .u8 x0)] => k x0
 | _ => none
inductive S12 where
 | e (c0 : Int)
abbrev R12 := Bool
def res12 : R12 → ARes
 | r => .ret (.c (bc r))
def bx12 : R12 → List (List Cell)
 | r => []
noncomputable def t12_e (k : Nat) (rec : S12 → Option R12) (c0 : Int) : Option R12 :=
 bif c0 == 32 then
  some true
 else
  bif c0 == 9 then
   some true
  else
   bif c0 == 10 then
    some true
   else
    some (c0 == 13)
noncomputable def step12 (k : Nat) (rec : S12 → Option R12) : S12 → Option R12
 | .e c0 => t12_e k rec c0
noncomputable def g12 (k : Nat) (c0 : Int) : Option R12 := itS step12 k (.e c0)
noncomputable def P12 : S12 → R12 → Prop
 | .e c0, r => Fin cx12 Tryd.f12 [.code body12] (fr0 Tryd.f12 [.c (.val (.int .u8 c0))] []) (res12 r) (bx12 r)
theorem evr12 {c0 : Int} {r : R12} (h : P12 (.e c0) r) : Ev Tryd.prog noHand 12 [.c (.val (.int .u8 c0))] [] (res12 r) (bx12 r) := ev_of_fin (fn := Tryd.f12) (body := body12) (by kernel_rfl) (by kernel_rfl) (by kernel_rfl) rfl h
theorem t12_e_ok (k : Nat) (rec : S12 → Option R12) (ih : ∀ s r, rec s = some r → P12 s r) (c0 : Int) (r : R12) (h : t12_e k rec c0 = some r) : P12 (.e c0) r := by
 unfold t12_e at h
 rcases bif_or h with ⟨h_x1, h⟩ | ⟨h_x1, h⟩
 ·
  rw [← Option.some.inj h]
  exact mF 0 hmix [aT 4] [_] (by kernel_rfl) ⟨h_x1, trivial⟩
 ·
  rcases bif_or h with ⟨h_x2, h⟩ | ⟨h_x2, h⟩
  ·
   rw [← Option.some.inj h]
   exact mF 0 hmix [aF 4, aT 7] [_, _] (by kernel_rfl) ⟨h_x1, h_x2, trivial⟩
  ·
   rcases bif_or h with ⟨h_x3, h⟩ | ⟨h_x3, h⟩
   ·
    rw [← Option.some.inj h]
    exact mF 0 hmix [aF 4, aF 7, aT 11] [_, _, _] (by kernel_rfl) ⟨h_x1, h_x2, h_x3, trivial⟩
   ·
    rw [← Option.some.inj h]
    exact mF 0 hmix [aF 4, aF 7, aF 11] [_, _, _] (by kernel_rfl) ⟨h_x1, h_x2, h_x3, trivial⟩
theorem ok12 : ∀ k s r, itS step12 k s = some r → P12 s r := itS_ok fun k rec ih s r h => match s, h with
 | .e c0, h => t12_e_ok k rec ih c0 r h
theorem ev12 {k : Nat} {c0 : Int} {r : R12} (h : g12 k c0 = some r) : Ev Tryd.prog noHand 12 [.c (.val (.int .u8 c0))] [] (res12 r) (bx12 r) := evr12 (ok12 _ _ _ h)
inductive S22 where
 | e (c0 : Int)
abbrev R22 := Bool
def res22 : R22 → ARes
 | r => .ret (.c (bc r))
def bx22 : R22 → List (List Cell)
 | r => []
noncomputable def t22_e (k : Nat) (rec : S22 → Option R22) (c0 : Int) : Option R22 :=
 bif decide (c0 ≥ 97) then
  bif decide (c0 ≤ 122) then
   some true
  else
   bif decide (c0 ≥ 65) then
    some (decide (c0 ≤ 90))
   else
    some false
 else
  bif decide (c0 ≥ 65) then
   some (decide (c0 ≤ 90))
  else
   some false
noncomputable def step22 (k : Nat) (rec : S22 → Option R22) : S22 → Option R22
 | .e c0 => t22_e k rec c0
noncomputable def g22 (k : Nat) (c0 : Int) : Option R22 := itS step22 k (.e c0)
noncomputable def P22 : S22 → R22 → Prop
 | .e c0, r => Fin cx22 Tryd.f22 [.code body22] (fr0 Tryd.f22 [.c (.val (.int .u8 c0))] []) (res22 r) (bx22 r)
theorem evr22 {c0 : Int} {r : R22} (h : P22 (.e c0) r) : Ev Tryd.prog noHand 22 [.c (.val (.int .u8 c0))] [] (res22 r) (bx22 r) := ev_of_fin (fn := Tryd.f22) (body := body22) (by kernel_rfl) (by kernel_rfl) (by kernel_rfl) rfl h
theorem t22_e_ok (k : Nat) (rec : S22 → Option R22) (ih : ∀ s r, rec s = some r → P22 s r) (c0 : Int) (r : R22) (h : t22_e k rec c0 = some r) : P22 (.e c0) r := by
 unfold t22_e at h
 rcases bif_or h with ⟨h_x1, h⟩ | ⟨h_x1, h⟩
 ·
  rcases bif_or h with ⟨h_x2, h⟩ | ⟨h_x2, h⟩
  ·
   rw [← Option.some.inj h]
   exact mF 0 hmix [aT 4, aT 7] [_, _] (by kernel_rfl) ⟨h_x1, h_x2, trivial⟩
  ·
   rcases bif_or h with ⟨h_x3, h⟩ | ⟨h_x3, h⟩
   ·
    rw [← Option.some.inj h]
    exact mF 0 hmix [aT 4, aF 7, aT 11] [_, _, _] (by kernel_rfl) ⟨h_x1, h_x2, h_x3, trivial⟩
   ·
    rw [← Option.some.inj h]
    exact mF 0 hmix [aT 4, aF 7, aF 11] [_, _, _] (by kernel_rfl) ⟨h_x1, h_x2, h_x3, trivial⟩
 ·
  rcases bif_or h with ⟨h_x2, h⟩ | ⟨h_x2, h⟩
  ·
   rw [← Option.some.inj h]
   exact mF 0 hmix [aF 4, aT 11] [_, _] (by kernel_rfl) ⟨h_x1, h_x2, trivial⟩
  ·
   rw [← Option.some.inj h]
   exact mF 0 hmix [aF 4, aF 11] [_, _] (by kernel_rfl) ⟨h_x1, h_x2, trivial⟩
theorem ok22 : ∀ k s r, itS step22 k s = some r → P22 s r := itS_ok fun k rec ih s r h => match s, h with
 | .e c0, h => t22_e_ok k rec ih c0 r h
theorem ev22 {k : Nat} {c0 : Int} {r : R22} (h : g22 k c0 = some r) : Ev Tryd.prog noHand 22 [.c (.val (.int .u8 c0))] [] (res22 r) (bx22 r) := evr22 (ok22 _ _ _ h)
inductive S24 where
 | e (c0 : Int)
abbrev R24 := Bool
def res24 : R24 → ARes
 | r => .ret (.c (bc r))
def bx24 : R24 → List (List Cell)
 | r => []
noncomputable def t24_e (k : Nat) (rec : S24 → Option R24) (c0 : Int) : Option R24 :=
 bif decide (c0 ≥ 48) then
  some (decide (c0 ≤ 57))
 else
  some false
noncomputable def step24 (k : Nat) (rec : S24 → Option R24) : S24 → Option R24
 | .e c0 => t24_e k rec c0
noncomputable def g24 (k : Nat) (c0 : Int) : Option R24 := itS step24 k (.e c0)
noncomputable def P24 : S24 → R24 → Prop
 | .e c0, r => Fin cx24 Tryd.f24 [.code body24] (fr0 Tryd.f24 [.c (.val (.int .u8 c0))] []) (res24 r) (bx24 r)
theorem evr24 {c0 : Int} {r : R24} (h : P24 (.e c0) r) : Ev Tryd.prog noHand 24 [.c (.val (.int .u8 c0))] [] (res24 r) (bx24 r) := ev_of_fin (fn := Tryd.f24) (body := body24) (by kernel_rfl) (by kernel_rfl) (by kernel_rfl) rfl h
theorem t24_e_ok (k : Nat) (rec : S24 → Option R24) (ih : ∀ s r, rec s = some r → P24 s r) (c0 : Int) (r : R24) (h : t24_e k rec c0 = some r) : P24 (.e c0) r := by
 unfold t24_e at h
 rcases bif_or h with ⟨h_x1, h⟩ | ⟨h_x1, h⟩
 ·
  rw [← Option.some.inj h]
  exact mF 0 hmix [aT 4] [_] (by kernel_rfl) ⟨h_x1, trivial⟩
 ·
  rw [← Option.some.inj h]
  exact mF 0 hmix [aF 4] [_] (by kernel_rfl) ⟨h_x1, trivial⟩
theorem ok24 : ∀ k s r, itS step24 k s = some r → P24 s r := itS_ok fun k rec ih s r h => match s, h with
 | .e c0, h => t24_e_ok k rec ih c0 r h
theorem ev24 {k : Nat} {c0 : Int} {r : R24} (h : g24 k c0 = some r) : Ev Tryd.prog noHand 24 [.c (.val (.int .u8 c0))] [] (res24 r) (bx24 r) := evr24 (ok24 _ _ _ h)
inductive S35 where
 | e (from1 : Int) (b0_0 : ByteArray) (b0_1 : Int)
 | h0 (from1 : Int) (to5 : Int) (par0_0 : ByteArray) (par0_1 : Int)
 | h1 (from1 : Int) (to5 : Int) (t40 : Bool) (par0_0 : ByteArray) (par0_1 : Int)
abbrev R35 := ByteArray
def res35 : R35 → ARes
 | r => .ret (.c (sc r))
def bx35 (b0_0 : ByteArray) (b0_1 : Int) : R35 → List (List Cell)
 | r => [[sc b0_0, ic b0_1]]
noncomputable def t35_e (k : Nat) (rec : S35 → Option R35) (from1 : Int) (b0_0 : ByteArray) (b0_1 : Int) : Option R35 :=
 rec (.h0 from1 from1 b0_0 b0_1)
noncomputable def t35_h0 (k : Nat) (rec : S35 → Option R35) (from1 : Int) (to5 : Int) (par0_0 : ByteArray) (par0_1 : Int) : Option R35 :=
 bif decide (to5 < (par0_0.size : Int)) then
  sxI par0_0 to5 fun c_x2 =>
  (g22 k c_x2).bind fun v_x4 =>
  bif v_x4 then
   rec (.h1 from1 to5 true par0_0 par0_1)
  else
   (g24 k c_x2).bind fun v_x6 =>
   bif v_x6 then
    rec (.h1 from1 to5 true par0_0 par0_1)
   else
    rec (.h1 from1 to5 (c_x2 == 95) par0_0 par0_1)
 else
  rec (.h1 from1 to5 false par0_0 par0_1)
noncomputable def t35_h1 (k : Nat) (rec : S35 → Option R35) (from1 : Int) (to5 : Int) (t40 : Bool) (par0_0 : ByteArray) (par0_1 : Int) : Option R35 :=
 bif t40 then
  rec (.h0 from1 (IntKind.i64.wrap (to5 + 1)) par0_0 par0_1)
 else
  gd (decide (0 ≤ from1 ∧ from1 ≤ to5 ∧ to5 ≤ (par0_0.size : Int))) <|
  some (par0_0.extract (Int.toNat from1) (Int.toNat to5))
noncomputable def step35 (k : Nat) (rec : S35 → Option R35) : S35 → Option R35
 | .e from1 b0_0 b0_1 => t35_e k rec from1 b0_0 b0_1
 | .h0 from1 to5 par0_0 par0_1 => t35_h0 k rec from1 to5 par0_0 par0_1
 | .h1 from1 to5 t40 par0_0 par0_1 => t35_h1 k rec from1 to5 t40 par0_0 par0_1
noncomputable def g35 (k : Nat) (from1 : Int) (b0_0 : ByteArray) (b0_1 : Int) : Option R35 := itS step35 k (.e from1 b0_0 b0_1)
noncomputable def P35 : S35 → R35 → Prop
 | .e from1 b0_0 b0_1, r => Fin cx35 Tryd.f35 [.code body35] (fr0 Tryd.f35 [.c (.ptr ⟨⟨.par 0, []⟩, 0, 0⟩), .c (ic from1)] [[sc b0_0, ic b0_1]]) (res35 r) (bx35 b0_0 b0_1 r)
 | .h0 from1 to5 par0_0 par0_1, r => Fin cx35 Tryd.f35 (kAt body35 [1, 1, 0, 0, 4] []) ⟨[.c (.ptr ⟨⟨.par 0, []⟩, 0, 0⟩), .c (ic from1)] ++ rep 3 .deadv ++ [.c (ic to5)] ++ rep 44 .deadv, [(.par 0, [sc par0_0, ic par0_1])]⟩ (res35 r) (bx35 par0_0 par0_1 r)
 | .h1 from1 to5 t40 par0_0 par0_1, r => Fin cx35 Tryd.f35 (kAt body35 [1, 1, 0, 0, 0, 0, 1, 2] []) ⟨[.c (.ptr ⟨⟨.par 0, []⟩, 0, 0⟩), .c (ic from1)] ++ rep 3 .deadv ++ [.c (ic to5)] ++ rep 34 .deadv ++ [.c (bc t40)] ++ rep 9 .deadv, [(.par 0, [sc par0_0, ic par0_1])]⟩ (res35 r) (bx35 par0_0 par0_1 r)
theorem evr35 {from1 : Int} {b0_0 : ByteArray} {b0_1 : Int} {r : R35} (h : P35 (.e from1 b0_0 b0_1) r) : Ev Tryd.prog noHand 35 [.c (.ptr ⟨⟨.par 0, []⟩, 0, 0⟩), .c (ic from1)] [[sc b0_0, ic b0_1]] (res35 r) (bx35 b0_0 b0_1 r) := ev_of_fin (fn := Tryd.f35) (body := body35) (by kernel_rfl) (by kernel_rfl) (by kernel_rfl) rfl h
theorem t35_e_ok (k : Nat) (rec : S35 → Option R35) (ih : ∀ s r, rec s = some r → P35 s r) (from1 : Int) (b0_0 : ByteArray) (b0_1 : Int) (r : R35) (h : t35_e k rec from1 b0_0 b0_1 = some r) : P35 (.e from1 b0_0 b0_1) r := by
 unfold t35_e at h
 exact mA 1 hmix (ih _ _ h) 7 [] [] (bm 50 1125899906842588) (by kernel_rfl) trivial
theorem t35_h0_ok (k : Nat) (rec : S35 → Option R35) (ih : ∀ s r, rec s = some r → P35 s r) (from1 : Int) (to5 : Int) (par0_0 : ByteArray) (par0_1 : Int) (r : R35) (h : t35_h0 k rec from1 to5 par0_0 par0_1 = some r) : P35 (.h0 from1 to5 par0_0 par0_1) r := by
 unfold t35_h0 at h
 rcases bif_or h with ⟨h_x1, h⟩ | ⟨h_x1, h⟩
 ·
  obtain ⟨c_x2, h_x3, h⟩ := sxI_or h
  obtain ⟨v_x4, h_x5, h⟩ := bd_or h
  replace h := bif_or h; rcases h with ⟨rfl, h⟩ | ⟨rfl, h⟩
  ·
   exact mA 1 hmix (ih _ _ h) 4 [aT 13, (some 20, .sidx c_x2), aC 21 (.c (bc true))] [_, _, _] (bm 50 1124800395214812) (by kernel_rfl) ⟨h_x1, h_x3, (ev22 h_x5), trivial⟩
  ·
   obtain ⟨v_x6, h_x7, h⟩ := bd_or h
   replace h := bif_or h; rcases h with ⟨rfl, h⟩ | ⟨rfl, h⟩
   ·
    exact mA 1 hmix (ih _ _ h) 4 [aT 13, (some 20, .sidx c_x2), aC 21 (.c (bc false)), (some 28, .sidx c_x2), aC 29 (.c (bc true))] [_, _, _, _, _] (bm 50 1124800395214812) (by kernel_rfl) ⟨h_x1, h_x3, (ev22 h_x5), h_x3, (ev24 h_x7), trivial⟩
   ·
    exact mA 1 hmix (ih _ _ h) 4 [aT 13, (some 20, .sidx c_x2), aC 21 (.c (bc false)), (some 28, .sidx c_x2), aC 29 (.c (bc false)), (some 37, .sidx c_x2)] [_, _, _, _, _, _] (bm 50 1124800395214812) (by kernel_rfl) ⟨h_x1, h_x3, (ev22 h_x5), h_x3, (ev24 h_x7), h_x3, trivial⟩
 ·
  exact mA 1 hmix (ih _ _ h) 4 [aF 13] [_] (bm 50 1124800395214812) (by kernel_rfl) ⟨h_x1, trivial⟩
theorem t35_h1_ok (k : Nat) (rec : S35 → Option R35) (ih : ∀ s r, rec s = some r → P35 s r) (from1 : Int) (to5 : Int) (t40 : Bool) (par0_0 : ByteArray) (par0_1 : Int) (r : R35) (h : t35_h1 k rec from1 to5 t40 par0_0 par0_1 = some r) : P35 (.h1 from1 to5 t40 par0_0 par0_1) r := by
 unfold t35_h1 at h
 replace h := bif_or h; rcases h with ⟨rfl, h⟩ | ⟨rfl, h⟩
 ·
  exact mA 1 hmix (ih _ _ h) 5 [] [] (bm 50 1125899906842588) (by kernel_rfl) trivial
 ·
  obtain ⟨h_x1, h⟩ := gd_or h
  rw [← Option.some.inj h]
  exact mF 1 hmix [aS 49] [_] (by kernel_rfl) ⟨of_decide_eq_true h_x1, trivial⟩
theorem ok35 : ∀ k s r, itS step35 k s = some r → P35 s r := itS_ok fun k rec ih s r h => match s, h with
 | .e from1 b0_0 b0_1, h => t35_e_ok k rec ih from1 b0_0 b0_1 r h
 | .h0 from1 to5 par0_0 par0_1, h => t35_h0_ok k rec ih from1 to5 par0_0 par0_1 r h
 | .h1 from1 to5 t40 par0_0 par0_1, h => t35_h1_ok k rec ih from1 to5 t40 par0_0 par0_1 r h
theorem ev35 {k : Nat} {from1 : Int} {b0_0 : ByteArray} {b0_1 : Int} {r : R35} (h : g35 k from1 b0_0 b0_1 = some r) : Ev Tryd.prog noHand 35 [.c (.ptr ⟨⟨.par 0, []⟩, 0, 0⟩), .c (ic from1)] [[sc b0_0, ic b0_1]] (res35 r) (bx35 b0_0 b0_1 r) := evr35 (ok35 _ _ _ h)
inductive S36 where
 | e (s0 : ByteArray)
 | h0 (t4 : Bool)
abbrev R36 := Bool
def res36 : R36 → ARes
 | r => .ret (.c (bc r))
def bx36 : R36 → List (List Cell)
 | r => []
noncomputable def t36_e (k : Nat) (rec : S36 → Option R36) (s0 : ByteArray) : Option R36 :=
 bif s0.toList == (strB [80, 65, 84, 84, 69, 82, 78]).toList then
  rec (.h0 true)
 else
  bif s0.toList == (strB [83, 69, 81]).toList then
   rec (.h0 true)
  else
   bif s0.toList == (strB [87, 72, 69, 82, 69]).toList then
    rec (.h0 true)
   else
    bif s0.toList == (strB [83, 84, 82, 65, 84, 69, 71, 89]).toList then
     rec (.h0 true)
    else
     bif s0.toList == (strB [87, 73, 84, 72, 73, 78]).toList then
      rec (.h0 true)
     else
      bif s0.toList == (strB [80, 65, 82, 84, 73, 84, 73, 79, 78]).toList then
       rec (.h0 true)
      else
       bif s0.toList == (strB [66, 89]).toList then
        rec (.h0 true)
       else
        bif s0.toList == (strB [83, 84, 82, 73, 67, 84]).toList then
         rec (.h0 true)
        else
         bif s0.toList == (strB [78, 69, 88, 84]).toList then
          rec (.h0 true)
         else
          bif s0.toList == (strB [65, 78, 89]).toList then
           rec (.h0 true)
          else
           bif s0.toList == (strB [65, 78, 68]).toList then
            rec (.h0 true)
           else
            bif s0.toList == (strB [79, 82]).toList then
             rec (.h0 true)
            else
             bif s0.toList == (strB [78, 79, 84]).toList then
              rec (.h0 true)
             else
              bif s0.toList == (strB [84, 82, 85, 69]).toList then
               rec (.h0 true)
              else
               bif s0.toList == (strB [70, 65, 76, 83, 69]).toList then
                rec (.h0 true)
               else
                bif s0.toList == (strB [84, 73, 77, 69]).toList then
                 rec (.h0 true)
                else
                 bif s0.toList == (strB [82, 69, 65, 76]).toList then
                  rec (.h0 true)
                 else
                  bif s0.toList == (strB [73, 83, 78, 65, 78]).toList then
                   rec (.h0 true)
                  else
                   bif s0.toList == (strB [67, 79, 85, 78, 84]).toList then
                    rec (.h0 true)
                   else
                    bif s0.toList == (strB [70, 73, 82, 83, 84]).toList then
                     rec (.h0 true)
                    else
                     bif s0.toList == (strB [76, 65, 83, 84]).toList then
                      rec (.h0 true)
                     else
                      bif s0.toList == (strB [83, 85, 77]).toList then
                       rec (.h0 true)
                      else
                       bif s0.toList == (strB [77, 73, 78]).toList then
                        rec (.h0 true)
                       else
                        bif s0.toList == (strB [77, 65, 88]).toList then
                         rec (.h0 true)
                        else
                         rec (.h0 (s0.toList == (strB [77, 69, 65, 78]).toList))
noncomputable def t36_h0 (k : Nat) (rec : S36 → Option R36) (t4 : Bool) : Option R36 :=
 bif t4 then
  some true
 else
  some false
noncomputable def step36 (k : Nat) (rec : S36 → Option R36) : S36 → Option R36
 | .e s0 => t36_e k rec s0
 | .h0 t4 => t36_h0 k rec t4
noncomputable def g36 (k : Nat) (s0 : ByteArray) : Option R36 := itS step36 k (.e s0)
noncomputable def P36 : S36 → R36 → Prop
 | .e s0, r => Fin cx36 Tryd.f36 [.code body36] (fr0 Tryd.f36 [.c (sc s0)] []) (res36 r) (bx36 r)
 | .h0 t4, r => Fin cx36 Tryd.f36 (kAt body36 [1, 0, 1, 0, 1, 2] []) ⟨rep 4 .deadv ++ [.c (bc t4)] ++ rep 25 .deadv, []⟩ (res36 r) (bx36 r)
theorem evr36 {s0 : ByteArray} {r : R36} (h : P36 (.e s0) r) : Ev Tryd.prog noHand 36 [.c (sc s0)] [] (res36 r) (bx36 r) := ev_of_fin (fn := Tryd.f36) (body := body36) (by kernel_rfl) (by kernel_rfl) (by kernel_rfl) rfl h
theorem t36_e_ok (k : Nat) (rec : S36 → Option R36) (ih : ∀ s r, rec s = some r → P36 s r) (s0 : ByteArray) (r : R36) (h : t36_e k rec s0 = some r) : P36 (.e s0) r := by
 unfold t36_e at h
 rcases bif_or h with ⟨h_x1, h⟩ | ⟨h_x1, h⟩
 ·
  exact mA 0 hmix (ih _ _ h) 11 [aT 5] [_] (bm 30 1073741807) (by kernel_rfl) ⟨h_x1, trivial⟩
 ·
  rcases bif_or h with ⟨h_x2, h⟩ | ⟨h_x2, h⟩
  ·
   exact mA 0 hmix (ih _ _ h) 14 [aF 5, aT 6] [_, _] (bm 30 1073741807) (by kernel_rfl) ⟨h_x1, h_x2, trivial⟩
  ·
   rcases bif_or h with ⟨h_x3, h⟩ | ⟨h_x3, h⟩
   ·
    exact mA 0 hmix (ih _ _ h) 17 [aF 5, aF 6, aT 7] [_, _, _] (bm 30 1073741807) (by kernel_rfl) ⟨h_x1, h_x2, h_x3, trivial⟩
   ·
    rcases bif_or h with ⟨h_x4, h⟩ | ⟨h_x4, h⟩
    ·
     exact mA 0 hmix (ih _ _ h) 20 [aF 5, aF 6, aF 7, aT 8] [_, _, _, _] (bm 30 1073741807) (by kernel_rfl) ⟨h_x1, h_x2, h_x3, h_x4, trivial⟩
    ·
     rcases bif_or h with ⟨h_x5, h⟩ | ⟨h_x5, h⟩
     ·
      exact mA 0 hmix (ih _ _ h) 23 [aF 5, aF 6, aF 7, aF 8, aT 9] [_, _, _, _, _] (bm 30 1073741807) (by kernel_rfl) ⟨h_x1, h_x2, h_x3, h_x4, h_x5, trivial⟩
     ·
      rcases bif_or h with ⟨h_x6, h⟩ | ⟨h_x6, h⟩
      ·
       exact mA 0 hmix (ih _ _ h) 26 [aF 5, aF 6, aF 7, aF 8, aF 9, aT 10] [_, _, _, _, _, _] (bm 30 1073741807) (by kernel_rfl) ⟨h_x1, h_x2, h_x3, h_x4, h_x5, h_x6, trivial⟩
      ·
       rcases bif_or h with ⟨h_x7, h⟩ | ⟨h_x7, h⟩
       ·
        exact mA 0 hmix (ih _ _ h) 29 [aF 5, aF 6, aF 7, aF 8, aF 9, aF 10, aT 11] [_, _, _, _, _, _, _] (bm 30 1073741807) (by kernel_rfl) ⟨h_x1, h_x2, h_x3, h_x4, h_x5, h_x6, h_x7, trivial⟩
       ·
        rcases bif_or h with ⟨h_x8, h⟩ | ⟨h_x8, h⟩
        ·
         exact mA 0 hmix (ih _ _ h) 32 [aF 5, aF 6, aF 7, aF 8, aF 9, aF 10, aF 11, aT 12] [_, _, _, _, _, _, _, _] (bm 30 1073741807) (by kernel_rfl) ⟨h_x1, h_x2, h_x3, h_x4, h_x5, h_x6, h_x7, h_x8, trivial⟩
        ·
         rcases bif_or h with ⟨h_x9, h⟩ | ⟨h_x9, h⟩
         ·
          exact mA 0 hmix (ih _ _ h) 35 [aF 5, aF 6, aF 7, aF 8, aF 9, aF 10, aF 11, aF 12, aT 13] [_, _, _, _, _, _, _, _, _] (bm 30 1073741807) (by kernel_rfl) ⟨h_x1, h_x2, h_x3, h_x4, h_x5, h_x6, h_x7, h_x8, h_x9, trivial⟩
         ·
          rcases bif_or h with ⟨h_x10, h⟩ | ⟨h_x10, h⟩
          ·
           exact mA 0 hmix (ih _ _ h) 38 [aF 5, aF 6, aF 7, aF 8, aF 9, aF 10, aF 11, aF 12, aF 13, aT 14] [_, _, _, _, _, _, _, _, _, _] (bm 30 1073741807) (by kernel_rfl) ⟨h_x1, h_x2, h_x3, h_x4, h_x5, h_x6, h_x7, h_x8, h_x9, h_x10, trivial⟩
          ·
           rcases bif_or h with ⟨h_x11, h⟩ | ⟨h_x11, h⟩
           ·
            exact mA 0 hmix (ih _ _ h) 41 [aF 5, aF 6, aF 7, aF 8, aF 9, aF 10, aF 11, aF 12, aF 13, aF 14, aT 15] [_, _, _, _, _, _, _, _, _, _, _] (bm 30 1073741807) (by kernel_rfl) ⟨h_x1, h_x2, h_x3, h_x4, h_x5, h_x6, h_x7, h_x8, h_x9, h_x10, h_x11, trivial⟩
           ·
            rcases bif_or h with ⟨h_x12, h⟩ | ⟨h_x12, h⟩
            ·
             exact mA 0 hmix (ih _ _ h) 44 [aF 5, aF 6, aF 7, aF 8, aF 9, aF 10, aF 11, aF 12, aF 13, aF 14, aF 15, aT 16] [_, _, _, _, _, _, _, _, _, _, _, _] (bm 30 1073741807) (by kernel_rfl) ⟨h_x1, h_x2, h_x3, h_x4, h_x5, h_x6, h_x7, h_x8, h_x9, h_x10, h_x11, h_x12, trivial⟩
            ·
             rcases bif_or h with ⟨h_x13, h⟩ | ⟨h_x13, h⟩
             ·
              exact mA 0 hmix (ih _ _ h) 47 [aF 5, aF 6, aF 7, aF 8, aF 9, aF 10, aF 11, aF 12, aF 13, aF 14, aF 15, aF 16, aT 17] [_, _, _, _, _, _, _, _, _, _, _, _, _] (bm 30 1073741807) (by kernel_rfl) ⟨h_x1, h_x2, h_x3, h_x4, h_x5, h_x6, h_x7, h_x8, h_x9, h_x10, h_x11, h_x12, h_x13, trivial⟩
             ·
              rcases bif_or h with ⟨h_x14, h⟩ | ⟨h_x14, h⟩
              ·
               exact mA 0 hmix (ih _ _ h) 50 [aF 5, aF 6, aF 7, aF 8, aF 9, aF 10, aF 11, aF 12, aF 13, aF 14, aF 15, aF 16, aF 17, aT 18] [_, _, _, _, _, _, _, _, _, _, _, _, _, _] (bm 30 1073741807) (by kernel_rfl) ⟨h_x1, h_x2, h_x3, h_x4, h_x5, h_x6, h_x7, h_x8, h_x9, h_x10, h_x11, h_x12, h_x13, h_x14, trivial⟩
              ·
               rcases bif_or h with ⟨h_x15, h⟩ | ⟨h_x15, h⟩
               ·
                exact mA 0 hmix (ih _ _ h) 53 [aF 5, aF 6, aF 7, aF 8, aF 9, aF 10, aF 11, aF 12, aF 13, aF 14, aF 15, aF 16, aF 17, aF 18, aT 19] [_, _, _, _, _, _, _, _, _, _, _, _, _, _, _] (bm 30 1073741807) (by kernel_rfl) ⟨h_x1, h_x2, h_x3, h_x4, h_x5, h_x6, h_x7, h_x8, h_x9, h_x10, h_x11, h_x12, h_x13, h_x14, h_x15, trivial⟩
               ·
                rcases bif_or h with ⟨h_x16, h⟩ | ⟨h_x16, h⟩
                ·
                 exact mA 0 hmix (ih _ _ h) 56 [aF 5, aF 6, aF 7, aF 8, aF 9, aF 10, aF 11, aF 12, aF 13, aF 14, aF 15, aF 16, aF 17, aF 18, aF 19, aT 20] [_, _, _, _, _, _, _, _, _, _, _, _, _, _, _, _] (bm 30 1073741807) (by kernel_rfl) ⟨h_x1, h_x2, h_x3, h_x4, h_x5, h_x6, h_x7, h_x8, h_x9, h_x10, h_x11, h_x12, h_x13, h_x14, h_x15, h_x16, trivial⟩
                ·
                 rcases bif_or h with ⟨h_x17, h⟩ | ⟨h_x17, h⟩
                 ·
                  exact mA 0 hmix (ih _ _ h) 59 [aF 5, aF 6, aF 7, aF 8, aF 9, aF 10, aF 11, aF 12, aF 13, aF 14, aF 15, aF 16, aF 17, aF 18, aF 19, aF 20, aT 21] [_, _, _, _, _, _, _, _, _, _, _, _, _, _, _, _, _] (bm 30 1073741807) (by kernel_rfl) ⟨h_x1, h_x2, h_x3, h_x4, h_x5, h_x6, h_x7, h_x8, h_x9, h_x10, h_x11, h_x12, h_x13, h_x14, h_x15, h_x16, h_x17, trivial⟩
                 ·
                  rcases bif_or h with ⟨h_x18, h⟩ | ⟨h_x18, h⟩
                  ·
                   exact mA 0 hmix (ih _ _ h) 62 [aF 5, aF 6, aF 7, aF 8, aF 9, aF 10, aF 11, aF 12, aF 13, aF 14, aF 15, aF 16, aF 17, aF 18, aF 19, aF 20, aF 21, aT 22] [_, _, _, _, _, _, _, _, _, _, _, _, _, _, _, _, _, _] (bm 30 1073741807) (by kernel_rfl) ⟨h_x1, h_x2, h_x3, h_x4, h_x5, h_x6, h_x7, h_x8, h_x9, h_x10, h_x11, h_x12, h_x13, h_x14, h_x15, h_x16, h_x17, h_x18, trivial⟩
                  ·
                   rcases bif_or h with ⟨h_x19, h⟩ | ⟨h_x19, h⟩
                   ·
                    exact mA 0 hmix (ih _ _ h) 65 [aF 5, aF 6, aF 7, aF 8, aF 9, aF 10, aF 11, aF 12, aF 13, aF 14, aF 15, aF 16, aF 17, aF 18, aF 19, aF 20, aF 21, aF 22, aT 23] [_, _, _, _, _, _, _, _, _, _, _, _, _, _, _, _, _, _, _] (bm 30 1073741807) (by kernel_rfl) ⟨h_x1, h_x2, h_x3, h_x4, h_x5, h_x6, h_x7, h_x8, h_x9, h_x10, h_x11, h_x12, h_x13, h_x14, h_x15, h_x16, h_x17, h_x18, h_x19, trivial⟩
                   ·
                    rcases bif_or h with ⟨h_x20, h⟩ | ⟨h_x20, h⟩
                    ·
                     exact mA 0 hmix (ih _ _ h) 68 [aF 5, aF 6, aF 7, aF 8, aF 9, aF 10, aF 11, aF 12, aF 13, aF 14, aF 15, aF 16, aF 17, aF 18, aF 19, aF 20, aF 21, aF 22, aF 23, aT 24] [_, _, _, _, _, _, _, _, _, _, _, _, _, _, _, _, _, _, _, _] (bm 30 1073741807) (by kernel_rfl) ⟨h_x1, h_x2, h_x3, h_x4, h_x5, h_x6, h_x7, h_x8, h_x9, h_x10, h_x11, h_x12, h_x13, h_x14, h_x15, h_x16, h_x17, h_x18, h_x19, h_x20, trivial⟩
                    ·
                     rcases bif_or h with ⟨h_x21, h⟩ | ⟨h_x21, h⟩
                     ·
                      exact mA 0 hmix (ih _ _ h) 71 [aF 5, aF 6, aF 7, aF 8, aF 9, aF 10, aF 11, aF 12, aF 13, aF 14, aF 15, aF 16, aF 17, aF 18, aF 19, aF 20, aF 21, aF 22, aF 23, aF 24, aT 25] [_, _, _, _, _, _, _, _, _, _, _, _, _, _, _, _, _, _, _, _, _] (bm 30 1073741807) (by kernel_rfl) ⟨h_x1, h_x2, h_x3, h_x4, h_x5, h_x6, h_x7, h_x8, h_x9, h_x10, h_x11, h_x12, h_x13, h_x14, h_x15, h_x16, h_x17, h_x18, h_x19, h_x20, h_x21, trivial⟩
                     ·
                      rcases bif_or h with ⟨h_x22, h⟩ | ⟨h_x22, h⟩
                      ·
                       exact mA 0 hmix (ih _ _ h) 74 [aF 5, aF 6, aF 7, aF 8, aF 9, aF 10, aF 11, aF 12, aF 13, aF 14, aF 15, aF 16, aF 17, aF 18, aF 19, aF 20, aF 21, aF 22, aF 23, aF 24, aF 25, aT 26] [_, _, _, _, _, _, _, _, _, _, _, _, _, _, _, _, _, _, _, _, _, _] (bm 30 1073741807) (by kernel_rfl) ⟨h_x1, h_x2, h_x3, h_x4, h_x5, h_x6, h_x7, h_x8, h_x9, h_x10, h_x11, h_x12, h_x13, h_x14, h_x15, h_x16, h_x17, h_x18, h_x19, h_x20, h_x21, h_x22, trivial⟩
                      ·
                       rcases bif_or h with ⟨h_x23, h⟩ | ⟨h_x23, h⟩
                       ·
                        exact mA 0 hmix (ih _ _ h) 77 [aF 5, aF 6, aF 7, aF 8, aF 9, aF 10, aF 11, aF 12, aF 13, aF 14, aF 15, aF 16, aF 17, aF 18, aF 19, aF 20, aF 21, aF 22, aF 23, aF 24, aF 25, aF 26, aT 27] [_, _, _, _, _, _, _, _, _, _, _, _, _, _, _, _, _, _, _, _, _, _, _] (bm 30 1073741807) (by kernel_rfl) ⟨h_x1, h_x2, h_x3, h_x4, h_x5, h_x6, h_x7, h_x8, h_x9, h_x10, h_x11, h_x12, h_x13, h_x14, h_x15, h_x16, h_x17, h_x18, h_x19, h_x20, h_x21, h_x22, h_x23, trivial⟩
                       ·
                        rcases bif_or h with ⟨h_x24, h⟩ | ⟨h_x24, h⟩
                        ·
                         exact mA 0 hmix (ih _ _ h) 80 [aF 5, aF 6, aF 7, aF 8, aF 9, aF 10, aF 11, aF 12, aF 13, aF 14, aF 15, aF 16, aF 17, aF 18, aF 19, aF 20, aF 21, aF 22, aF 23, aF 24, aF 25, aF 26, aF 27, aT 28] [_, _, _, _, _, _, _, _, _, _, _, _, _, _, _, _, _, _, _, _, _, _, _, _] (bm 30 1073741807) (by kernel_rfl) ⟨h_x1, h_x2, h_x3, h_x4, h_x5, h_x6, h_x7, h_x8, h_x9, h_x10, h_x11, h_x12, h_x13, h_x14, h_x15, h_x16, h_x17, h_x18, h_x19, h_x20, h_x21, h_x22, h_x23, h_x24, trivial⟩
                        ·
                         exact mA 0 hmix (ih _ _ h) 80 [aF 5, aF 6, aF 7, aF 8, aF 9, aF 10, aF 11, aF 12, aF 13, aF 14, aF 15, aF 16, aF 17, aF 18, aF 19, aF 20, aF 21, aF 22, aF 23, aF 24, aF 25, aF 26, aF 27, aF 28] [_, _, _, _, _, _, _, _, _, _, _, _, _, _, _, _, _, _, _, _, _, _, _, _] (bm 30 1073741807) (by kernel_rfl) ⟨h_x1, h_x2, h_x3, h_x4, h_x5, h_x6, h_x7, h_x8, h_x9, h_x10, h_x11, h_x12, h_x13, h_x14, h_x15, h_x16, h_x17, h_x18, h_x19, h_x20, h_x21, h_x22, h_x23, h_x24, trivial⟩
theorem t36_h0_ok (k : Nat) (rec : S36 → Option R36) (ih : ∀ s r, rec s = some r → P36 s r) (t4 : Bool) (r : R36) (h : t36_h0 k rec t4 = some r) : P36 (.h0 t4) r := by
 unfold t36_h0 at h
 replace h := bif_or h; rcases h with ⟨rfl, h⟩ | ⟨rfl, h⟩
 ·
  rw [← Option.some.inj h]
  exact mF 0 hmix [] [] (by kernel_rfl) trivial
 ·
  rw [← Option.some.inj h]
  exact mF 0 hmix [] [] (by kernel_rfl) trivial
theorem ok36 : ∀ k s r, itS step36 k s = some r → P36 s r := itS_ok fun k rec ih s r h => match s, h with
 | .e s0, h => t36_e_ok k rec ih s0 r h
 | .h0 t4, h => t36_h0_ok k rec ih t4 r h
theorem ev36 {k : Nat} {s0 : ByteArray} {r : R36} (h : g36 k s0 = some r) : Ev Tryd.prog noHand 36 [.c (sc s0)] [] (res36 r) (bx36 r) := evr36 (ok36 _ _ _ h)
inductive S23 where
 | e (b0_0 : ByteArray) (b0_1 : Int)
 | h0 (w3 : ByteArray) (at4 : Int) (t24 : Bool) (loc2_0 : Int) (loc2_1 : ByteArray) (loc2_2 : Int) (loc2_3 : Int) (loc2_4 : Int) (par0_0 : ByteArray) (par0_1 : Int)
abbrev R23 := (Int × ByteArray × Int × Int × Int × Int) ⊕ (Int × Int)
def res23 : R23 → ARes
 | (.inl (r_0, r_1, r_2, r_3, r_4, r_b0_1)) => .ret (.ag [ic r_0, sc r_1, ic r_2, ic r_3, ic r_4])
 | (.inr (r_i00, r_b0_1)) => .panic (.iface 43 (.agg #[.int .i64 r_i00]))
def bx23 (b0_0 : ByteArray) : R23 → List (List Cell)
 | (.inl (r_0, r_1, r_2, r_3, r_4, r_b0_1)) => [[sc b0_0, ic r_b0_1]]
 | (.inr (r_i00, r_b0_1)) => [[sc b0_0, ic r_b0_1]]
noncomputable def t23_e (k : Nat) (rec : S23 → Option R23) (b0_0 : ByteArray) (b0_1 : Int) : Option R23 :=
 (g35 k b0_1 b0_0 b0_1).bind fun v_x1 =>
 (g36 k v_x1).bind fun v_x3 =>
 rec (.h0 v_x1 b0_1 v_x3 0 (strB []) 0 0 0 b0_0 (IntKind.i64.wrap (b0_1 + (v_x1.size : Int))))
noncomputable def t23_h0 (k : Nat) (rec : S23 → Option R23) (w3 : ByteArray) (at4 : Int) (t24 : Bool) (loc2_0 : Int) (loc2_1 : ByteArray) (loc2_2 : Int) (loc2_3 : Int) (loc2_4 : Int) (par0_0 : ByteArray) (par0_1 : Int) : Option R23 :=
 bif t24 then
  some (.inl (1, w3, 0, 0, at4, par0_1))
 else
  (nameX w3).bind fun v_x1 =>
  bif v_x1 then
   some (.inl (2, w3, 0, 0, at4, par0_1))
  else
   some (.inr (at4, par0_1))
noncomputable def step23 (k : Nat) (rec : S23 → Option R23) : S23 → Option R23
 | .e b0_0 b0_1 => t23_e k rec b0_0 b0_1
 | .h0 w3 at4 t24 loc2_0 loc2_1 loc2_2 loc2_3 loc2_4 par0_0 par0_1 => t23_h0 k rec w3 at4 t24 loc2_0 loc2_1 loc2_2 loc2_3 loc2_4 par0_0 par0_1
noncomputable def g23 (k : Nat) (b0_0 : ByteArray) (b0_1 : Int) : Option R23 := itS step23 k (.e b0_0 b0_1)
noncomputable def P23 : S23 → R23 → Prop
 | .e b0_0 b0_1, r => Fin cx23 Tryd.f23 [.code body23] (fr0 Tryd.f23 [.c (.ptr ⟨⟨.par 0, []⟩, 0, 0⟩)] [[sc b0_0, ic b0_1]]) (res23 r) (bx23 b0_0 r)
 | .h0 w3 at4 t24 loc2_0 loc2_1 loc2_2 loc2_3 loc2_4 par0_0 par0_1, r => Fin cx23 Tryd.f23 (kAt body23 [1, 1, 1, 0, 0, 1, 2] []) ⟨[.deadv, .deadv, .c (.ptr ⟨⟨.loc 2, []⟩, 0, 0⟩), .c (sc w3), .c (ic at4)] ++ rep 19 .deadv ++ [.c (bc t24)] ++ rep 14 .deadv, [(.loc 2, [ic loc2_0, sc loc2_1, ic loc2_2, ic loc2_3, ic loc2_4]), (.par 0, [sc par0_0, ic par0_1])]⟩ (res23 r) (bx23 par0_0 r)
theorem evr23 {b0_0 : ByteArray} {b0_1 : Int} {r : R23} (h : P23 (.e b0_0 b0_1) r) : Ev Tryd.prog noHand 23 [.c (.ptr ⟨⟨.par 0, []⟩, 0, 0⟩)] [[sc b0_0, ic b0_1]] (res23 r) (bx23 b0_0 r) := ev_of_fin (fn := Tryd.f23) (body := body23) (by kernel_rfl) (by kernel_rfl) (by kernel_rfl) rfl h
theorem t23_e_ok (k : Nat) (rec : S23 → Option R23) (ih : ∀ s r, rec s = some r → P23 s r) (b0_0 : ByteArray) (b0_1 : Int) (r : R23) (h : t23_e k rec b0_0 b0_1 = some r) : P23 (.e b0_0 b0_1) r := by
 unfold t23_e at h
 obtain ⟨v_x1, h_x2, h⟩ := bd_or h
 obtain ⟨v_x3, h_x4, h⟩ := bd_or h
 exact mA 1 hmix (ih _ _ h) 10 [(none, .alt 5 9), (some 10, .call (.ret (.c (sc v_x1))) [[sc b0_0, ic b0_1]] false), (some 10, .call (.ret (.c (sc v_x1))) [[sc b0_0, ic b0_1]] false), (none, .st), aC 26 (.c (bc v_x3))] [_, _, _, _, _] (bm 39 549739036643) (by kernel_rfl) ⟨(rfl : (⟨[.c (.ptr ⟨⟨.par 0, []⟩, 0, 0⟩), .undef, .c (.ptr ⟨⟨.loc 2, []⟩, 0, 0⟩), .c (sc v_x1), .c (ic b0_1), .c (.ptr ⟨⟨.par 0, []⟩, 0, 0⟩), .c (.ptr ⟨⟨.par 0, []⟩, 0, 0⟩), .c (.ptr ⟨⟨.par 0, []⟩, 0, 0⟩), .c (.ptr ⟨⟨.par 0, []⟩, 0, 1⟩), .c (ic b0_1), .c (sc v_x1), .c (.ptr ⟨⟨.par 0, []⟩, 0, 0⟩), .c (.ptr ⟨⟨.par 0, []⟩, 0, 0⟩), .c (.ptr ⟨⟨.par 0, []⟩, 0, 1⟩), .c (ic b0_1)] ++ rep 24 .undef, [(.loc 2, [ic 0, sc (strB []), ic 0, ic 0, ic 0]), (.par 0, [sc b0_0, ic b0_1])]⟩ : Fr) = ⟨[.c (.ptr ⟨⟨.par 0, []⟩, 0, 0⟩), .undef, .c (.ptr ⟨⟨.loc 2, []⟩, 0, 0⟩), .c (sc v_x1), .c (ic b0_1), .c (.ptr ⟨⟨.par 0, []⟩, 0, 0⟩), .c (.ptr ⟨⟨.par 0, []⟩, 0, 0⟩), .c (.ptr ⟨⟨.par 0, []⟩, 0, 0⟩), .c (.ptr ⟨⟨.par 0, []⟩, 0, 1⟩), .c (ic b0_1), .c (sc v_x1), .c (.ptr ⟨⟨.par 0, []⟩, 0, 0⟩), .c (.ptr ⟨⟨.par 0, []⟩, 0, 0⟩), .c (.ptr ⟨⟨.par 0, []⟩, 0, 1⟩), .c (ic b0_1)] ++ rep 24 .undef, [(.loc 2, [ic 0, sc (strB []), ic 0, ic 0, ic 0]), (.par 0, [sc b0_0, ic b0_1])]⟩), (ev35 h_x2), (ev35 h_x2), (⟨_, rfl⟩ : ∃ c0, cellAt [[sc b0_0, ic b0_1]] 0 1 = some c0), (ev36 h_x4), trivial⟩
theorem t23_h0_ok (k : Nat) (rec : S23 → Option R23) (ih : ∀ s r, rec s = some r → P23 s r) (w3 : ByteArray) (at4 : Int) (t24 : Bool) (loc2_0 : Int) (loc2_1 : ByteArray) (loc2_2 : Int) (loc2_3 : Int) (loc2_4 : Int) (par0_0 : ByteArray) (par0_1 : Int) (r : R23) (h : t23_h0 k rec w3 at4 t24 loc2_0 loc2_1 loc2_2 loc2_3 loc2_4 par0_0 par0_1 = some r) : P23 (.h0 w3 at4 t24 loc2_0 loc2_1 loc2_2 loc2_3 loc2_4 par0_0 par0_1) r := by
 unfold t23_h0 at h
 replace h := bif_or h; rcases h with ⟨rfl, h⟩ | ⟨rfl, h⟩
 ·
  rw [← Option.some.inj h]
  exact mF 1 hmix [] [] (by kernel_rfl) trivial
 ·
  obtain ⟨v_x1, h_x2, h⟩ := bd_or h
  replace h := bif_or h; rcases h with ⟨rfl, h⟩ | ⟨rfl, h⟩
  ·
   rw [← Option.some.inj h]
   exact mF 1 hmix [aC 32 (.c (bc true))] [_] (by kernel_rfl) ⟨(nameX_ev h_x2), trivial⟩
  ·
   rw [← Option.some.inj h]
   exact mF 1 hmix [aC 32 (.c (bc false))] [_] (by kernel_rfl) ⟨(nameX_ev h_x2), trivial⟩
theorem ok23 : ∀ k s r, itS step23 k s = some r → P23 s r := itS_ok fun k rec ih s r h => match s, h with
 | .e b0_0 b0_1, h => t23_e_ok k rec ih b0_0 b0_1 r h
 | .h0 w3 at4 t24 loc2_0 loc2_1 loc2_2 loc2_3 loc2_4 par0_0 par0_1, h => t23_h0_ok k rec ih w3 at4 t24 loc2_0 loc2_1 loc2_2 loc2_3 loc2_4 par0_0 par0_1 r h
theorem ev23 {k : Nat} {b0_0 : ByteArray} {b0_1 : Int} {r : R23} (h : g23 k b0_0 b0_1 = some r) : Ev Tryd.prog noHand 23 [.c (.ptr ⟨⟨.par 0, []⟩, 0, 0⟩)] [[sc b0_0, ic b0_1]] (res23 r) (bx23 b0_0 r) := evr23 (ok23 _ _ _ h)
inductive S38 where
 | e (from1 : Int) (b0_0 : ByteArray) (b0_1 : Int)
 | h0 (from1 : Int) (to5 : Int) (par0_0 : ByteArray) (par0_1 : Int)
 | h1 (from1 : Int) (to5 : Int) (t22 : Bool) (par0_0 : ByteArray) (par0_1 : Int)
abbrev R38 := ByteArray
def res38 : R38 → ARes
 | r => .ret (.c (sc r))
def bx38 (b0_0 : ByteArray) (b0_1 : Int) : R38 → List (List Cell)
 | r => [[sc b0_0, ic b0_1]]
noncomputable def t38_e (k : Nat) (rec : S38 → Option R38) (from1 : Int) (b0_0 : ByteArray) (b0_1 : Int) : Option R38 :=
 rec (.h0 from1 from1 b0_0 b0_1)
noncomputable def t38_h0 (k : Nat) (rec : S38 → Option R38) (from1 : Int) (to5 : Int) (par0_0 : ByteArray) (par0_1 : Int) : Option R38 :=
 bif decide (to5 < (par0_0.size : Int)) then
  sxI par0_0 to5 fun c_x2 =>
  (g24 k c_x2).bind fun v_x4 =>
  rec (.h1 from1 to5 v_x4 par0_0 par0_1)
 else
  rec (.h1 from1 to5 false par0_0 par0_1)
noncomputable def t38_h1 (k : Nat) (rec : S38 → Option R38) (from1 : Int) (to5 : Int) (t22 : Bool) (par0_0 : ByteArray) (par0_1 : Int) : Option R38 :=
 bif t22 then
  rec (.h0 from1 (IntKind.i64.wrap (to5 + 1)) par0_0 par0_1)
 else
  gd (decide (0 ≤ from1 ∧ from1 ≤ to5 ∧ to5 ≤ (par0_0.size : Int))) <|
  some (par0_0.extract (Int.toNat from1) (Int.toNat to5))
noncomputable def step38 (k : Nat) (rec : S38 → Option R38) : S38 → Option R38
 | .e from1 b0_0 b0_1 => t38_e k rec from1 b0_0 b0_1
 | .h0 from1 to5 par0_0 par0_1 => t38_h0 k rec from1 to5 par0_0 par0_1
 | .h1 from1 to5 t22 par0_0 par0_1 => t38_h1 k rec from1 to5 t22 par0_0 par0_1
noncomputable def g38 (k : Nat) (from1 : Int) (b0_0 : ByteArray) (b0_1 : Int) : Option R38 := itS step38 k (.e from1 b0_0 b0_1)
noncomputable def P38 : S38 → R38 → Prop
 | .e from1 b0_0 b0_1, r => Fin cx38 Tryd.f38 [.code body38] (fr0 Tryd.f38 [.c (.ptr ⟨⟨.par 0, []⟩, 0, 0⟩), .c (ic from1)] [[sc b0_0, ic b0_1]]) (res38 r) (bx38 b0_0 b0_1 r)
 | .h0 from1 to5 par0_0 par0_1, r => Fin cx38 Tryd.f38 (kAt body38 [1, 1, 0, 0, 4] []) ⟨[.c (.ptr ⟨⟨.par 0, []⟩, 0, 0⟩), .c (ic from1)] ++ rep 3 .deadv ++ [.c (ic to5)] ++ rep 26 .deadv, [(.par 0, [sc par0_0, ic par0_1])]⟩ (res38 r) (bx38 par0_0 par0_1 r)
 | .h1 from1 to5 t22 par0_0 par0_1, r => Fin cx38 Tryd.f38 (kAt body38 [1, 1, 0, 0, 0, 0, 1, 2] []) ⟨[.c (.ptr ⟨⟨.par 0, []⟩, 0, 0⟩), .c (ic from1)] ++ rep 3 .deadv ++ [.c (ic to5)] ++ rep 16 .deadv ++ [.c (bc t22)] ++ rep 9 .deadv, [(.par 0, [sc par0_0, ic par0_1])]⟩ (res38 r) (bx38 par0_0 par0_1 r)
theorem evr38 {from1 : Int} {b0_0 : ByteArray} {b0_1 : Int} {r : R38} (h : P38 (.e from1 b0_0 b0_1) r) : Ev Tryd.prog noHand 38 [.c (.ptr ⟨⟨.par 0, []⟩, 0, 0⟩), .c (ic from1)] [[sc b0_0, ic b0_1]] (res38 r) (bx38 b0_0 b0_1 r) := ev_of_fin (fn := Tryd.f38) (body := body38) (by kernel_rfl) (by kernel_rfl) (by kernel_rfl) rfl h
theorem t38_e_ok (k : Nat) (rec : S38 → Option R38) (ih : ∀ s r, rec s = some r → P38 s r) (from1 : Int) (b0_0 : ByteArray) (b0_1 : Int) (r : R38) (h : t38_e k rec from1 b0_0 b0_1 = some r) : P38 (.e from1 b0_0 b0_1) r := by
 unfold t38_e at h
 exact mA 1 hmix (ih _ _ h) 7 [] [] (bm 32 4294967260) (by kernel_rfl) trivial
theorem t38_h0_ok (k : Nat) (rec : S38 → Option R38) (ih : ∀ s r, rec s = some r → P38 s r) (from1 : Int) (to5 : Int) (par0_0 : ByteArray) (par0_1 : Int) (r : R38) (h : t38_h0 k rec from1 to5 par0_0 par0_1 = some r) : P38 (.h0 from1 to5 par0_0 par0_1) r := by
 unfold t38_h0 at h
 rcases bif_or h with ⟨h_x1, h⟩ | ⟨h_x1, h⟩
 ·
  obtain ⟨c_x2, h_x3, h⟩ := sxI_or h
  obtain ⟨v_x4, h_x5, h⟩ := bd_or h
  exact mA 1 hmix (ih _ _ h) 4 [aT 13, (some 20, .sidx c_x2), aC 21 (.c (bc v_x4))] [_, _, _] (bm 32 4290772956) (by kernel_rfl) ⟨h_x1, h_x3, (ev24 h_x5), trivial⟩
 ·
  exact mA 1 hmix (ih _ _ h) 4 [aF 13] [_] (bm 32 4290772956) (by kernel_rfl) ⟨h_x1, trivial⟩
theorem t38_h1_ok (k : Nat) (rec : S38 → Option R38) (ih : ∀ s r, rec s = some r → P38 s r) (from1 : Int) (to5 : Int) (t22 : Bool) (par0_0 : ByteArray) (par0_1 : Int) (r : R38) (h : t38_h1 k rec from1 to5 t22 par0_0 par0_1 = some r) : P38 (.h1 from1 to5 t22 par0_0 par0_1) r := by
 unfold t38_h1 at h
 replace h := bif_or h; rcases h with ⟨rfl, h⟩ | ⟨rfl, h⟩
 ·
  exact mA 1 hmix (ih _ _ h) 5 [] [] (bm 32 4294967260) (by kernel_rfl) trivial
 ·
  obtain ⟨h_x1, h⟩ := gd_or h
  rw [← Option.some.inj h]
  exact mF 1 hmix [aS 31] [_] (by kernel_rfl) ⟨of_decide_eq_true h_x1, trivial⟩
theorem ok38 : ∀ k s r, itS step38 k s = some r → P38 s r := itS_ok fun k rec ih s r h => match s, h with
 | .e from1 b0_0 b0_1, h => t38_e_ok k rec ih from1 b0_0 b0_1 r h
 | .h0 from1 to5 par0_0 par0_1, h => t38_h0_ok k rec ih from1 to5 par0_0 par0_1 r h
 | .h1 from1 to5 t22 par0_0 par0_1, h => t38_h1_ok k rec ih from1 to5 t22 par0_0 par0_1 r h
theorem ev38 {k : Nat} {from1 : Int} {b0_0 : ByteArray} {b0_1 : Int} {r : R38} (h : g38 k from1 b0_0 b0_1 = some r) : Ev Tryd.prog noHand 38 [.c (.ptr ⟨⟨.par 0, []⟩, 0, 0⟩), .c (ic from1)] [[sc b0_0, ic b0_1]] (res38 r) (bx38 b0_0 b0_1 r) := evr38 (ok38 _ _ _ h)
inductive S25 where
 | e (b0_0 : ByteArray) (b0_1 : Int)
 | h0 (at3 : Int) (d4 : ByteArray) (behind5 : ByteArray) (t47 : Bool) (loc2_0 : Int) (loc2_1 : ByteArray) (loc2_2 : Int) (loc2_3 : Int) (loc2_4 : Int) (par0_0 : ByteArray) (par0_1 : Int)
 | h1 (at3 : Int) (d4 : ByteArray) (behind5 : ByteArray) (loc2_0 : Int) (loc2_1 : ByteArray) (loc2_2 : Int) (loc2_3 : Int) (loc2_4 : Int) (par0_0 : ByteArray) (par0_1 : Int)
 | h2 (at3 : Int) (d4 : ByteArray) (behind5 : ByteArray) (t62 : Bool) (loc2_0 : Int) (loc2_1 : ByteArray) (loc2_2 : Int) (loc2_3 : Int) (loc2_4 : Int) (par0_0 : ByteArray) (par0_1 : Int)
abbrev R25 := (Int × Int) ⊕ (Int × ByteArray × Int × Int × Int × Int)
def res25 : R25 → ARes
 | (.inl (r_i00, r_b0_1)) => .panic (.iface 43 (.agg #[.int .i64 r_i00]))
 | (.inr (r_0, r_1, r_2, r_3, r_4, r_b0_1)) => .ret (.ag [ic r_0, sc r_1, ic r_2, ic r_3, ic r_4])
def bx25 (b0_0 : ByteArray) : R25 → List (List Cell)
 | (.inl (r_i00, r_b0_1)) => [[sc b0_0, ic r_b0_1]]
 | (.inr (r_0, r_1, r_2, r_3, r_4, r_b0_1)) => [[sc b0_0, ic r_b0_1]]
noncomputable def t25_e (k : Nat) (rec : S25 → Option R25) (b0_0 : ByteArray) (b0_1 : Int) : Option R25 :=
 (g38 k b0_1 b0_0 b0_1).bind fun v_x1 =>
 bif decide ((IntKind.i64.wrap (b0_1 + (v_x1.size : Int))) < (b0_0.size : Int)) then
  sxI b0_0 (IntKind.i64.wrap (b0_1 + (v_x1.size : Int))) fun c_x4 =>
  rec (.h0 b0_1 v_x1 (strB []) (c_x4 == 46) 0 (strB []) 0 0 0 b0_0 (IntKind.i64.wrap (b0_1 + (v_x1.size : Int))))
 else
  rec (.h0 b0_1 v_x1 (strB []) false 0 (strB []) 0 0 0 b0_0 (IntKind.i64.wrap (b0_1 + (v_x1.size : Int))))
noncomputable def t25_h0 (k : Nat) (rec : S25 → Option R25) (at3 : Int) (d4 : ByteArray) (behind5 : ByteArray) (t47 : Bool) (loc2_0 : Int) (loc2_1 : ByteArray) (loc2_2 : Int) (loc2_3 : Int) (loc2_4 : Int) (par0_0 : ByteArray) (par0_1 : Int) : Option R25 :=
 bif t47 then
  (g38 k (IntKind.i64.wrap (par0_1 + 1)) par0_0 par0_1).bind fun v_x1 =>
  rec (.h1 at3 d4 v_x1 loc2_0 loc2_1 loc2_2 loc2_3 loc2_4 par0_0 par0_1)
 else
  rec (.h1 at3 d4 behind5 loc2_0 loc2_1 loc2_2 loc2_3 loc2_4 par0_0 par0_1)
noncomputable def t25_h1 (k : Nat) (rec : S25 → Option R25) (at3 : Int) (d4 : ByteArray) (behind5 : ByteArray) (loc2_0 : Int) (loc2_1 : ByteArray) (loc2_2 : Int) (loc2_3 : Int) (loc2_4 : Int) (par0_0 : ByteArray) (par0_1 : Int) : Option R25 :=
 bif decide ((d4.size : Int) > 1) then
  sxI d4 0 fun c_x2 =>
  rec (.h2 at3 d4 behind5 (c_x2 == 48) loc2_0 loc2_1 loc2_2 loc2_3 loc2_4 par0_0 par0_1)
 else
  rec (.h2 at3 d4 behind5 false loc2_0 loc2_1 loc2_2 loc2_3 loc2_4 par0_0 par0_1)
noncomputable def t25_h2 (k : Nat) (rec : S25 → Option R25) (at3 : Int) (d4 : ByteArray) (behind5 : ByteArray) (t62 : Bool) (loc2_0 : Int) (loc2_1 : ByteArray) (loc2_2 : Int) (loc2_3 : Int) (loc2_4 : Int) (par0_0 : ByteArray) (par0_1 : Int) : Option R25 :=
 bif t62 then
  some (.inl (at3, par0_1))
 else
  bif behind5.toList == (strB []).toList then
   (parseR d4).bind fun v_x2 =>
   optC v_x2 (
     some (.inl (at3, par0_1))) fun v_x4 =>
    some (.inr (3, strB [], v_x4, 0, at3, par0_1))
  else
   bif decide ((IntKind.i64.wrap ((d4.size : Int) + (behind5.size : Int))) > 15) then
    some (.inl (at3, par0_1))
   else
    gd (decide (d4.size + behind5.size ≤ 1000000000)) <|
    (parseR (d4 ++ behind5)).bind fun v_x4 =>
    optC v_x4 (
      none   /- a result that hangs on what is not told -/) fun v_x6 =>
     some (.inr (4, strB [], v_x6, (behind5.size : Int), at3, IntKind.i64.wrap (par0_1 + (IntKind.i64.wrap ((1 : Int) + (behind5.size : Int))))))
noncomputable def step25 (k : Nat) (rec : S25 → Option R25) : S25 → Option R25
 | .e b0_0 b0_1 => t25_e k rec b0_0 b0_1
 | .h0 at3 d4 behind5 t47 loc2_0 loc2_1 loc2_2 loc2_3 loc2_4 par0_0 par0_1 => t25_h0 k rec at3 d4 behind5 t47 loc2_0 loc2_1 loc2_2 loc2_3 loc2_4 par0_0 par0_1
 | .h1 at3 d4 behind5 loc2_0 loc2_1 loc2_2 loc2_3 loc2_4 par0_0 par0_1 => t25_h1 k rec at3 d4 behind5 loc2_0 loc2_1 loc2_2 loc2_3 loc2_4 par0_0 par0_1
 | .h2 at3 d4 behind5 t62 loc2_0 loc2_1 loc2_2 loc2_3 loc2_4 par0_0 par0_1 => t25_h2 k rec at3 d4 behind5 t62 loc2_0 loc2_1 loc2_2 loc2_3 loc2_4 par0_0 par0_1
noncomputable def g25 (k : Nat) (b0_0 : ByteArray) (b0_1 : Int) : Option R25 := itS step25 k (.e b0_0 b0_1)
noncomputable def P25 : S25 → R25 → Prop
 | .e b0_0 b0_1, r => Fin cx25 Tryd.f25 [.code body25] (fr0 Tryd.f25 [.c (.ptr ⟨⟨.par 0, []⟩, 0, 0⟩)] [[sc b0_0, ic b0_1]]) (res25 r) (bx25 b0_0 r)
 | .h0 at3 d4 behind5 t47 loc2_0 loc2_1 loc2_2 loc2_3 loc2_4 par0_0 par0_1, r => Fin cx25 Tryd.f25 (kAt body25 [1, 1, 1, 1, 1, 0, 1, 2] []) ⟨[.c (.ptr ⟨⟨.par 0, []⟩, 0, 0⟩), .deadv, .c (.ptr ⟨⟨.loc 2, []⟩, 0, 0⟩), .c (ic at3), .c (sc d4), .c (sc behind5)] ++ rep 41 .deadv ++ [.c (bc t47)] ++ rep 64 .deadv, [(.loc 2, [ic loc2_0, sc loc2_1, ic loc2_2, ic loc2_3, ic loc2_4]), (.par 0, [sc par0_0, ic par0_1])]⟩ (res25 r) (bx25 par0_0 r)
 | .h1 at3 d4 behind5 loc2_0 loc2_1 loc2_2 loc2_3 loc2_4 par0_0 par0_1, r => Fin cx25 Tryd.f25 (kAt body25 [1, 1, 1, 1, 1, 1, 2] []) ⟨[.c (.ptr ⟨⟨.par 0, []⟩, 0, 0⟩), .deadv, .c (.ptr ⟨⟨.loc 2, []⟩, 0, 0⟩), .c (ic at3), .c (sc d4), .c (sc behind5)] ++ rep 106 .deadv, [(.loc 2, [ic loc2_0, sc loc2_1, ic loc2_2, ic loc2_3, ic loc2_4]), (.par 0, [sc par0_0, ic par0_1])]⟩ (res25 r) (bx25 par0_0 r)
 | .h2 at3 d4 behind5 t62 loc2_0 loc2_1 loc2_2 loc2_3 loc2_4 par0_0 par0_1, r => Fin cx25 Tryd.f25 (kAt body25 [1, 1, 1, 1, 1, 1, 0, 1, 2] []) ⟨[.c (.ptr ⟨⟨.par 0, []⟩, 0, 0⟩), .deadv, .c (.ptr ⟨⟨.loc 2, []⟩, 0, 0⟩), .c (ic at3), .c (sc d4), .c (sc behind5)] ++ rep 56 .deadv ++ [.c (bc t62)] ++ rep 49 .deadv, [(.loc 2, [ic loc2_0, sc loc2_1, ic loc2_2, ic loc2_3, ic loc2_4]), (.par 0, [sc par0_0, ic par0_1])]⟩ (res25 r) (bx25 par0_0 r)
theorem evr25 {b0_0 : ByteArray} {b0_1 : Int} {r : R25} (h : P25 (.e b0_0 b0_1) r) : Ev Tryd.prog noHand 25 [.c (.ptr ⟨⟨.par 0, []⟩, 0, 0⟩)] [[sc b0_0, ic b0_1]] (res25 r) (bx25 b0_0 r) := ev_of_fin (fn := Tryd.f25) (body := body25) (by kernel_rfl) (by kernel_rfl) (by kernel_rfl) rfl h
theorem t25_e_ok (k : Nat) (rec : S25 → Option R25) (ih : ∀ s r, rec s = some r → P25 s r) (b0_0 : ByteArray) (b0_1 : Int) (r : R25) (h : t25_e k rec b0_0 b0_1 = some r) : P25 (.e b0_0 b0_1) r := by
 unfold t25_e at h
 obtain ⟨v_x1, h_x2, h⟩ := bd_or h
 rcases bif_or h with ⟨h_x3, h⟩ | ⟨h_x3, h⟩
 ·
  obtain ⟨c_x4, h_x5, h⟩ := sxI_or h
  exact mA 1 hmix (ih _ _ h) 13 [(some 16, .call (.ret (.c (sc v_x1))) [[sc b0_0, ic b0_1]] false), aT 35, (some 45, .sidx c_x4)] [_, _, _] (bm 112 5192296858534827628389758840864706) (by kernel_rfl) ⟨(ev38 h_x2), h_x3, h_x5, trivial⟩
 ·
  exact mA 1 hmix (ih _ _ h) 13 [(some 16, .call (.ret (.c (sc v_x1))) [[sc b0_0, ic b0_1]] false), aF 35] [_, _] (bm 112 5192296858534827628389758840864706) (by kernel_rfl) ⟨(ev38 h_x2), h_x3, trivial⟩
theorem t25_h0_ok (k : Nat) (rec : S25 → Option R25) (ih : ∀ s r, rec s = some r → P25 s r) (at3 : Int) (d4 : ByteArray) (behind5 : ByteArray) (t47 : Bool) (loc2_0 : Int) (loc2_1 : ByteArray) (loc2_2 : Int) (loc2_3 : Int) (loc2_4 : Int) (par0_0 : ByteArray) (par0_1 : Int) (r : R25) (h : t25_h0 k rec at3 d4 behind5 t47 loc2_0 loc2_1 loc2_2 loc2_3 loc2_4 par0_0 par0_1 = some r) : P25 (.h0 at3 d4 behind5 t47 loc2_0 loc2_1 loc2_2 loc2_3 loc2_4 par0_0 par0_1) r := by
 unfold t25_h0 at h
 replace h := bif_or h; rcases h with ⟨rfl, h⟩ | ⟨rfl, h⟩
 ·
  obtain ⟨v_x1, h_x2, h⟩ := bd_or h
  exact mA 1 hmix (ih _ _ h) 2 [(some 54, .call (.ret (.c (sc v_x1))) [[sc par0_0, ic par0_1]] false)] [_] (bm 112 5192296858534827628530496329220034) (by kernel_rfl) ⟨(ev38 h_x2), trivial⟩
 ·
  exact mA 1 hmix (ih _ _ h) 2 [] [] (bm 112 5192296858534827628530496329220034) (by kernel_rfl) trivial
theorem t25_h1_ok (k : Nat) (rec : S25 → Option R25) (ih : ∀ s r, rec s = some r → P25 s r) (at3 : Int) (d4 : ByteArray) (behind5 : ByteArray) (loc2_0 : Int) (loc2_1 : ByteArray) (loc2_2 : Int) (loc2_3 : Int) (loc2_4 : Int) (par0_0 : ByteArray) (par0_1 : Int) (r : R25) (h : t25_h1 k rec at3 d4 behind5 loc2_0 loc2_1 loc2_2 loc2_3 loc2_4 par0_0 par0_1 = some r) : P25 (.h1 at3 d4 behind5 loc2_0 loc2_1 loc2_2 loc2_3 loc2_4 par0_0 par0_1) r := by
 unfold t25_h1 at h
 rcases bif_or h with ⟨h_x1, h⟩ | ⟨h_x1, h⟩
 ·
  obtain ⟨c_x2, h_x3, h⟩ := sxI_or h
  exact mA 1 hmix (ih _ _ h) 3 [aT 57, (some 60, .sidx c_x2)] [_, _] (bm 112 5192296858534823016844477901832130) (by kernel_rfl) ⟨h_x1, h_x3, trivial⟩
 ·
  exact mA 1 hmix (ih _ _ h) 3 [aF 57] [_] (bm 112 5192296858534823016844477901832130) (by kernel_rfl) ⟨h_x1, trivial⟩
theorem t25_h2_ok (k : Nat) (rec : S25 → Option R25) (ih : ∀ s r, rec s = some r → P25 s r) (at3 : Int) (d4 : ByteArray) (behind5 : ByteArray) (t62 : Bool) (loc2_0 : Int) (loc2_1 : ByteArray) (loc2_2 : Int) (loc2_3 : Int) (loc2_4 : Int) (par0_0 : ByteArray) (par0_1 : Int) (r : R25) (h : t25_h2 k rec at3 d4 behind5 t62 loc2_0 loc2_1 loc2_2 loc2_3 loc2_4 par0_0 par0_1 = some r) : P25 (.h2 at3 d4 behind5 t62 loc2_0 loc2_1 loc2_2 loc2_3 loc2_4 par0_0 par0_1) r := by
 unfold t25_h2 at h
 replace h := bif_or h; rcases h with ⟨rfl, h⟩ | ⟨rfl, h⟩
 ·
  rw [← Option.some.inj h]
  exact mF 1 hmix [] [] (by kernel_rfl) trivial
 ·
  rcases bif_or h with ⟨h_x1, h⟩ | ⟨h_x1, h⟩
  ·
   obtain ⟨v_x2, h_x3, h⟩ := bd_or h
   replace h := optC_or h; rcases h with ⟨v_x4, rfl, h⟩ | ⟨rfl, h⟩
   ·
    rw [← Option.some.inj h]
    exact mF 1 hmix [aT 67, aC 70 ⟨.tup [false, false], [[ic v_x4], [.val .nilIface]]⟩] [_, _] (by kernel_rfl) ⟨h_x1, (parseR_ev h_x3), trivial⟩
   ·
    rw [← Option.some.inj h]
    exact mA 1 hmix (errK_fin (parseRE_ev h_x3) (K0 := (kAt body25 [1, 1, 1, 1, 1, 1, 1, 0, 1, 0, 0, 2] [])) (F := ⟨[.c (.ptr ⟨⟨.par 0, []⟩, 0, 0⟩), .deadv, .c (.ptr ⟨⟨.loc 2, []⟩, 0, 0⟩), .c (ic at3), .c (sc d4), .c (sc behind5)] ++ rep 56 .deadv ++ [.c (bc false)] ++ rep 3 .deadv ++ [.c (sc behind5), .c (bc true)] ++ rep 44 .deadv, [(.loc 2, [ic loc2_0, sc loc2_1, ic loc2_2, ic loc2_3, ic loc2_4]), (.par 0, [sc par0_0, ic par0_1])]⟩) (K1 := (kAt body25 [1, 1, 1, 1, 1, 1, 1, 0, 1, 0, 0, 3] [])) (F3 := fun xe1 => ⟨[.c (.ptr ⟨⟨.par 0, []⟩, 0, 0⟩), .deadv, .c (.ptr ⟨⟨.loc 2, []⟩, 0, 0⟩), .c (ic at3), .c (sc d4), .c (sc behind5), .c (ic xe1.1), .c (.val (.iface 80 (.pointer (some ⟨xe1.2, 0, none⟩))))] ++ rep 54 .deadv ++ [.c (bc false)] ++ rep 3 .deadv ++ [.c (sc behind5), .c (bc true), ⟨.tup [false, false], [[ic xe1.1], [.val (.iface 80 (.pointer (some ⟨xe1.2, 0, none⟩)))]]⟩, .c (sc d4), ⟨.tup [false, false], [[ic xe1.1], [.val (.iface 80 (.pointer (some ⟨xe1.2, 0, none⟩)))]]⟩, .c (ic xe1.1), .c (.val (.iface 80 (.pointer (some ⟨xe1.2, 0, none⟩))))] ++ rep 39 .deadv, [(.loc 2, [ic loc2_0, sc loc2_1, ic loc2_2, ic loc2_3, ic loc2_4]), (.par 0, [sc par0_0, ic par0_1])]⟩) (j := 1) (ad1 := []) (ad2 := fun xe1 => []) (ps := fun xe1 => [isX 39 [.c (sc d4), .c (ic 10), .c (ic 64)] (errAV xe1) 39 [.c (sc d4), .c (ic 10), .c (ic 64)] [] (.ret (errAV xe1)) []]) (thaw := true) ((0, 0)) (fun xe1 => mgo_fin (nb := 1) hmix (n := 2000) (ad := []) (ps := []) (by kernel_rfl) trivial) (fun xe1 => by kernel_rfl) (fun xe1 => ⟨⟨rfl, rfl, rfl, rfl, rfl⟩, trivial⟩)) 7 [aT 67] [_] (bm 112 0) (by kernel_rfl) ⟨h_x1, trivial⟩
  ·
   rcases bif_or h with ⟨h_x2, h⟩ | ⟨h_x2, h⟩
   ·
    rw [← Option.some.inj h]
    exact mF 1 hmix [aF 67, aT 86] [_, _] (by kernel_rfl) ⟨h_x1, h_x2, trivial⟩
   ·
    obtain ⟨h_x3, h⟩ := gd_or h
    obtain ⟨v_x4, h_x5, h⟩ := bd_or h
    replace h := optC_or h; rcases h with ⟨v_x6, rfl, h⟩ | ⟨rfl, h⟩
    ·
     rw [← Option.some.inj h]
     exact mF 1 hmix [aF 67, aF 86, (some 103, .scat), aC 104 ⟨.tup [false, false], [[ic v_x6], [.val .nilIface]]⟩] [_, _, _, _] (by kernel_rfl) ⟨h_x1, h_x2, of_decide_eq_true h_x3, (parseR_ev h_x5), trivial⟩
    ·
     cases h
theorem ok25 : ∀ k s r, itS step25 k s = some r → P25 s r := itS_ok fun k rec ih s r h => match s, h with
 | .e b0_0 b0_1, h => t25_e_ok k rec ih b0_0 b0_1 r h
 | .h0 at3 d4 behind5 t47 loc2_0 loc2_1 loc2_2 loc2_3 loc2_4 par0_0 par0_1, h => t25_h0_ok k rec ih at3 d4 behind5 t47 loc2_0 loc2_1 loc2_2 loc2_3 loc2_4 par0_0 par0_1 r h
 | .h1 at3 d4 behind5 loc2_0 loc2_1 loc2_2 loc2_3 loc2_4 par0_0 par0_1, h => t25_h1_ok k rec ih at3 d4 behind5 loc2_0 loc2_1 loc2_2 loc2_3 loc2_4 par0_0 par0_1 r h
 | .h2 at3 d4 behind5 t62 loc2_0 loc2_1 loc2_2 loc2_3 loc2_4 par0_0 par0_1, h => t25_h2_ok k rec ih at3 d4 behind5 t62 loc2_0 loc2_1 loc2_2 loc2_3 loc2_4 par0_0 par0_1 r h
theorem ev25 {k : Nat} {b0_0 : ByteArray} {b0_1 : Int} {r : R25} (h : g25 k b0_0 b0_1 = some r) : Ev Tryd.prog noHand 25 [.c (.ptr ⟨⟨.par 0, []⟩, 0, 0⟩)] [[sc b0_0, ic b0_1]] (res25 r) (bx25 b0_0 r) := evr25 (ok25 _ _ _ h)
inductive S26 where
 | e (b0_0 : ByteArray) (b0_1 : Int)
 | h0 (at3 : Int) (w4 : ByteArray) (to5 : Int) (t39 : Bool) (loc2_0 : Int) (loc2_1 : ByteArray) (loc2_2 : Int) (loc2_3 : Int) (loc2_4 : Int) (par0_0 : ByteArray) (par0_1 : Int)
abbrev R26 := (Int × Int) ⊕ (Int × ByteArray × Int × Int × Int × Int)
def res26 : R26 → ARes
 | (.inl (r_i00, r_b0_1)) => .panic (.iface 43 (.agg #[.int .i64 r_i00]))
 | (.inr (r_0, r_1, r_2, r_3, r_4, r_b0_1)) => .ret (.ag [ic r_0, sc r_1, ic r_2, ic r_3, ic r_4])
def bx26 (b0_0 : ByteArray) : R26 → List (List Cell)
 | (.inl (r_i00, r_b0_1)) => [[sc b0_0, ic r_b0_1]]
 | (.inr (r_0, r_1, r_2, r_3, r_4, r_b0_1)) => [[sc b0_0, ic r_b0_1]]
noncomputable def t26_e (k : Nat) (rec : S26 → Option R26) (b0_0 : ByteArray) (b0_1 : Int) : Option R26 :=
 (g35 k (IntKind.i64.wrap (b0_1 + 1)) b0_0 b0_1).bind fun v_x1 =>
 (nameX v_x1).bind fun v_x3 =>
 bif !v_x3 then
  rec (.h0 b0_1 v_x1 (IntKind.i64.wrap ((IntKind.i64.wrap (b0_1 + 1)) + (v_x1.size : Int))) true 0 (strB []) 0 0 0 b0_0 b0_1)
 else
  bif (IntKind.i64.wrap ((IntKind.i64.wrap (b0_1 + 1)) + (v_x1.size : Int))) == (b0_0.size : Int) then
   rec (.h0 b0_1 v_x1 (IntKind.i64.wrap ((IntKind.i64.wrap (b0_1 + 1)) + (v_x1.size : Int))) true 0 (strB []) 0 0 0 b0_0 b0_1)
  else
   sxI b0_0 (IntKind.i64.wrap ((IntKind.i64.wrap (b0_1 + 1)) + (v_x1.size : Int))) fun c_x7 =>
   rec (.h0 b0_1 v_x1 (IntKind.i64.wrap ((IntKind.i64.wrap (b0_1 + 1)) + (v_x1.size : Int))) (c_x7 != 39) 0 (strB []) 0 0 0 b0_0 b0_1)
noncomputable def t26_h0 (k : Nat) (rec : S26 → Option R26) (at3 : Int) (w4 : ByteArray) (to5 : Int) (t39 : Bool) (loc2_0 : Int) (loc2_1 : ByteArray) (loc2_2 : Int) (loc2_3 : Int) (loc2_4 : Int) (par0_0 : ByteArray) (par0_1 : Int) : Option R26 :=
 bif t39 then
  some (.inl (at3, par0_1))
 else
  some (.inr (5, w4, 0, 0, at3, IntKind.i64.wrap (to5 + 1)))
noncomputable def step26 (k : Nat) (rec : S26 → Option R26) : S26 → Option R26
 | .e b0_0 b0_1 => t26_e k rec b0_0 b0_1
 | .h0 at3 w4 to5 t39 loc2_0 loc2_1 loc2_2 loc2_3 loc2_4 par0_0 par0_1 => t26_h0 k rec at3 w4 to5 t39 loc2_0 loc2_1 loc2_2 loc2_3 loc2_4 par0_0 par0_1
noncomputable def g26 (k : Nat) (b0_0 : ByteArray) (b0_1 : Int) : Option R26 := itS step26 k (.e b0_0 b0_1)
noncomputable def P26 : S26 → R26 → Prop
 | .e b0_0 b0_1, r => Fin cx26 Tryd.f26 [.code body26] (fr0 Tryd.f26 [.c (.ptr ⟨⟨.par 0, []⟩, 0, 0⟩)] [[sc b0_0, ic b0_1]]) (res26 r) (bx26 b0_0 r)
 | .h0 at3 w4 to5 t39 loc2_0 loc2_1 loc2_2 loc2_3 loc2_4 par0_0 par0_1, r => Fin cx26 Tryd.f26 (kAt body26 [1, 1, 1, 1, 0, 1, 2] []) ⟨[.c (.ptr ⟨⟨.par 0, []⟩, 0, 0⟩), .deadv, .c (.ptr ⟨⟨.loc 2, []⟩, 0, 0⟩), .c (ic at3), .c (sc w4), .c (ic to5)] ++ rep 33 .deadv ++ [.c (bc t39)] ++ rep 11 .deadv, [(.loc 2, [ic loc2_0, sc loc2_1, ic loc2_2, ic loc2_3, ic loc2_4]), (.par 0, [sc par0_0, ic par0_1])]⟩ (res26 r) (bx26 par0_0 r)
theorem evr26 {b0_0 : ByteArray} {b0_1 : Int} {r : R26} (h : P26 (.e b0_0 b0_1) r) : Ev Tryd.prog noHand 26 [.c (.ptr ⟨⟨.par 0, []⟩, 0, 0⟩)] [[sc b0_0, ic b0_1]] (res26 r) (bx26 b0_0 r) := ev_of_fin (fn := Tryd.f26) (body := body26) (by kernel_rfl) (by kernel_rfl) (by kernel_rfl) rfl h
theorem t26_e_ok (k : Nat) (rec : S26 → Option R26) (ih : ∀ s r, rec s = some r → P26 s r) (b0_0 : ByteArray) (b0_1 : Int) (r : R26) (h : t26_e k rec b0_0 b0_1 = some r) : P26 (.e b0_0 b0_1) r := by
 unfold t26_e at h
 obtain ⟨v_x1, h_x2, h⟩ := bd_or h
 obtain ⟨v_x3, h_x4, h⟩ := bd_or h
 rcases bif_or h with ⟨h_x5, h⟩ | ⟨h_x5, h⟩
 ·
  exact mA 1 hmix (ih _ _ h) 11 [(some 13, .call (.ret (.c (sc v_x1))) [[sc b0_0, ic b0_1]] false), aC 20 (.c (bc v_x3)), aT 21] [_, _, _] (bm 51 2251250057871298) (by kernel_rfl) ⟨(ev35 h_x2), (nameX_ev h_x4), h_x5, trivial⟩
 ·
  rcases bif_or h with ⟨h_x6, h⟩ | ⟨h_x6, h⟩
  ·
   exact mA 1 hmix (ih _ _ h) 11 [(some 13, .call (.ret (.c (sc v_x1))) [[sc b0_0, ic b0_1]] false), aC 20 (.c (bc v_x3)), aF 21, aT 29] [_, _, _, _] (bm 51 2251250057871298) (by kernel_rfl) ⟨(ev35 h_x2), (nameX_ev h_x4), h_x5, h_x6, trivial⟩
  ·
   obtain ⟨c_x7, h_x8, h⟩ := sxI_or h
   exact mA 1 hmix (ih _ _ h) 11 [(some 13, .call (.ret (.c (sc v_x1))) [[sc b0_0, ic b0_1]] false), aC 20 (.c (bc v_x3)), aF 21, aF 29, (some 37, .sidx c_x7)] [_, _, _, _, _] (bm 51 2251250057871298) (by kernel_rfl) ⟨(ev35 h_x2), (nameX_ev h_x4), h_x5, h_x6, h_x8, trivial⟩
theorem t26_h0_ok (k : Nat) (rec : S26 → Option R26) (ih : ∀ s r, rec s = some r → P26 s r) (at3 : Int) (w4 : ByteArray) (to5 : Int) (t39 : Bool) (loc2_0 : Int) (loc2_1 : ByteArray) (loc2_2 : Int) (loc2_3 : Int) (loc2_4 : Int) (par0_0 : ByteArray) (par0_1 : Int) (r : R26) (h : t26_h0 k rec at3 w4 to5 t39 loc2_0 loc2_1 loc2_2 loc2_3 loc2_4 par0_0 par0_1 = some r) : P26 (.h0 at3 w4 to5 t39 loc2_0 loc2_1 loc2_2 loc2_3 loc2_4 par0_0 par0_1) r := by
 unfold t26_h0 at h
 replace h := bif_or h; rcases h with ⟨rfl, h⟩ | ⟨rfl, h⟩
 ·
  rw [← Option.some.inj h]
  exact mF 1 hmix [] [] (by kernel_rfl) trivial
 ·
  rw [← Option.some.inj h]
  exact mF 1 hmix [] [] (by kernel_rfl) trivial
theorem ok26 : ∀ k s r, itS step26 k s = some r → P26 s r := itS_ok fun k rec ih s r h => match s, h with
 | .e b0_0 b0_1, h => t26_e_ok k rec ih b0_0 b0_1 r h
 | .h0 at3 w4 to5 t39 loc2_0 loc2_1 loc2_2 loc2_3 loc2_4 par0_0 par0_1, h => t26_h0_ok k rec ih at3 w4 to5 t39 loc2_0 loc2_1 loc2_2 loc2_3 loc2_4 par0_0 par0_1 r h
theorem ev26 {k : Nat} {b0_0 : ByteArray} {b0_1 : Int} {r : R26} (h : g26 k b0_0 b0_1 = some r) : Ev Tryd.prog noHand 26 [.c (.ptr ⟨⟨.par 0, []⟩, 0, 0⟩)] [[sc b0_0, ic b0_1]] (res26 r) (bx26 b0_0 r) := evr26 (ok26 _ _ _ h)
inductive S27 where
 | e (b0_0 : ByteArray) (b0_1 : Int)
 | h0 (at3 : Int) (n5 : Int) (t16 : Int) (t17 : Bool) (loc2_0 : Int) (loc2_1 : ByteArray) (loc2_2 : Int) (loc2_3 : Int) (loc2_4 : Int) (par0_0 : ByteArray) (par0_1 : Int)
 | h1 (at3 : Int) (n5 : Int) (t50 : Bool) (loc2_0 : Int) (loc2_1 : ByteArray) (loc2_2 : Int) (loc2_3 : Int) (loc2_4 : Int) (par0_0 : ByteArray) (par0_1 : Int)
 | h2 (at3 : Int) (n5 : Int) (t21 : Bool) (loc2_0 : Int) (loc2_1 : ByteArray) (loc2_2 : Int) (loc2_3 : Int) (loc2_4 : Int) (par0_0 : ByteArray) (par0_1 : Int)
 | h3 (at3 : Int) (n5 : Int) (loc2_0 : Int) (loc2_1 : ByteArray) (loc2_2 : Int) (loc2_3 : Int) (loc2_4 : Int) (par0_0 : ByteArray) (par0_1 : Int)
abbrev R27 := (Int × ByteArray × Int × Int × Int × Int) ⊕ (Int × Int)
def res27 : R27 → ARes
 | (.inl (r_0, r_1, r_2, r_3, r_4, r_b0_1)) => .ret (.ag [ic r_0, sc r_1, ic r_2, ic r_3, ic r_4])
 | (.inr (r_i00, r_b0_1)) => .panic (.iface 43 (.agg #[.int .i64 r_i00]))
def bx27 (b0_0 : ByteArray) : R27 → List (List Cell)
 | (.inl (r_0, r_1, r_2, r_3, r_4, r_b0_1)) => [[sc b0_0, ic r_b0_1]]
 | (.inr (r_i00, r_b0_1)) => [[sc b0_0, ic r_b0_1]]
noncomputable def t27_e (k : Nat) (rec : S27 → Option R27) (b0_0 : ByteArray) (b0_1 : Int) : Option R27 :=
 sxI b0_0 b0_1 fun c_x1 =>
 bif c_x1 == 33 then
  rec (.h0 b0_1 1 c_x1 true 0 (strB []) 0 0 0 b0_0 b0_1)
 else
  bif c_x1 == 60 then
   rec (.h0 b0_1 1 c_x1 true 0 (strB []) 0 0 0 b0_0 b0_1)
  else
   rec (.h0 b0_1 1 c_x1 (c_x1 == 62) 0 (strB []) 0 0 0 b0_0 b0_1)
noncomputable def t27_h0 (k : Nat) (rec : S27 → Option R27) (at3 : Int) (n5 : Int) (t16 : Int) (t17 : Bool) (loc2_0 : Int) (loc2_1 : ByteArray) (loc2_2 : Int) (loc2_3 : Int) (loc2_4 : Int) (par0_0 : ByteArray) (par0_1 : Int) : Option R27 :=
 bif t17 then
  bif decide ((IntKind.i64.wrap (at3 + 1)) < (par0_0.size : Int)) then
   sxI par0_0 (IntKind.i64.wrap (at3 + 1)) fun c_x2 =>
   rec (.h1 at3 n5 (c_x2 == 61) loc2_0 loc2_1 loc2_2 loc2_3 loc2_4 par0_0 par0_1)
  else
   rec (.h1 at3 n5 false loc2_0 loc2_1 loc2_2 loc2_3 loc2_4 par0_0 par0_1)
 else
  bif t16 == 40 then
   rec (.h2 at3 n5 true loc2_0 loc2_1 loc2_2 loc2_3 loc2_4 par0_0 par0_1)
  else
   bif t16 == 41 then
    rec (.h2 at3 n5 true loc2_0 loc2_1 loc2_2 loc2_3 loc2_4 par0_0 par0_1)
   else
    bif t16 == 44 then
     rec (.h2 at3 n5 true loc2_0 loc2_1 loc2_2 loc2_3 loc2_4 par0_0 par0_1)
    else
     bif t16 == 46 then
      rec (.h2 at3 n5 true loc2_0 loc2_1 loc2_2 loc2_3 loc2_4 par0_0 par0_1)
     else
      bif t16 == 43 then
       rec (.h2 at3 n5 true loc2_0 loc2_1 loc2_2 loc2_3 loc2_4 par0_0 par0_1)
      else
       bif t16 == 45 then
        rec (.h2 at3 n5 true loc2_0 loc2_1 loc2_2 loc2_3 loc2_4 par0_0 par0_1)
       else
        bif t16 == 42 then
         rec (.h2 at3 n5 true loc2_0 loc2_1 loc2_2 loc2_3 loc2_4 par0_0 par0_1)
        else
         bif t16 == 47 then
          rec (.h2 at3 n5 true loc2_0 loc2_1 loc2_2 loc2_3 loc2_4 par0_0 par0_1)
         else
          bif t16 == 37 then
           rec (.h2 at3 n5 true loc2_0 loc2_1 loc2_2 loc2_3 loc2_4 par0_0 par0_1)
          else
           bif t16 == 61 then
            rec (.h2 at3 n5 true loc2_0 loc2_1 loc2_2 loc2_3 loc2_4 par0_0 par0_1)
           else
            rec (.h2 at3 n5 (t16 == 124) loc2_0 loc2_1 loc2_2 loc2_3 loc2_4 par0_0 par0_1)
noncomputable def t27_h1 (k : Nat) (rec : S27 → Option R27) (at3 : Int) (n5 : Int) (t50 : Bool) (loc2_0 : Int) (loc2_1 : ByteArray) (loc2_2 : Int) (loc2_3 : Int) (loc2_4 : Int) (par0_0 : ByteArray) (par0_1 : Int) : Option R27 :=
 bif t50 then
  rec (.h3 at3 2 loc2_0 loc2_1 loc2_2 loc2_3 loc2_4 par0_0 par0_1)
 else
  rec (.h3 at3 n5 loc2_0 loc2_1 loc2_2 loc2_3 loc2_4 par0_0 par0_1)
noncomputable def t27_h2 (k : Nat) (rec : S27 → Option R27) (at3 : Int) (n5 : Int) (t21 : Bool) (loc2_0 : Int) (loc2_1 : ByteArray) (loc2_2 : Int) (loc2_3 : Int) (loc2_4 : Int) (par0_0 : ByteArray) (par0_1 : Int) : Option R27 :=
 bif t21 then
  rec (.h3 at3 n5 loc2_0 loc2_1 loc2_2 loc2_3 loc2_4 par0_0 par0_1)
 else
  some (.inr (at3, par0_1))
noncomputable def t27_h3 (k : Nat) (rec : S27 → Option R27) (at3 : Int) (n5 : Int) (loc2_0 : Int) (loc2_1 : ByteArray) (loc2_2 : Int) (loc2_3 : Int) (loc2_4 : Int) (par0_0 : ByteArray) (par0_1 : Int) : Option R27 :=
 gd (decide (0 ≤ at3 ∧ at3 ≤ (IntKind.i64.wrap (par0_1 + n5)) ∧ (IntKind.i64.wrap (par0_1 + n5)) ≤ (par0_0.size : Int))) <|
 some (.inl (6, (par0_0.extract (Int.toNat at3) (Int.toNat (IntKind.i64.wrap (par0_1 + n5)))), 0, 0, at3, IntKind.i64.wrap (par0_1 + n5)))
noncomputable def step27 (k : Nat) (rec : S27 → Option R27) : S27 → Option R27
 | .e b0_0 b0_1 => t27_e k rec b0_0 b0_1
 | .h0 at3 n5 t16 t17 loc2_0 loc2_1 loc2_2 loc2_3 loc2_4 par0_0 par0_1 => t27_h0 k rec at3 n5 t16 t17 loc2_0 loc2_1 loc2_2 loc2_3 loc2_4 par0_0 par0_1
 | .h1 at3 n5 t50 loc2_0 loc2_1 loc2_2 loc2_3 loc2_4 par0_0 par0_1 => t27_h1 k rec at3 n5 t50 loc2_0 loc2_1 loc2_2 loc2_3 loc2_4 par0_0 par0_1
 | .h2 at3 n5 t21 loc2_0 loc2_1 loc2_2 loc2_3 loc2_4 par0_0 par0_1 => t27_h2 k rec at3 n5 t21 loc2_0 loc2_1 loc2_2 loc2_3 loc2_4 par0_0 par0_1
 | .h3 at3 n5 loc2_0 loc2_1 loc2_2 loc2_3 loc2_4 par0_0 par0_1 => t27_h3 k rec at3 n5 loc2_0 loc2_1 loc2_2 loc2_3 loc2_4 par0_0 par0_1
noncomputable def g27 (k : Nat) (b0_0 : ByteArray) (b0_1 : Int) : Option R27 := itS step27 k (.e b0_0 b0_1)
noncomputable def P27 : S27 → R27 → Prop
 | .e b0_0 b0_1, r => Fin cx27 Tryd.f27 [.code body27] (fr0 Tryd.f27 [.c (.ptr ⟨⟨.par 0, []⟩, 0, 0⟩)] [[sc b0_0, ic b0_1]]) (res27 r) (bx27 b0_0 r)
 | .h0 at3 n5 t16 t17 loc2_0 loc2_1 loc2_2 loc2_3 loc2_4 par0_0 par0_1, r => Fin cx27 Tryd.f27 (kAt body27 [1, 1, 1, 1, 0, 1, 0, 0, 0, 0, 0, 0, 0, 1, 2] []) ⟨[.c (.ptr ⟨⟨.par 0, []⟩, 0, 0⟩), .deadv, .c (.ptr ⟨⟨.loc 2, []⟩, 0, 0⟩), .c (ic at3), .deadv, .c (ic n5)] ++ rep 10 .deadv ++ [.c (.val (.int .u8 t16)), .c (bc t17)] ++ rep 56 .deadv, [(.loc 2, [ic loc2_0, sc loc2_1, ic loc2_2, ic loc2_3, ic loc2_4]), (.par 0, [sc par0_0, ic par0_1])]⟩ (res27 r) (bx27 par0_0 r)
 | .h1 at3 n5 t50 loc2_0 loc2_1 loc2_2 loc2_3 loc2_4 par0_0 par0_1, r => Fin cx27 Tryd.f27 (kAt body27 [1, 1, 1, 1, 0, 1, 0, 0, 0, 1, 1, 2] []) ⟨[.c (.ptr ⟨⟨.par 0, []⟩, 0, 0⟩), .deadv, .c (.ptr ⟨⟨.loc 2, []⟩, 0, 0⟩), .c (ic at3), .deadv, .c (ic n5)] ++ rep 44 .deadv ++ [.c (bc t50)] ++ rep 23 .deadv, [(.loc 2, [ic loc2_0, sc loc2_1, ic loc2_2, ic loc2_3, ic loc2_4]), (.par 0, [sc par0_0, ic par0_1])]⟩ (res27 r) (bx27 par0_0 r)
 | .h2 at3 n5 t21 loc2_0 loc2_1 loc2_2 loc2_3 loc2_4 par0_0 par0_1, r => Fin cx27 Tryd.f27 (kAt body27 [1, 1, 1, 1, 0, 1, 0, 0, 0, 0, 0, 0, 1, 1, 2] []) ⟨[.c (.ptr ⟨⟨.par 0, []⟩, 0, 0⟩), .deadv, .c (.ptr ⟨⟨.loc 2, []⟩, 0, 0⟩), .c (ic at3), .deadv, .c (ic n5)] ++ rep 15 .deadv ++ [.c (bc t21)] ++ rep 52 .deadv, [(.loc 2, [ic loc2_0, sc loc2_1, ic loc2_2, ic loc2_3, ic loc2_4]), (.par 0, [sc par0_0, ic par0_1])]⟩ (res27 r) (bx27 par0_0 r)
 | .h3 at3 n5 loc2_0 loc2_1 loc2_2 loc2_3 loc2_4 par0_0 par0_1, r => Fin cx27 Tryd.f27 (kAt body27 [1, 1, 1, 1, 0, 1, 0, 1, 2] []) ⟨[.c (.ptr ⟨⟨.par 0, []⟩, 0, 0⟩), .deadv, .c (.ptr ⟨⟨.loc 2, []⟩, 0, 0⟩), .c (ic at3), .deadv, .c (ic n5)] ++ rep 68 .deadv, [(.loc 2, [ic loc2_0, sc loc2_1, ic loc2_2, ic loc2_3, ic loc2_4]), (.par 0, [sc par0_0, ic par0_1])]⟩ (res27 r) (bx27 par0_0 r)
theorem evr27 {b0_0 : ByteArray} {b0_1 : Int} {r : R27} (h : P27 (.e b0_0 b0_1) r) : Ev Tryd.prog noHand 27 [.c (.ptr ⟨⟨.par 0, []⟩, 0, 0⟩)] [[sc b0_0, ic b0_1]] (res27 r) (bx27 b0_0 r) := ev_of_fin (fn := Tryd.f27) (body := body27) (by kernel_rfl) (by kernel_rfl) (by kernel_rfl) rfl h
theorem t27_e_ok (k : Nat) (rec : S27 → Option R27) (ih : ∀ s r, rec s = some r → P27 s r) (b0_0 : ByteArray) (b0_1 : Int) (r : R27) (h : t27_e k rec b0_0 b0_1 = some r) : P27 (.e b0_0 b0_1) r := by
 unfold t27_e at h
 obtain ⟨c_x1, h_x2, h⟩ := sxI_or h
 rcases bif_or h with ⟨h_x3, h⟩ | ⟨h_x3, h⟩
 ·
  exact mA 1 hmix (ih _ _ h) 23 [(some 15, .sidx c_x1), aT 18] [_, _] (bm 74 18889465931478580658130) (by kernel_rfl) ⟨h_x2, h_x3, trivial⟩
 ·
  rcases bif_or h with ⟨h_x4, h⟩ | ⟨h_x4, h⟩
  ·
   exact mA 1 hmix (ih _ _ h) 26 [(some 15, .sidx c_x1), aF 18, aT 19] [_, _, _] (bm 74 18889465931478580658130) (by kernel_rfl) ⟨h_x2, h_x3, h_x4, trivial⟩
  ·
   exact mA 1 hmix (ih _ _ h) 26 [(some 15, .sidx c_x1), aF 18, aF 19] [_, _, _] (bm 74 18889465931478580658130) (by kernel_rfl) ⟨h_x2, h_x3, h_x4, trivial⟩
theorem t27_h0_ok (k : Nat) (rec : S27 → Option R27) (ih : ∀ s r, rec s = some r → P27 s r) (at3 : Int) (n5 : Int) (t16 : Int) (t17 : Bool) (loc2_0 : Int) (loc2_1 : ByteArray) (loc2_2 : Int) (loc2_3 : Int) (loc2_4 : Int) (par0_0 : ByteArray) (par0_1 : Int) (r : R27) (h : t27_h0 k rec at3 n5 t16 t17 loc2_0 loc2_1 loc2_2 loc2_3 loc2_4 par0_0 par0_1 = some r) : P27 (.h0 at3 n5 t16 t17 loc2_0 loc2_1 loc2_2 loc2_3 loc2_4 par0_0 par0_1) r := by
 unfold t27_h0 at h
 replace h := bif_or h; rcases h with ⟨rfl, h⟩ | ⟨rfl, h⟩
 ·
  rcases bif_or h with ⟨h_x1, h⟩ | ⟨h_x1, h⟩
  ·
   obtain ⟨c_x2, h_x3, h⟩ := sxI_or h
   exact mA 1 hmix (ih _ _ h) 4 [aT 40, (some 48, .sidx c_x2)] [_, _] (bm 74 18889464805578674012114) (by kernel_rfl) ⟨h_x1, h_x3, trivial⟩
  ·
   exact mA 1 hmix (ih _ _ h) 4 [aF 40] [_] (bm 74 18889464805578674012114) (by kernel_rfl) ⟨h_x1, trivial⟩
 ·
  rcases bif_or h with ⟨h_x1, h⟩ | ⟨h_x1, h⟩
  ·
   exact mA 1 hmix (ih _ _ h) 7 [aT 22] [_] (bm 74 18889465931478578757586) (by kernel_rfl) ⟨h_x1, trivial⟩
  ·
   rcases bif_or h with ⟨h_x2, h⟩ | ⟨h_x2, h⟩
   ·
    exact mA 1 hmix (ih _ _ h) 10 [aF 22, aT 23] [_, _] (bm 74 18889465931478578757586) (by kernel_rfl) ⟨h_x1, h_x2, trivial⟩
   ·
    rcases bif_or h with ⟨h_x3, h⟩ | ⟨h_x3, h⟩
    ·
     exact mA 1 hmix (ih _ _ h) 13 [aF 22, aF 23, aT 24] [_, _, _] (bm 74 18889465931478578757586) (by kernel_rfl) ⟨h_x1, h_x2, h_x3, trivial⟩
    ·
     rcases bif_or h with ⟨h_x4, h⟩ | ⟨h_x4, h⟩
     ·
      exact mA 1 hmix (ih _ _ h) 16 [aF 22, aF 23, aF 24, aT 25] [_, _, _, _] (bm 74 18889465931478578757586) (by kernel_rfl) ⟨h_x1, h_x2, h_x3, h_x4, trivial⟩
     ·
      rcases bif_or h with ⟨h_x5, h⟩ | ⟨h_x5, h⟩
      ·
       exact mA 1 hmix (ih _ _ h) 19 [aF 22, aF 23, aF 24, aF 25, aT 26] [_, _, _, _, _] (bm 74 18889465931478578757586) (by kernel_rfl) ⟨h_x1, h_x2, h_x3, h_x4, h_x5, trivial⟩
      ·
       rcases bif_or h with ⟨h_x6, h⟩ | ⟨h_x6, h⟩
       ·
        exact mA 1 hmix (ih _ _ h) 22 [aF 22, aF 23, aF 24, aF 25, aF 26, aT 27] [_, _, _, _, _, _] (bm 74 18889465931478578757586) (by kernel_rfl) ⟨h_x1, h_x2, h_x3, h_x4, h_x5, h_x6, trivial⟩
       ·
        rcases bif_or h with ⟨h_x7, h⟩ | ⟨h_x7, h⟩
        ·
         exact mA 1 hmix (ih _ _ h) 25 [aF 22, aF 23, aF 24, aF 25, aF 26, aF 27, aT 28] [_, _, _, _, _, _, _] (bm 74 18889465931478578757586) (by kernel_rfl) ⟨h_x1, h_x2, h_x3, h_x4, h_x5, h_x6, h_x7, trivial⟩
        ·
         rcases bif_or h with ⟨h_x8, h⟩ | ⟨h_x8, h⟩
         ·
          exact mA 1 hmix (ih _ _ h) 28 [aF 22, aF 23, aF 24, aF 25, aF 26, aF 27, aF 28, aT 29] [_, _, _, _, _, _, _, _] (bm 74 18889465931478578757586) (by kernel_rfl) ⟨h_x1, h_x2, h_x3, h_x4, h_x5, h_x6, h_x7, h_x8, trivial⟩
         ·
          rcases bif_or h with ⟨h_x9, h⟩ | ⟨h_x9, h⟩
          ·
           exact mA 1 hmix (ih _ _ h) 31 [aF 22, aF 23, aF 24, aF 25, aF 26, aF 27, aF 28, aF 29, aT 30] [_, _, _, _, _, _, _, _, _] (bm 74 18889465931478578757586) (by kernel_rfl) ⟨h_x1, h_x2, h_x3, h_x4, h_x5, h_x6, h_x7, h_x8, h_x9, trivial⟩
          ·
           rcases bif_or h with ⟨h_x10, h⟩ | ⟨h_x10, h⟩
           ·
            exact mA 1 hmix (ih _ _ h) 34 [aF 22, aF 23, aF 24, aF 25, aF 26, aF 27, aF 28, aF 29, aF 30, aT 31] [_, _, _, _, _, _, _, _, _, _] (bm 74 18889465931478578757586) (by kernel_rfl) ⟨h_x1, h_x2, h_x3, h_x4, h_x5, h_x6, h_x7, h_x8, h_x9, h_x10, trivial⟩
           ·
            exact mA 1 hmix (ih _ _ h) 34 [aF 22, aF 23, aF 24, aF 25, aF 26, aF 27, aF 28, aF 29, aF 30, aF 31] [_, _, _, _, _, _, _, _, _, _] (bm 74 18889465931478578757586) (by kernel_rfl) ⟨h_x1, h_x2, h_x3, h_x4, h_x5, h_x6, h_x7, h_x8, h_x9, h_x10, trivial⟩
theorem t27_h1_ok (k : Nat) (rec : S27 → Option R27) (ih : ∀ s r, rec s = some r → P27 s r) (at3 : Int) (n5 : Int) (t50 : Bool) (loc2_0 : Int) (loc2_1 : ByteArray) (loc2_2 : Int) (loc2_3 : Int) (loc2_4 : Int) (par0_0 : ByteArray) (par0_1 : Int) (r : R27) (h : t27_h1 k rec at3 n5 t50 loc2_0 loc2_1 loc2_2 loc2_3 loc2_4 par0_0 par0_1 = some r) : P27 (.h1 at3 n5 t50 loc2_0 loc2_1 loc2_2 loc2_3 loc2_4 par0_0 par0_1) r := by
 unfold t27_h1 at h
 replace h := bif_or h; rcases h with ⟨rfl, h⟩ | ⟨rfl, h⟩
 ·
  exact mA 1 hmix (ih _ _ h) 3 [] [] (bm 74 18889465931478580854738) (by kernel_rfl) trivial
 ·
  exact mA 1 hmix (ih _ _ h) 3 [] [] (bm 74 18889465931478580854738) (by kernel_rfl) trivial
theorem t27_h2_ok (k : Nat) (rec : S27 → Option R27) (ih : ∀ s r, rec s = some r → P27 s r) (at3 : Int) (n5 : Int) (t21 : Bool) (loc2_0 : Int) (loc2_1 : ByteArray) (loc2_2 : Int) (loc2_3 : Int) (loc2_4 : Int) (par0_0 : ByteArray) (par0_1 : Int) (r : R27) (h : t27_h2 k rec at3 n5 t21 loc2_0 loc2_1 loc2_2 loc2_3 loc2_4 par0_0 par0_1 = some r) : P27 (.h2 at3 n5 t21 loc2_0 loc2_1 loc2_2 loc2_3 loc2_4 par0_0 par0_1) r := by
 unfold t27_h2 at h
 replace h := bif_or h; rcases h with ⟨rfl, h⟩ | ⟨rfl, h⟩
 ·
  exact mA 1 hmix (ih _ _ h) 2 [] [] (bm 74 18889465931478580854738) (by kernel_rfl) trivial
 ·
  rw [← Option.some.inj h]
  exact mF 1 hmix [] [] (by kernel_rfl) trivial
theorem t27_h3_ok (k : Nat) (rec : S27 → Option R27) (ih : ∀ s r, rec s = some r → P27 s r) (at3 : Int) (n5 : Int) (loc2_0 : Int) (loc2_1 : ByteArray) (loc2_2 : Int) (loc2_3 : Int) (loc2_4 : Int) (par0_0 : ByteArray) (par0_1 : Int) (r : R27) (h : t27_h3 k rec at3 n5 loc2_0 loc2_1 loc2_2 loc2_3 loc2_4 par0_0 par0_1 = some r) : P27 (.h3 at3 n5 loc2_0 loc2_1 loc2_2 loc2_3 loc2_4 par0_0 par0_1) r := by
 unfold t27_h3 at h
 obtain ⟨h_x1, h⟩ := gd_or h
 rw [← Option.some.inj h]
 exact mF 1 hmix [aS 68] [_] (by kernel_rfl) ⟨of_decide_eq_true h_x1, trivial⟩
theorem ok27 : ∀ k s r, itS step27 k s = some r → P27 s r := itS_ok fun k rec ih s r h => match s, h with
 | .e b0_0 b0_1, h => t27_e_ok k rec ih b0_0 b0_1 r h
 | .h0 at3 n5 t16 t17 loc2_0 loc2_1 loc2_2 loc2_3 loc2_4 par0_0 par0_1, h => t27_h0_ok k rec ih at3 n5 t16 t17 loc2_0 loc2_1 loc2_2 loc2_3 loc2_4 par0_0 par0_1 r h
 | .h1 at3 n5 t50 loc2_0 loc2_1 loc2_2 loc2_3 loc2_4 par0_0 par0_1, h => t27_h1_ok k rec ih at3 n5 t50 loc2_0 loc2_1 loc2_2 loc2_3 loc2_4 par0_0 par0_1 r h
 | .h2 at3 n5 t21 loc2_0 loc2_1 loc2_2 loc2_3 loc2_4 par0_0 par0_1, h => t27_h2_ok k rec ih at3 n5 t21 loc2_0 loc2_1 loc2_2 loc2_3 loc2_4 par0_0 par0_1 r h
 | .h3 at3 n5 loc2_0 loc2_1 loc2_2 loc2_3 loc2_4 par0_0 par0_1, h => t27_h3_ok k rec ih at3 n5 loc2_0 loc2_1 loc2_2 loc2_3 loc2_4 par0_0 par0_1 r h
theorem ev27 {k : Nat} {b0_0 : ByteArray} {b0_1 : Int} {r : R27} (h : g27 k b0_0 b0_1 = some r) : Ev Tryd.prog noHand 27 [.c (.ptr ⟨⟨.par 0, []⟩, 0, 0⟩)] [[sc b0_0, ic b0_1]] (res27 r) (bx27 b0_0 r) := evr27 (ok27 _ _ _ h)
inductive S17 where
 | e (b0_0 : ByteArray) (b0_1 : Int)
 | h0 (loc2_0 : Int) (loc2_1 : ByteArray) (loc2_2 : Int) (loc2_3 : Int) (loc2_4 : Int) (par0_0 : ByteArray) (par0_1 : Int)
 | h1 (t25 : Bool) (loc2_0 : Int) (loc2_1 : ByteArray) (loc2_2 : Int) (loc2_3 : Int) (loc2_4 : Int) (par0_0 : ByteArray) (par0_1 : Int)
abbrev R17 := (Int × ByteArray × Int × Int × Int × Int) ⊕ (Int × Int)
def res17 : R17 → ARes
 | (.inl (r_0, r_1, r_2, r_3, r_4, r_b0_1)) => .ret (.ag [ic r_0, sc r_1, ic r_2, ic r_3, ic r_4])
 | (.inr (r_i00, r_b0_1)) => .panic (.iface 43 (.agg #[.int .i64 r_i00]))
def bx17 (b0_0 : ByteArray) : R17 → List (List Cell)
 | (.inl (r_0, r_1, r_2, r_3, r_4, r_b0_1)) => [[sc b0_0, ic r_b0_1]]
 | (.inr (r_i00, r_b0_1)) => [[sc b0_0, ic r_b0_1]]
noncomputable def t17_e (k : Nat) (rec : S17 → Option R17) (b0_0 : ByteArray) (b0_1 : Int) : Option R17 :=
 rec (.h0 0 (strB []) 0 0 0 b0_0 b0_1)
noncomputable def t17_h0 (k : Nat) (rec : S17 → Option R17) (loc2_0 : Int) (loc2_1 : ByteArray) (loc2_2 : Int) (loc2_3 : Int) (loc2_4 : Int) (par0_0 : ByteArray) (par0_1 : Int) : Option R17 :=
 bif decide (par0_1 < (par0_0.size : Int)) then
  sxI par0_0 par0_1 fun c_x2 =>
  (g12 k c_x2).bind fun v_x4 =>
  rec (.h1 v_x4 loc2_0 loc2_1 loc2_2 loc2_3 loc2_4 par0_0 par0_1)
 else
  rec (.h1 false loc2_0 loc2_1 loc2_2 loc2_3 loc2_4 par0_0 par0_1)
noncomputable def t17_h1 (k : Nat) (rec : S17 → Option R17) (t25 : Bool) (loc2_0 : Int) (loc2_1 : ByteArray) (loc2_2 : Int) (loc2_3 : Int) (loc2_4 : Int) (par0_0 : ByteArray) (par0_1 : Int) : Option R17 :=
 bif t25 then
  rec (.h0 loc2_0 loc2_1 loc2_2 loc2_3 loc2_4 par0_0 (IntKind.i64.wrap (par0_1 + 1)))
 else
  bif par0_1 == (par0_0.size : Int) then
   some (.inl (0, strB [], 0, 0, par0_1, par0_1))
  else
   sxI par0_0 par0_1 fun c_x2 =>
   (g22 k c_x2).bind fun v_x4 =>
   bif v_x4 then
    (g23 k par0_0 par0_1).bind fun v_x6 =>
    altC v_x6 (fun v_x8 => 
      tup6 v_x8 fun r0_x9 r1_x9 r2_x9 r3_x9 r4_x9 rb01_x9 =>
      some (.inl (r0_x9, r1_x9, r2_x9, r3_x9, r4_x9, rb01_x9))) (fun v_x8 => 
      tup2 v_x8 fun ri00_x9 rb01_x9 =>
      some (.inr (ri00_x9, rb01_x9)))
   else
    (g24 k c_x2).bind fun v_x6 =>
    bif v_x6 then
     (g25 k par0_0 par0_1).bind fun v_x8 =>
     altC v_x8 (fun v_x10 => 
       tup2 v_x10 fun ri00_x11 rb01_x11 =>
       some (.inr (ri00_x11, rb01_x11))) (fun v_x10 => 
       tup6 v_x10 fun r0_x11 r1_x11 r2_x11 r3_x11 r4_x11 rb01_x11 =>
       some (.inl (r0_x11, r1_x11, r2_x11, r3_x11, r4_x11, rb01_x11)))
    else
     bif c_x2 == 39 then
      (g26 k par0_0 par0_1).bind fun v_x9 =>
      altC v_x9 (fun v_x11 => 
        tup2 v_x11 fun ri00_x12 rb01_x12 =>
        some (.inr (ri00_x12, rb01_x12))) (fun v_x11 => 
        tup6 v_x11 fun r0_x12 r1_x12 r2_x12 r3_x12 r4_x12 rb01_x12 =>
        some (.inl (r0_x12, r1_x12, r2_x12, r3_x12, r4_x12, rb01_x12)))
     else
      (g27 k par0_0 par0_1).bind fun v_x9 =>
      altC v_x9 (fun v_x11 => 
        tup6 v_x11 fun r0_x12 r1_x12 r2_x12 r3_x12 r4_x12 rb01_x12 =>
        some (.inl (r0_x12, r1_x12, r2_x12, r3_x12, r4_x12, rb01_x12))) (fun v_x11 => 
        tup2 v_x11 fun ri00_x12 rb01_x12 =>
        some (.inr (ri00_x12, rb01_x12)))
noncomputable def step17 (k : Nat) (rec : S17 → Option R17) : S17 → Option R17
 | .e b0_0 b0_1 => t17_e k rec b0_0 b0_1
 | .h0 loc2_0 loc2_1 loc2_2 loc2_3 loc2_4 par0_0 par0_1 => t17_h0 k rec loc2_0 loc2_1 loc2_2 loc2_3 loc2_4 par0_0 par0_1
 | .h1 t25 loc2_0 loc2_1 loc2_2 loc2_3 loc2_4 par0_0 par0_1 => t17_h1 k rec t25 loc2_0 loc2_1 loc2_2 loc2_3 loc2_4 par0_0 par0_1
noncomputable def g17 (k : Nat) (b0_0 : ByteArray) (b0_1 : Int) : Option R17 := itS step17 k (.e b0_0 b0_1)
noncomputable def P17 : S17 → R17 → Prop
 | .e b0_0 b0_1, r => Fin cx17 Tryd.f17 [.code body17] (fr0 Tryd.f17 [.c (.ptr ⟨⟨.par 0, []⟩, 0, 0⟩)] [[sc b0_0, ic b0_1]]) (res17 r) (bx17 b0_0 r)
 | .h0 loc2_0 loc2_1 loc2_2 loc2_3 loc2_4 par0_0 par0_1, r => Fin cx17 Tryd.f17 (kAt body17 [1, 0, 0, 4] []) ⟨[.c (.ptr ⟨⟨.par 0, []⟩, 0, 0⟩), .deadv, .c (.ptr ⟨⟨.loc 2, []⟩, 0, 0⟩)] ++ rep 71 .deadv, [(.loc 2, [ic loc2_0, sc loc2_1, ic loc2_2, ic loc2_3, ic loc2_4]), (.par 0, [sc par0_0, ic par0_1])]⟩ (res17 r) (bx17 par0_0 r)
 | .h1 t25 loc2_0 loc2_1 loc2_2 loc2_3 loc2_4 par0_0 par0_1, r => Fin cx17 Tryd.f17 (kAt body17 [1, 0, 0, 0, 0, 1, 2] []) ⟨[.c (.ptr ⟨⟨.par 0, []⟩, 0, 0⟩), .deadv, .c (.ptr ⟨⟨.loc 2, []⟩, 0, 0⟩)] ++ rep 22 .deadv ++ [.c (bc t25)] ++ rep 48 .deadv, [(.loc 2, [ic loc2_0, sc loc2_1, ic loc2_2, ic loc2_3, ic loc2_4]), (.par 0, [sc par0_0, ic par0_1])]⟩ (res17 r) (bx17 par0_0 r)
theorem evr17 {b0_0 : ByteArray} {b0_1 : Int} {r : R17} (h : P17 (.e b0_0 b0_1) r) : Ev Tryd.prog noHand 17 [.c (.ptr ⟨⟨.par 0, []⟩, 0, 0⟩)] [[sc b0_0, ic b0_1]] (res17 r) (bx17 b0_0 r) := ev_of_fin (fn := Tryd.f17) (body := body17) (by kernel_rfl) (by kernel_rfl) (by kernel_rfl) rfl h
theorem t17_e_ok (k : Nat) (rec : S17 → Option R17) (ih : ∀ s r, rec s = some r → P17 s r) (b0_0 : ByteArray) (b0_1 : Int) (r : R17) (h : t17_e k rec b0_0 b0_1 = some r) : P17 (.e b0_0 b0_1) r := by
 unfold t17_e at h
 exact mA 1 hmix (ih _ _ h) 5 [] [] (bm 74 18889465931478580854778) (by kernel_rfl) trivial
theorem t17_h0_ok (k : Nat) (rec : S17 → Option R17) (ih : ∀ s r, rec s = some r → P17 s r) (loc2_0 : Int) (loc2_1 : ByteArray) (loc2_2 : Int) (loc2_3 : Int) (loc2_4 : Int) (par0_0 : ByteArray) (par0_1 : Int) (r : R17) (h : t17_h0 k rec loc2_0 loc2_1 loc2_2 loc2_3 loc2_4 par0_0 par0_1 = some r) : P17 (.h0 loc2_0 loc2_1 loc2_2 loc2_3 loc2_4 par0_0 par0_1) r := by
 unfold t17_h0 at h
 rcases bif_or h with ⟨h_x1, h⟩ | ⟨h_x1, h⟩
 ·
  obtain ⟨c_x2, h_x3, h⟩ := sxI_or h
  obtain ⟨v_x4, h_x5, h⟩ := bd_or h
  exact mA 1 hmix (ih _ _ h) 4 [aT 13, (some 23, .sidx c_x2), aC 24 (.c (bc v_x4))] [_, _, _] (bm 74 18889465931478547300346) (by kernel_rfl) ⟨h_x1, h_x3, (ev12 h_x5), trivial⟩
 ·
  exact mA 1 hmix (ih _ _ h) 4 [aF 13] [_] (bm 74 18889465931478547300346) (by kernel_rfl) ⟨h_x1, trivial⟩
theorem t17_h1_ok (k : Nat) (rec : S17 → Option R17) (ih : ∀ s r, rec s = some r → P17 s r) (t25 : Bool) (loc2_0 : Int) (loc2_1 : ByteArray) (loc2_2 : Int) (loc2_3 : Int) (loc2_4 : Int) (par0_0 : ByteArray) (par0_1 : Int) (r : R17) (h : t17_h1 k rec t25 loc2_0 loc2_1 loc2_2 loc2_3 loc2_4 par0_0 par0_1 = some r) : P17 (.h1 t25 loc2_0 loc2_1 loc2_2 loc2_3 loc2_4 par0_0 par0_1) r := by
 unfold t17_h1 at h
 replace h := bif_or h; rcases h with ⟨rfl, h⟩ | ⟨rfl, h⟩
 ·
  exact mA 1 hmix (ih _ _ h) 5 [] [] (bm 74 18889465931478580854778) (by kernel_rfl) trivial
 ·
  rcases bif_or h with ⟨h_x1, h⟩ | ⟨h_x1, h⟩
  ·
   rw [← Option.some.inj h]
   exact mF 1 hmix [aT 42] [_] (by kernel_rfl) ⟨h_x1, trivial⟩
  ·
   obtain ⟨c_x2, h_x3, h⟩ := sxI_or h
   obtain ⟨v_x4, h_x5, h⟩ := bd_or h
   replace h := bif_or h; rcases h with ⟨rfl, h⟩ | ⟨rfl, h⟩
   ·
    obtain ⟨v_x6, h_x7, h⟩ := bd_or h
    replace h := altC_or h; rcases h with ⟨v_x8, rfl, h⟩ | ⟨v_x8, rfl, h⟩
    ·
     replace h := tup6_or h; obtain ⟨r0_x9, r1_x9, r2_x9, r3_x9, r4_x9, rb01_x9, rfl, h⟩ := h
     rw [← Option.some.inj h]
     exact mF 1 hmix [aF 42, (some 56, .sidx c_x2), aC 59 (.c (bc true)), (some 61, .call (.ret (.ag [ic r0_x9, sc r1_x9, ic r2_x9, ic r3_x9, ic r4_x9])) [[sc par0_0, ic rb01_x9]] false)] [_, _, _, _] (by kernel_rfl) ⟨h_x1, h_x3, (ev22 h_x5), (ev23 h_x7), trivial⟩
    ·
     replace h := tup2_or h; obtain ⟨ri00_x9, rb01_x9, rfl, h⟩ := h
     rw [← Option.some.inj h]
     exact mF 1 hmix [aF 42, (some 56, .sidx c_x2), aC 59 (.c (bc true)), (some 61, .call (.panic (.iface 43 (.agg #[.int .i64 ri00_x9]))) [[sc par0_0, ic rb01_x9]] false)] [_, _, _, _] (by kernel_rfl) ⟨h_x1, h_x3, (ev22 h_x5), (ev23 h_x7), trivial⟩
   ·
    obtain ⟨v_x6, h_x7, h⟩ := bd_or h
    replace h := bif_or h; rcases h with ⟨rfl, h⟩ | ⟨rfl, h⟩
    ·
     obtain ⟨v_x8, h_x9, h⟩ := bd_or h
     replace h := altC_or h; rcases h with ⟨v_x10, rfl, h⟩ | ⟨v_x10, rfl, h⟩
     ·
      replace h := tup2_or h; obtain ⟨ri00_x11, rb01_x11, rfl, h⟩ := h
      rw [← Option.some.inj h]
      exact mF 1 hmix [aF 42, (some 56, .sidx c_x2), aC 59 (.c (bc false)), aC 64 (.c (bc true)), (some 66, .call (.panic (.iface 43 (.agg #[.int .i64 ri00_x11]))) [[sc par0_0, ic rb01_x11]] false)] [_, _, _, _, _] (by kernel_rfl) ⟨h_x1, h_x3, (ev22 h_x5), (ev24 h_x7), (ev25 h_x9), trivial⟩
     ·
      replace h := tup6_or h; obtain ⟨r0_x11, r1_x11, r2_x11, r3_x11, r4_x11, rb01_x11, rfl, h⟩ := h
      rw [← Option.some.inj h]
      exact mF 1 hmix [aF 42, (some 56, .sidx c_x2), aC 59 (.c (bc false)), aC 64 (.c (bc true)), (some 66, .call (.ret (.ag [ic r0_x11, sc r1_x11, ic r2_x11, ic r3_x11, ic r4_x11])) [[sc par0_0, ic rb01_x11]] false)] [_, _, _, _, _] (by kernel_rfl) ⟨h_x1, h_x3, (ev22 h_x5), (ev24 h_x7), (ev25 h_x9), trivial⟩
    ·
     rcases bif_or h with ⟨h_x8, h⟩ | ⟨h_x8, h⟩
     ·
      obtain ⟨v_x9, h_x10, h⟩ := bd_or h
      replace h := altC_or h; rcases h with ⟨v_x11, rfl, h⟩ | ⟨v_x11, rfl, h⟩
      ·
       replace h := tup2_or h; obtain ⟨ri00_x12, rb01_x12, rfl, h⟩ := h
       rw [← Option.some.inj h]
       exact mF 1 hmix [aF 42, (some 56, .sidx c_x2), aC 59 (.c (bc false)), aC 64 (.c (bc false)), aT 69, (some 71, .call (.panic (.iface 43 (.agg #[.int .i64 ri00_x12]))) [[sc par0_0, ic rb01_x12]] false)] [_, _, _, _, _, _] (by kernel_rfl) ⟨h_x1, h_x3, (ev22 h_x5), (ev24 h_x7), h_x8, (ev26 h_x10), trivial⟩
      ·
       replace h := tup6_or h; obtain ⟨r0_x12, r1_x12, r2_x12, r3_x12, r4_x12, rb01_x12, rfl, h⟩ := h
       rw [← Option.some.inj h]
       exact mF 1 hmix [aF 42, (some 56, .sidx c_x2), aC 59 (.c (bc false)), aC 64 (.c (bc false)), aT 69, (some 71, .call (.ret (.ag [ic r0_x12, sc r1_x12, ic r2_x12, ic r3_x12, ic r4_x12])) [[sc par0_0, ic rb01_x12]] false)] [_, _, _, _, _, _] (by kernel_rfl) ⟨h_x1, h_x3, (ev22 h_x5), (ev24 h_x7), h_x8, (ev26 h_x10), trivial⟩
     ·
      obtain ⟨v_x9, h_x10, h⟩ := bd_or h
      replace h := altC_or h; rcases h with ⟨v_x11, rfl, h⟩ | ⟨v_x11, rfl, h⟩
      ·
       replace h := tup6_or h; obtain ⟨r0_x12, r1_x12, r2_x12, r3_x12, r4_x12, rb01_x12, rfl, h⟩ := h
       rw [← Option.some.inj h]
       exact mF 1 hmix [aF 42, (some 56, .sidx c_x2), aC 59 (.c (bc false)), aC 64 (.c (bc false)), aF 69, (some 73, .call (.ret (.ag [ic r0_x12, sc r1_x12, ic r2_x12, ic r3_x12, ic r4_x12])) [[sc par0_0, ic rb01_x12]] false)] [_, _, _, _, _, _] (by kernel_rfl) ⟨h_x1, h_x3, (ev22 h_x5), (ev24 h_x7), h_x8, (ev27 h_x10), trivial⟩
      ·
       replace h := tup2_or h; obtain ⟨ri00_x12, rb01_x12, rfl, h⟩ := h
       rw [← Option.some.inj h]
       exact mF 1 hmix [aF 42, (some 56, .sidx c_x2), aC 59 (.c (bc false)), aC 64 (.c (bc false)), aF 69, (some 73, .call (.panic (.iface 43 (.agg #[.int .i64 ri00_x12]))) [[sc par0_0, ic rb01_x12]] false)] [_, _, _, _, _, _] (by kernel_rfl) ⟨h_x1, h_x3, (ev22 h_x5), (ev24 h_x7), h_x8, (ev27 h_x10), trivial⟩
theorem ok17 : ∀ k s r, itS step17 k s = some r → P17 s r := itS_ok fun k rec ih s r h => match s, h with
 | .e b0_0 b0_1, h => t17_e_ok k rec ih b0_0 b0_1 r h
 | .h0 loc2_0 loc2_1 loc2_2 loc2_3 loc2_4 par0_0 par0_1, h => t17_h0_ok k rec ih loc2_0 loc2_1 loc2_2 loc2_3 loc2_4 par0_0 par0_1 r h
 | .h1 t25 loc2_0 loc2_1 loc2_2 loc2_3 loc2_4 par0_0 par0_1, h => t17_h1_ok k rec ih t25 loc2_0 loc2_1 loc2_2 loc2_3 loc2_4 par0_0 par0_1 r h
theorem ev17 {k : Nat} {b0_0 : ByteArray} {b0_1 : Int} {r : R17} (h : g17 k b0_0 b0_1 = some r) : Ev Tryd.prog noHand 17 [.c (.ptr ⟨⟨.par 0, []⟩, 0, 0⟩)] [[sc b0_0, ic b0_1]] (res17 r) (bx17 b0_0 r) := evr17 (ok17 _ _ _ h)
inductive S8 where
 | e (text0 : ByteArray)
 | h0 (loc4_0 : Int) (loc3_0 : Int) (loc2_0 : Rs)
 | h1 (loc13_0 : ByteArray) (loc13_1 : Int) (loc4_0 : Int) (loc3_0 : Int) (loc2_0 : Rs)
 | h2 (loc4_0 : Int) (loc3_0 : Int) (loc2_0 : Rs)
abbrev R8 := (Rs × Int × Int) ⊕ (Int × Int)
def res8 : R8 → ARes
 | (.inl (r_00, r_10, r_20)) => .ret ⟨.tup [false, false, false], [[.imm r_00], [ic r_10], [ic r_20]]⟩
 | (.inr (r_10, r_20)) => .ret ⟨.tup [false, false, false], [[.nil], [ic r_10], [ic r_20]]⟩
def bx8 : R8 → List (List Cell)
 | (.inl (r_00, r_10, r_20)) => []
 | (.inr (r_10, r_20)) => []
noncomputable def t8_e (k : Nat) (rec : S8 → Option R8) (text0 : ByteArray) : Option R8 :=
 bif decide ((text0.size : Int) > 4000) then
  rec (.h0 2 0 [])
 else
  rec (.h1 text0 0 0 0 [])
noncomputable def t8_h0 (k : Nat) (rec : S8 → Option R8) (loc4_0 : Int) (loc3_0 : Int) (loc2_0 : Rs) : Option R8 :=
 some (.inl (loc2_0, loc3_0, loc4_0))
noncomputable def t8_h1 (k : Nat) (rec : S8 → Option R8) (loc13_0 : ByteArray) (loc13_1 : Int) (loc4_0 : Int) (loc3_0 : Int) (loc2_0 : Rs) : Option R8 :=
 (g17 k loc13_0 loc13_1).bind fun v_x1 =>
 altC v_x1 (fun v_x3 => 
   tup6 v_x3 fun r0_x4 r1_x4 r2_x4 r3_x4 r4_x4 rb01_x4 =>
   gd (apOk 48 5 loc2_0 [[ic r0_x4, sc r1_x4, ic r2_x4, ic r3_x4, ic r4_x4]]) <|
   bif r0_x4 == 0 then
    rec (.h2 0 0 (immRs (loc2_0 ++ [[ic r0_x4, sc r1_x4, ic r2_x4, ic r3_x4, ic r4_x4]])))
   else
    rec (.h1 loc13_0 rb01_x4 loc4_0 loc3_0 (loc2_0 ++ [[ic r0_x4, sc r1_x4, ic r2_x4, ic r3_x4, ic r4_x4]]))) (fun v_x3 => 
   tup2 v_x3 fun ri00_x4 rb01_x4 =>
   some (.inr (ri00_x4, 12)))
noncomputable def t8_h2 (k : Nat) (rec : S8 → Option R8) (loc4_0 : Int) (loc3_0 : Int) (loc2_0 : Rs) : Option R8 :=
 some (.inl (loc2_0, loc3_0, loc4_0))
noncomputable def step8 (k : Nat) (rec : S8 → Option R8) : S8 → Option R8
 | .e text0 => t8_e k rec text0
 | .h0 loc4_0 loc3_0 loc2_0 => t8_h0 k rec loc4_0 loc3_0 loc2_0
 | .h1 loc13_0 loc13_1 loc4_0 loc3_0 loc2_0 => t8_h1 k rec loc13_0 loc13_1 loc4_0 loc3_0 loc2_0
 | .h2 loc4_0 loc3_0 loc2_0 => t8_h2 k rec loc4_0 loc3_0 loc2_0
noncomputable def g8 (k : Nat) (text0 : ByteArray) : Option R8 := itS step8 k (.e text0)
noncomputable def P8 : S8 → R8 → Prop
 | .e text0, r => FinD cx8 Tryd.f8 (DOf cx8.P none 0) [.code body8] (fr0 Tryd.f8 [.c (sc text0)] []) (res8 r) (bx8 r)
 | .h0 loc4_0 loc3_0 loc2_0, r => FinD cx8 Tryd.f8 (DOf cx8.P none 0) (kAt body8 [1, 0, 1, 0, 1, 2] []) ⟨[.deadv, .deadv, .c (.ptr ⟨⟨.loc 2, []⟩, 0, 0⟩), .c (.ptr ⟨⟨.loc 3, []⟩, 0, 0⟩), .c (.ptr ⟨⟨.loc 4, []⟩, 0, 0⟩)] ++ rep 19 .deadv, [(.loc 4, [ic loc4_0]), (.loc 3, [ic loc3_0]), (.loc 2, [.imm loc2_0])]⟩ (res8 r) (bx8 r)
 | .h1 loc13_0 loc13_1 loc4_0 loc3_0 loc2_0, r => FinD cx8 Tryd.f8 (DOf cx8.P (some 10) 16) (kAt body8 [1, 1, 1, 1, 0, 4] []) ⟨[.deadv, .deadv, .c (.ptr ⟨⟨.loc 2, []⟩, 0, 0⟩), .c (.ptr ⟨⟨.loc 3, []⟩, 0, 0⟩), .c (.ptr ⟨⟨.loc 4, []⟩, 0, 0⟩), .c (.ptr ⟨⟨.loc 13, []⟩, 0, 0⟩)] ++ rep 4 .deadv ++ [.c (.clo 16 [] [.ptr ⟨⟨.loc 2, []⟩, 0, 0⟩, .ptr ⟨⟨.loc 3, []⟩, 0, 0⟩, .ptr ⟨⟨.loc 4, []⟩, 0, 0⟩])] ++ rep 13 .deadv, [(.loc 13, [sc loc13_0, ic loc13_1]), (.loc 4, [ic loc4_0]), (.loc 3, [ic loc3_0]), (.loc 2, [.own 5 loc2_0])]⟩ (res8 r) (bx8 r)
 | .h2 loc4_0 loc3_0 loc2_0, r => FinD cx8 Tryd.f8 (DOf cx8.P (some 10) 16) (kAt body8 [1, 1, 1, 1, 0, 0, 0, 1, 1, 1, 0, 1, 2] []) ⟨[.deadv, .deadv, .c (.ptr ⟨⟨.loc 2, []⟩, 0, 0⟩), .c (.ptr ⟨⟨.loc 3, []⟩, 0, 0⟩), .c (.ptr ⟨⟨.loc 4, []⟩, 0, 0⟩)] ++ rep 5 .deadv ++ [.c (.clo 16 [] [.ptr ⟨⟨.loc 2, []⟩, 0, 0⟩, .ptr ⟨⟨.loc 3, []⟩, 0, 0⟩, .ptr ⟨⟨.loc 4, []⟩, 0, 0⟩])] ++ rep 13 .deadv, [(.loc 4, [ic loc4_0]), (.loc 3, [ic loc3_0]), (.loc 2, [.imm loc2_0])]⟩ (res8 r) (bx8 r)
theorem evr8 {text0 : ByteArray} {r : R8} (h : P8 (.e text0) r) : Ev Tryd.prog noHand 8 [.c (sc text0)] [] (res8 r) (bx8 r) := evD_fin (fn := Tryd.f8) (body := body8) (by kernel_rfl) (by kernel_rfl) (by kernel_rfl) rfl h
theorem evd8p {b0_0 : Rs} {b1_0 : Int} {b2_0 : Int} {pv_i00 : Int} : EvD Tryd.prog (.panicking [{ v := .iface 43 (.agg #[.int .i64 pv_i00]), recovered := false }]) (.panicking [{ v := .iface 43 (.agg #[.int .i64 pv_i00]), recovered := true }]) 16 [.c (.ptr ⟨⟨.par 0, []⟩, 0, 0⟩), .c (.ptr ⟨⟨.par 1, []⟩, 0, 0⟩), .c (.ptr ⟨⟨.par 2, []⟩, 0, 0⟩)] [[.own 5 b0_0], [ic b1_0], [ic b2_0]] (.ret .undef) [[.nil], [ic pv_i00], [ic 12]] := clo_evD (fn := Tryd.f16) (body := body16) (cx := cx16) (nb := 3) (n := 2000) (val := .iface 43 (.agg #[.int .i64 pv_i00])) (ad1 := []) (ad2 := []) (ps := []) (by kernel_rfl) (by kernel_rfl) rfl hmix rfl (.inl ⟨rfl, rfl⟩) (by kernel_rfl) trivial
theorem evd8q {b0_0 : Rs} {b1_0 : Int} {b2_0 : Int} : EvD Tryd.prog .returning .returning 16 [.c (.ptr ⟨⟨.par 0, []⟩, 0, 0⟩), .c (.ptr ⟨⟨.par 1, []⟩, 0, 0⟩), .c (.ptr ⟨⟨.par 2, []⟩, 0, 0⟩)] [[.imm b0_0], [ic b1_0], [ic b2_0]] (.ret .undef) [[.imm b0_0], [ic b1_0], [ic b2_0]] := clo_evD (fn := Tryd.f16) (body := body16) (cx := cx16) (nb := 3) (n := 2000) (val := .nilIface) (ad1 := []) (ad2 := []) (ps := []) (by kernel_rfl) (by kernel_rfl) rfl hmix rfl (.inr ⟨rfl, rfl, rfl⟩) (by kernel_rfl) trivial
theorem t8_e_ok (k : Nat) (rec : S8 → Option R8) (ih : ∀ s r, rec s = some r → P8 s r) (text0 : ByteArray) (r : R8) (h : t8_e k rec text0 = some r) : P8 (.e text0) r := by
 unfold t8_e at h
 rcases bif_or h with ⟨h_x1, h⟩ | ⟨h_x1, h⟩
 ·
  exact dgo_at (t := none) (f := 0) hmix (ih _ _ h) (n := 8) (ad := [aT 9]) (ps := [_]) (m := bm 24 16777187) (ls := []) (cs := [(⟨⟨.loc 2, []⟩, 0, 0⟩, none)]) (by kernel_rfl) ⟨h_x1, trivial⟩
 ·
  exact dgo_at (t := none) (f := 0) hmix (deferK (Q := fun G0 w0 => bodyPostD cx8.P Tryd.f8 (Went G0 w0 _ _)) (K0 := (kAt body8 [1, 1, 0, 2] [])) (F := ⟨[.c (sc text0), .undef, .c (.ptr ⟨⟨.loc 2, []⟩, 0, 0⟩), .c (.ptr ⟨⟨.loc 3, []⟩, 0, 0⟩), .c (.ptr ⟨⟨.loc 4, []⟩, 0, 0⟩), .undef, .undef, .c (sc text0), .c (ic (text0.size : Int)), .c (bc false)] ++ rep 14 .undef, [(.loc 4, [ic 0]), (.loc 3, [ic 0]), (.loc 2, [.nil])]⟩) (k := 10) (f := 16) (K1 := (kAt body8 [1, 1, 0, 3] [])) (F1 := ⟨[.c (sc text0), .undef, .c (.ptr ⟨⟨.loc 2, []⟩, 0, 0⟩), .c (.ptr ⟨⟨.loc 3, []⟩, 0, 0⟩), .c (.ptr ⟨⟨.loc 4, []⟩, 0, 0⟩), .undef, .undef, .c (sc text0), .c (ic (text0.size : Int)), .c (bc false), .c (.clo 16 [] [.ptr ⟨⟨.loc 2, []⟩, 0, 0⟩, .ptr ⟨⟨.loc 3, []⟩, 0, 0⟩, .ptr ⟨⟨.loc 4, []⟩, 0, 0⟩])] ++ rep 13 .undef, [(.loc 4, [ic 0]), (.loc 3, [ic 0]), (.loc 2, [.nil])]⟩) (ad := []) (ps := []) ⟨Tryd.f16, by kernel_rfl, by kernel_rfl, by kernel_rfl⟩ (dgo_at (t := some 10) (f := 16) hmix (ih _ _ h) (n := 4) (ad := []) (ps := []) (m := bm 24 16776131) (ls := []) (cs := [(⟨⟨.loc 2, []⟩, 0, 0⟩, some 5)]) (by kernel_rfl) trivial) (by kernel_rfl) trivial) (n := 8) (ad := [aF 9]) (ps := [_]) (m := bm 24 0) (ls := []) (cs := []) (by kernel_rfl) ⟨h_x1, trivial⟩
theorem t8_h0_ok (k : Nat) (rec : S8 → Option R8) (ih : ∀ s r, rec s = some r → P8 s r) (loc4_0 : Int) (loc3_0 : Int) (loc2_0 : Rs) (r : R8) (h : t8_h0 k rec loc4_0 loc3_0 loc2_0 = some r) : P8 (.h0 loc4_0 loc3_0 loc2_0) r := by
 unfold t8_h0 at h
 rw [← Option.some.inj h]
 exact mend_fin (nb := 0) (t := none) (f := 0) hmix (n := 2000) (ad := []) (ps := []) (bx' := []) (by kernel_rfl) trivial
theorem t8_h1_ok (k : Nat) (rec : S8 → Option R8) (ih : ∀ s r, rec s = some r → P8 s r) (loc13_0 : ByteArray) (loc13_1 : Int) (loc4_0 : Int) (loc3_0 : Int) (loc2_0 : Rs) (r : R8) (h : t8_h1 k rec loc13_0 loc13_1 loc4_0 loc3_0 loc2_0 = some r) : P8 (.h1 loc13_0 loc13_1 loc4_0 loc3_0 loc2_0) r := by
 unfold t8_h1 at h
 obtain ⟨v_x1, h_x2, h⟩ := bd_or h
 replace h := altC_or h; rcases h with ⟨v_x3, rfl, h⟩ | ⟨v_x3, rfl, h⟩
 ·
  replace h := tup6_or h; obtain ⟨r0_x4, r1_x4, r2_x4, r3_x4, r4_x4, rb01_x4, rfl, h⟩ := h
  obtain ⟨h_x5, h⟩ := gd_or h
  rcases bif_or h with ⟨h_x6, h⟩ | ⟨h_x6, h⟩
  ·
   exact dgo_at (t := some 10) (f := 16) hmix (ih _ _ h) (n := 11) (ad := [(some 15, .call (.ret (.ag [ic r0_x4, sc r1_x4, ic r2_x4, ic r3_x4, ic r4_x4])) [[sc loc13_0, ic rb01_x4]] false), (some 19, .okE false), aT 22]) (ps := [_, _, _]) (m := bm 24 16776163) (ls := [6, 13]) (cs := []) (by kernel_rfl) ⟨(ev17 h_x2), okF [[ic r0_x4, sc r1_x4, ic r2_x4, ic r3_x4, ic r4_x4]] h_x5, h_x6, trivial⟩
  ·
   exact dgo_at (t := some 10) (f := 16) hmix (ih _ _ h) (n := 11) (ad := [(some 15, .call (.ret (.ag [ic r0_x4, sc r1_x4, ic r2_x4, ic r3_x4, ic r4_x4])) [[sc loc13_0, ic rb01_x4]] false), (some 19, .okE false), aF 22]) (ps := [_, _, _]) (m := bm 24 16776131) (ls := [6]) (cs := []) (by kernel_rfl) ⟨(ev17 h_x2), okF [[ic r0_x4, sc r1_x4, ic r2_x4, ic r3_x4, ic r4_x4]] h_x5, h_x6, trivial⟩
 ·
  replace h := tup2_or h; obtain ⟨ri00_x4, rb01_x4, rfl, h⟩ := h
  rw [← Option.some.inj h]
  exact mend_fin (nb := 0) (t := some 10) (f := 16) hmix (n := 2000) (ad := [(some 15, .call (.panic (.iface 43 (.agg #[.int .i64 ri00_x4]))) [[sc loc13_0, ic rb01_x4]] false)]) (ps := [_, _]) (bx' := [[.nil], [ic ri00_x4], [ic 12]]) (by kernel_rfl) ⟨(ev17 h_x2), (evd8p (b0_0 := loc2_0) (b1_0 := loc3_0) (b2_0 := loc4_0) (pv_i00 := ri00_x4)), trivial⟩
theorem t8_h2_ok (k : Nat) (rec : S8 → Option R8) (ih : ∀ s r, rec s = some r → P8 s r) (loc4_0 : Int) (loc3_0 : Int) (loc2_0 : Rs) (r : R8) (h : t8_h2 k rec loc4_0 loc3_0 loc2_0 = some r) : P8 (.h2 loc4_0 loc3_0 loc2_0) r := by
 unfold t8_h2 at h
 rw [← Option.some.inj h]
 exact mend_fin (nb := 0) (t := some 10) (f := 16) hmix (n := 2000) (ad := []) (ps := [_]) (bx' := [[.imm loc2_0], [ic loc3_0], [ic loc4_0]]) (by kernel_rfl) ⟨(evd8q (b0_0 := loc2_0) (b1_0 := loc3_0) (b2_0 := loc4_0)), trivial⟩
theorem ok8 : ∀ k s r, itS step8 k s = some r → P8 s r := itS_ok fun k rec ih s r h => match s, h with
 | .e text0, h => t8_e_ok k rec ih text0 r h
 | .h0 loc4_0 loc3_0 loc2_0, h => t8_h0_ok k rec ih loc4_0 loc3_0 loc2_0 r h
 | .h1 loc13_0 loc13_1 loc4_0 loc3_0 loc2_0, h => t8_h1_ok k rec ih loc13_0 loc13_1 loc4_0 loc3_0 loc2_0 r h
 | .h2 loc4_0 loc3_0 loc2_0, h => t8_h2_ok k rec ih loc4_0 loc3_0 loc2_0 r h
theorem ev8 {k : Nat} {text0 : ByteArray} {r : R8} (h : g8 k text0 = some r) : Ev Tryd.prog noHand 8 [.c (sc text0)] [] (res8 r) (bx8 r) := evr8 (ok8 _ _ _ h)
inductive S13 where
 | e (c0 : Int)
abbrev R13 := Bool
noncomputable def t13_e (k : Nat) (rec : S13 → Option R13) (c0 : Int) : Option R13 :=
 bif c0 == 32 then
  some true
 else
  bif c0 == 9 then
   some true
  else
   bif c0 == 10 then
    some true
   else
    some (c0 == 13)
noncomputable def step13 (k : Nat) (rec : S13 → Option R13) : S13 → Option R13
 | .e c0 => t13_e k rec c0
noncomputable def g13 (k : Nat) (c0 : Int) : Option R13 := itS step13 k (.e c0)
inductive S28 where
 | e (c0 : Int)
abbrev R28 := Bool
noncomputable def t28_e (k : Nat) (rec : S28 → Option R28) (c0 : Int) : Option R28 :=
 bif decide (c0 ≥ 97) then
  bif decide (c0 ≤ 122) then
   some true
  else
   bif decide (c0 ≥ 65) then
    some (decide (c0 ≤ 90))
   else
    some false
 else
  bif decide (c0 ≥ 65) then
   some (decide (c0 ≤ 90))
  else
   some false
noncomputable def step28 (k : Nat) (rec : S28 → Option R28) : S28 → Option R28
 | .e c0 => t28_e k rec c0
noncomputable def g28 (k : Nat) (c0 : Int) : Option R28 := itS step28 k (.e c0)
inductive S32 where
 | e (c0 : Int)
abbrev R32 := Bool
noncomputable def t32_e (k : Nat) (rec : S32 → Option R32) (c0 : Int) : Option R32 :=
 bif decide (c0 ≥ 48) then
  some (decide (c0 ≤ 57))
 else
  some false
noncomputable def step32 (k : Nat) (rec : S32 → Option R32) : S32 → Option R32
 | .e c0 => t32_e k rec c0
noncomputable def g32 (k : Nat) (c0 : Int) : Option R32 := itS step32 k (.e c0)
inductive S29 where
 | e (s0 : ByteArray) (at1 : Int) (names2 : Bool)
 | h0 (s0 : ByteArray) (at1 : Int) (names2 : Bool) (n7 : Int)
 | h1 (s0 : ByteArray) (at1 : Int) (names2 : Bool) (n7 : Int) (t40 : Bool)
abbrev R29 := Int
noncomputable def t29_e (k : Nat) (rec : S29 → Option R29) (s0 : ByteArray) (at1 : Int) (names2 : Bool) : Option R29 :=
 rec (.h0 s0 at1 names2 0)
noncomputable def t29_h0 (k : Nat) (rec : S29 → Option R29) (s0 : ByteArray) (at1 : Int) (names2 : Bool) (n7 : Int) : Option R29 :=
 bif decide ((IntKind.i64.wrap (at1 + n7)) < (s0.size : Int)) then
  sxI s0 (IntKind.i64.wrap (at1 + n7)) fun c_x2 =>
  (g32 k c_x2).bind fun v_x4 =>
  bif v_x4 then
   rec (.h1 s0 at1 names2 n7 true)
  else
   bif names2 then
    (g28 k c_x2).bind fun v_x6 =>
    bif v_x6 then
     rec (.h1 s0 at1 names2 n7 true)
    else
     rec (.h1 s0 at1 names2 n7 (c_x2 == 95))
   else
    rec (.h1 s0 at1 names2 n7 false)
 else
  rec (.h1 s0 at1 names2 n7 false)
noncomputable def t29_h1 (k : Nat) (rec : S29 → Option R29) (s0 : ByteArray) (at1 : Int) (names2 : Bool) (n7 : Int) (t40 : Bool) : Option R29 :=
 bif t40 then
  rec (.h0 s0 at1 names2 (IntKind.i64.wrap (n7 + 1)))
 else
  some n7
noncomputable def step29 (k : Nat) (rec : S29 → Option R29) : S29 → Option R29
 | .e s0 at1 names2 => t29_e k rec s0 at1 names2
 | .h0 s0 at1 names2 n7 => t29_h0 k rec s0 at1 names2 n7
 | .h1 s0 at1 names2 n7 t40 => t29_h1 k rec s0 at1 names2 n7 t40
noncomputable def g29 (k : Nat) (s0 : ByteArray) (at1 : Int) (names2 : Bool) : Option R29 := itS step29 k (.e s0 at1 names2)
inductive S40 where
 | e
abbrev R40 := Rs
noncomputable def t40_e (k : Nat) (rec : S40 → Option R40) : Option R40 :=
 some [[sc (strB [80, 65, 84, 84, 69, 82, 78])], [sc (strB [83, 69, 81])], [sc (strB [87, 72, 69, 82, 69])], [sc (strB [83, 84, 82, 65, 84, 69, 71, 89])], [sc (strB [87, 73, 84, 72, 73, 78])], [sc (strB [80, 65, 82, 84, 73, 84, 73, 79, 78])], [sc (strB [66, 89])], [sc (strB [83, 84, 82, 73, 67, 84])], [sc (strB [78, 69, 88, 84])], [sc (strB [65, 78, 89])], [sc (strB [65, 78, 68])], [sc (strB [79, 82])], [sc (strB [78, 79, 84])], [sc (strB [84, 82, 85, 69])], [sc (strB [70, 65, 76, 83, 69])], [sc (strB [84, 73, 77, 69])], [sc (strB [82, 69, 65, 76])], [sc (strB [73, 83, 78, 65, 78])], [sc (strB [67, 79, 85, 78, 84])], [sc (strB [70, 73, 82, 83, 84])], [sc (strB [76, 65, 83, 84])], [sc (strB [83, 85, 77])], [sc (strB [77, 73, 78])], [sc (strB [77, 65, 88])], [sc (strB [77, 69, 65, 78])]]
noncomputable def step40 (k : Nat) (rec : S40 → Option R40) : S40 → Option R40
 | .e => t40_e k rec
noncomputable def g40 (k : Nat) : Option R40 := itS step40 k (.e)
inductive S30 where
 | e (s0 : ByteArray)
 | h0 (s0 : ByteArray) (t5 : Rs) (t6 : Int) (t7 : Int)
abbrev R30 := Bool
noncomputable def t30_e (k : Nat) (rec : S30 → Option R30) (s0 : ByteArray) : Option R30 :=
 (g40 k).bind fun v_x1 =>
 rec (.h0 s0 v_x1 (v_x1.length : Int) 0)
noncomputable def t30_h0 (k : Nat) (rec : S30 → Option R30) (s0 : ByteArray) (t5 : Rs) (t6 : Int) (t7 : Int) : Option R30 :=
 bif decide (t7 < t6) then
  ixR t5 t7 fun w_x2 =>
  un_s w_x2 fun x_x4 =>
  bif x_x4.toList == s0.toList then
   some true
  else
   rec (.h0 s0 t5 t6 (IntKind.i64.wrap (t7 + 1)))
 else
  some false
noncomputable def step30 (k : Nat) (rec : S30 → Option R30) : S30 → Option R30
 | .e s0 => t30_e k rec s0
 | .h0 s0 t5 t6 t7 => t30_h0 k rec s0 t5 t6 t7
noncomputable def g30 (k : Nat) (s0 : ByteArray) : Option R30 := itS step30 k (.e s0)
inductive S31 where
 | e (s0 : ByteArray)
 | h0 (s0 : ByteArray) (t21 : Bool)
 | h1 (s0 : ByteArray) (i3 : Int)
 | h2 (s0 : ByteArray) (i3 : Int) (t45 : Bool)
abbrev R31 := Bool
noncomputable def t31_e (k : Nat) (rec : S31 → Option R31) (s0 : ByteArray) : Option R31 :=
 bif decide ((s0.size : Int) < 1) then
  rec (.h0 s0 true)
 else
  bif decide ((s0.size : Int) > 24) then
   rec (.h0 s0 true)
  else
   sxI s0 0 fun c_x3 =>
   (g28 k c_x3).bind fun v_x5 =>
   bif !v_x5 then
    rec (.h0 s0 true)
   else
    (g30 k s0).bind fun v_x8 =>
    rec (.h0 s0 v_x8)
noncomputable def t31_h0 (k : Nat) (rec : S31 → Option R31) (s0 : ByteArray) (t21 : Bool) : Option R31 :=
 bif t21 then
  some false
 else
  rec (.h1 s0 0)
noncomputable def t31_h1 (k : Nat) (rec : S31 → Option R31) (s0 : ByteArray) (i3 : Int) : Option R31 :=
 bif decide (i3 < (s0.size : Int)) then
  sxI s0 i3 fun c_x2 =>
  (g28 k c_x2).bind fun v_x4 =>
  bif !v_x4 then
   (g32 k c_x2).bind fun v_x7 =>
   bif !v_x7 then
    rec (.h2 s0 i3 (c_x2 != 95))
   else
    rec (.h2 s0 i3 false)
  else
   rec (.h2 s0 i3 false)
 else
  some true
noncomputable def t31_h2 (k : Nat) (rec : S31 → Option R31) (s0 : ByteArray) (i3 : Int) (t45 : Bool) : Option R31 :=
 bif t45 then
  some false
 else
  rec (.h1 s0 (IntKind.i64.wrap (i3 + 1)))
noncomputable def step31 (k : Nat) (rec : S31 → Option R31) : S31 → Option R31
 | .e s0 => t31_e k rec s0
 | .h0 s0 t21 => t31_h0 k rec s0 t21
 | .h1 s0 i3 => t31_h1 k rec s0 i3
 | .h2 s0 i3 t45 => t31_h2 k rec s0 i3 t45
noncomputable def g31 (k : Nat) (s0 : ByteArray) : Option R31 := itS step31 k (.e s0)
inductive S20 where
 | e (n0 : Int)
 | h0 (n0 : Int) (s3 : ByteArray) (m4 : Int)
 | h1 (n0 : Int) (s3 : ByteArray) (m4 : Int)
abbrev R20 := ByteArray
noncomputable def t20_e (k : Nat) (rec : S20 → Option R20) (n0 : Int) : Option R20 :=
 bif decide (n0 < 0) then
  rec (.h0 n0 (strB []) (IntKind.u64.wrap ((0 : Int) - (IntKind.u64.wrap n0))))
 else
  rec (.h0 n0 (strB []) (IntKind.u64.wrap n0))
noncomputable def t20_h0 (k : Nat) (rec : S20 → Option R20) (n0 : Int) (s3 : ByteArray) (m4 : Int) : Option R20 :=
 rec (.h1 n0 s3 m4)
noncomputable def t20_h1 (k : Nat) (rec : S20 → Option R20) (n0 : Int) (s3 : ByteArray) (m4 : Int) : Option R20 :=
 bif decide (m4 > 9) then
  gd (decide ((strOfL [IntKind.u8.wrap (IntKind.u64.wrap ((48 : Int) + (Int.tmod m4 10)))]).size + s3.size ≤ 1000000000)) <|
  rec (.h1 n0 ((strOfL [IntKind.u8.wrap (IntKind.u64.wrap ((48 : Int) + (Int.tmod m4 10)))]) ++ s3) (IntKind.u64.wrap (Int.tdiv m4 10)))
 else
  gd (decide ((strOfL [IntKind.u8.wrap (IntKind.u64.wrap ((48 : Int) + m4))]).size + s3.size ≤ 1000000000)) <|
  bif decide (n0 < 0) then
   gd (decide ((strB [45]).size + ((strOfL [IntKind.u8.wrap (IntKind.u64.wrap ((48 : Int) + m4))]) ++ s3).size ≤ 1000000000)) <|
   some ((strB [45]) ++ ((strOfL [IntKind.u8.wrap (IntKind.u64.wrap ((48 : Int) + m4))]) ++ s3))
  else
   some ((strOfL [IntKind.u8.wrap (IntKind.u64.wrap ((48 : Int) + m4))]) ++ s3)
noncomputable def step20 (k : Nat) (rec : S20 → Option R20) : S20 → Option R20
 | .e n0 => t20_e k rec n0
 | .h0 n0 s3 m4 => t20_h0 k rec n0 s3 m4
 | .h1 n0 s3 m4 => t20_h1 k rec n0 s3 m4
noncomputable def g20 (k : Nat) (n0 : Int) : Option R20 := itS step20 k (.e n0)
end Ab
end Go.Proofs.YtniibdfnijeaeaaDoor
