/-
 Functions' ways, printed by a program: what each computes, and that this is what the interpreter computes.
-/
import Derived.Test.YtniibdfnijeaeaaDoorFSq
import Derived.KernelRfl
set_option linter.unusedVariables false
set_option linter.unusedSimpArgs false
set_option linter.unusedSectionVars false
namespace Go.Proofs.YtniibdfnijeaeaaDoor
namespace Ab
variable [Laid2]
inductive S41 where
 | e (s0 : ByteArray)
 | h0 (s0 : ByteArray) (d4 : ByteArray) (t16 : Bool)
 | h1 (s0 : ByteArray) (d4 : ByteArray)
 | h2 (s0 : ByteArray) (d4 : ByteArray) (n5 : Int) (i6 : Int)
 | h3 (s0 : ByteArray) (d4 : ByteArray) (n5 : Int) (i6 : Int) (t33 : Bool)
 | h4 (s0 : ByteArray) (d4 : ByteArray) (m7 : Int)
abbrev R41 := Int × Bool
noncomputable def t41_e (k : Nat) (rec : S41 → Option R41) (s0 : ByteArray) : Option R41 :=
 bif decide ((s0.size : Int) > 0) then
  sxI s0 0 fun c_x2 =>
  rec (.h0 s0 s0 (c_x2 == 45))
 else
  rec (.h0 s0 s0 false)
noncomputable def t41_h0 (k : Nat) (rec : S41 → Option R41) (s0 : ByteArray) (d4 : ByteArray) (t16 : Bool) : Option R41 :=
 bif t16 then
  gd (decide (0 ≤ (1 : Int) ∧ (1 : Int) ≤ (d4.size : Int) ∧ (d4.size : Int) ≤ (d4.size : Int))) <|
  rec (.h1 s0 (d4.extract (Int.toNat (1 : Int)) (Int.toNat (d4.size : Int))))
 else
  rec (.h1 s0 d4)
noncomputable def t41_h1 (k : Nat) (rec : S41 → Option R41) (s0 : ByteArray) (d4 : ByteArray) : Option R41 :=
 rec (.h2 s0 d4 0 0)
noncomputable def t41_h2 (k : Nat) (rec : S41 → Option R41) (s0 : ByteArray) (d4 : ByteArray) (n5 : Int) (i6 : Int) : Option R41 :=
 bif decide (i6 < (d4.size : Int)) then
  sxI d4 i6 fun c_x2 =>
  (g32 k c_x2).bind fun v_x4 =>
  bif !v_x4 then
   rec (.h3 s0 d4 n5 i6 true)
  else
   rec (.h3 s0 d4 n5 i6 (decide (i6 > 18)))
 else
  bif decide ((d4.size : Int) < (s0.size : Int)) then
   rec (.h4 s0 d4 (IntKind.i64.wrap ((0 : Int) - (IntKind.i64.wrap n5))))
  else
   rec (.h4 s0 d4 (IntKind.i64.wrap n5))
noncomputable def t41_h3 (k : Nat) (rec : S41 → Option R41) (s0 : ByteArray) (d4 : ByteArray) (n5 : Int) (i6 : Int) (t33 : Bool) : Option R41 :=
 bif t33 then
  some (0, false)
 else
  sxI d4 i6 fun c_x1 =>
  rec (.h2 s0 d4 (IntKind.u64.wrap ((IntKind.u64.wrap ((10 : Int) * n5)) + (IntKind.u64.wrap (IntKind.u8.wrap (c_x1 - 48))))) (IntKind.i64.wrap (i6 + 1)))
noncomputable def t41_h4 (k : Nat) (rec : S41 → Option R41) (s0 : ByteArray) (d4 : ByteArray) (m7 : Int) : Option R41 :=
 bif decide ((d4.size : Int) > 0) then
  (g20 k m7).bind fun v_x2 =>
  some (m7, v_x2.toList == s0.toList)
 else
  some (m7, false)
noncomputable def step41 (k : Nat) (rec : S41 → Option R41) : S41 → Option R41
 | .e s0 => t41_e k rec s0
 | .h0 s0 d4 t16 => t41_h0 k rec s0 d4 t16
 | .h1 s0 d4 => t41_h1 k rec s0 d4
 | .h2 s0 d4 n5 i6 => t41_h2 k rec s0 d4 n5 i6
 | .h3 s0 d4 n5 i6 t33 => t41_h3 k rec s0 d4 n5 i6 t33
 | .h4 s0 d4 m7 => t41_h4 k rec s0 d4 m7
noncomputable def g41 (k : Nat) (s0 : ByteArray) : Option R41 := itS step41 k (.e s0)
inductive S33 where
 | e (s0 : ByteArray) (at1 : Int)
 | h0 (s0 : ByteArray) (at1 : Int) (n6 : Int) (d7 : ByteArray) (m8 : Int) (t36 : Bool) (loc4_0 : Int) (loc4_1 : ByteArray) (loc4_2 : Int) (loc4_3 : Int) (loc4_4 : Int)
 | h1 (s0 : ByteArray) (at1 : Int) (n6 : Int) (d7 : ByteArray) (m8 : Int) (loc4_0 : Int) (loc4_1 : ByteArray) (loc4_2 : Int) (loc4_3 : Int) (loc4_4 : Int)
 | h2 (s0 : ByteArray) (at1 : Int) (n6 : Int) (d7 : ByteArray) (m8 : Int) (t67 : Bool) (loc4_0 : Int) (loc4_1 : ByteArray) (loc4_2 : Int) (loc4_3 : Int) (loc4_4 : Int)
 | h3 (n6 : Int) (m8 : Int) (x11 : Int) (t96 : Rs) (t97 : Int) (t98 : Int) (loc4_0 : Int) (loc4_1 : ByteArray) (loc4_2 : Int) (loc4_3 : Int) (loc4_4 : Int)
abbrev R33 := Int × ByteArray × Int × Int × Int × Int
noncomputable def t33_e (k : Nat) (rec : S33 → Option R33) (s0 : ByteArray) (at1 : Int) : Option R33 :=
 (g29 k s0 at1 false).bind fun v_x1 =>
 gd (decide (0 ≤ at1 ∧ at1 ≤ (IntKind.i64.wrap (at1 + v_x1)) ∧ (IntKind.i64.wrap (at1 + v_x1)) ≤ (s0.size : Int))) <|
 bif decide ((IntKind.i64.wrap (at1 + v_x1)) < (s0.size : Int)) then
  sxI s0 (IntKind.i64.wrap (at1 + v_x1)) fun c_x5 =>
  rec (.h0 s0 at1 v_x1 (s0.extract (Int.toNat at1) (Int.toNat (IntKind.i64.wrap (at1 + v_x1)))) 0 (c_x5 == 46) 0 (strB []) 0 0 0)
 else
  rec (.h0 s0 at1 v_x1 (s0.extract (Int.toNat at1) (Int.toNat (IntKind.i64.wrap (at1 + v_x1)))) 0 false 0 (strB []) 0 0 0)
noncomputable def t33_h0 (k : Nat) (rec : S33 → Option R33) (s0 : ByteArray) (at1 : Int) (n6 : Int) (d7 : ByteArray) (m8 : Int) (t36 : Bool) (loc4_0 : Int) (loc4_1 : ByteArray) (loc4_2 : Int) (loc4_3 : Int) (loc4_4 : Int) : Option R33 :=
 bif t36 then
  (g29 k s0 (IntKind.i64.wrap ((IntKind.i64.wrap (at1 + n6)) + 1)) false).bind fun v_x1 =>
  rec (.h1 s0 at1 n6 d7 v_x1 loc4_0 loc4_1 loc4_2 loc4_3 loc4_4)
 else
  rec (.h1 s0 at1 n6 d7 m8 loc4_0 loc4_1 loc4_2 loc4_3 loc4_4)
noncomputable def t33_h1 (k : Nat) (rec : S33 → Option R33) (s0 : ByteArray) (at1 : Int) (n6 : Int) (d7 : ByteArray) (m8 : Int) (loc4_0 : Int) (loc4_1 : ByteArray) (loc4_2 : Int) (loc4_3 : Int) (loc4_4 : Int) : Option R33 :=
 bif decide (n6 > 1) then
  sxI d7 0 fun c_x2 =>
  bif c_x2 == 48 then
   rec (.h2 s0 at1 n6 d7 m8 true loc4_0 loc4_1 loc4_2 loc4_3 loc4_4)
  else
   bif m8 == 0 then
    bif decide (n6 > 19) then
     rec (.h2 s0 at1 n6 d7 m8 true loc4_0 loc4_1 loc4_2 loc4_3 loc4_4)
    else
     rec (.h2 s0 at1 n6 d7 m8 false loc4_0 loc4_1 loc4_2 loc4_3 loc4_4)
   else
    bif decide (m8 > 0) then
     rec (.h2 s0 at1 n6 d7 m8 (decide ((IntKind.i64.wrap (n6 + m8)) > 15)) loc4_0 loc4_1 loc4_2 loc4_3 loc4_4)
    else
     rec (.h2 s0 at1 n6 d7 m8 false loc4_0 loc4_1 loc4_2 loc4_3 loc4_4)
 else
  bif m8 == 0 then
   bif decide (n6 > 19) then
    rec (.h2 s0 at1 n6 d7 m8 true loc4_0 loc4_1 loc4_2 loc4_3 loc4_4)
   else
    rec (.h2 s0 at1 n6 d7 m8 false loc4_0 loc4_1 loc4_2 loc4_3 loc4_4)
  else
   bif decide (m8 > 0) then
    rec (.h2 s0 at1 n6 d7 m8 (decide ((IntKind.i64.wrap (n6 + m8)) > 15)) loc4_0 loc4_1 loc4_2 loc4_3 loc4_4)
   else
    rec (.h2 s0 at1 n6 d7 m8 false loc4_0 loc4_1 loc4_2 loc4_3 loc4_4)
noncomputable def t33_h2 (k : Nat) (rec : S33 → Option R33) (s0 : ByteArray) (at1 : Int) (n6 : Int) (d7 : ByteArray) (m8 : Int) (t67 : Bool) (loc4_0 : Int) (loc4_1 : ByteArray) (loc4_2 : Int) (loc4_3 : Int) (loc4_4 : Int) : Option R33 :=
 bif t67 then
  some (0, strB [], 0, 0, 0, 0)
 else
  bif m8 == 0 then
   (g41 k d7).bind fun v_x2 =>
   tup2 v_x2 fun r00_x4 r10_x4 =>
   bif !r10_x4 then
    some (0, strB [], 0, 0, 0, 0)
   else
    some (3, strB [], r00_x4, 0, 0, n6)
  else
   gd (decide (0 ≤ (IntKind.i64.wrap ((IntKind.i64.wrap (at1 + n6)) + 1)) ∧ (IntKind.i64.wrap ((IntKind.i64.wrap (at1 + n6)) + 1)) ≤ (IntKind.i64.wrap ((IntKind.i64.wrap ((IntKind.i64.wrap (at1 + n6)) + 1)) + m8)) ∧ (IntKind.i64.wrap ((IntKind.i64.wrap ((IntKind.i64.wrap (at1 + n6)) + 1)) + m8)) ≤ (s0.size : Int))) <|
   gd (decide (d7.size + (s0.extract (Int.toNat (IntKind.i64.wrap ((IntKind.i64.wrap (at1 + n6)) + 1))) (Int.toNat (IntKind.i64.wrap ((IntKind.i64.wrap ((IntKind.i64.wrap (at1 + n6)) + 1)) + m8)))).size ≤ 1000000000)) <|
   rec (.h3 n6 m8 0 (byteRows (d7 ++ (s0.extract (Int.toNat (IntKind.i64.wrap ((IntKind.i64.wrap (at1 + n6)) + 1))) (Int.toNat (IntKind.i64.wrap ((IntKind.i64.wrap ((IntKind.i64.wrap (at1 + n6)) + 1)) + m8)))))) ((byteRows (d7 ++ (s0.extract (Int.toNat (IntKind.i64.wrap ((IntKind.i64.wrap (at1 + n6)) + 1))) (Int.toNat (IntKind.i64.wrap ((IntKind.i64.wrap ((IntKind.i64.wrap (at1 + n6)) + 1)) + m8)))))).length : Int) 0 loc4_0 loc4_1 loc4_2 loc4_3 loc4_4)
noncomputable def t33_h3 (k : Nat) (rec : S33 → Option R33) (n6 : Int) (m8 : Int) (x11 : Int) (t96 : Rs) (t97 : Int) (t98 : Int) (loc4_0 : Int) (loc4_1 : ByteArray) (loc4_2 : Int) (loc4_3 : Int) (loc4_4 : Int) : Option R33 :=
 bif decide (t98 < t97) then
  ixR t96 t98 fun w_x2 =>
  un_y w_x2 fun x_x4 =>
  rec (.h3 n6 m8 (IntKind.i64.wrap ((IntKind.i64.wrap ((10 : Int) * x11)) + (IntKind.i64.wrap (IntKind.u8.wrap (x_x4 - 48))))) t96 t97 (IntKind.i64.wrap (t98 + 1)) loc4_0 loc4_1 loc4_2 loc4_3 loc4_4)
 else
  some (4, strB [], x11, m8, 0, IntKind.i64.wrap ((IntKind.i64.wrap (n6 + 1)) + m8))
noncomputable def step33 (k : Nat) (rec : S33 → Option R33) : S33 → Option R33
 | .e s0 at1 => t33_e k rec s0 at1
 | .h0 s0 at1 n6 d7 m8 t36 loc4_0 loc4_1 loc4_2 loc4_3 loc4_4 => t33_h0 k rec s0 at1 n6 d7 m8 t36 loc4_0 loc4_1 loc4_2 loc4_3 loc4_4
 | .h1 s0 at1 n6 d7 m8 loc4_0 loc4_1 loc4_2 loc4_3 loc4_4 => t33_h1 k rec s0 at1 n6 d7 m8 loc4_0 loc4_1 loc4_2 loc4_3 loc4_4
 | .h2 s0 at1 n6 d7 m8 t67 loc4_0 loc4_1 loc4_2 loc4_3 loc4_4 => t33_h2 k rec s0 at1 n6 d7 m8 t67 loc4_0 loc4_1 loc4_2 loc4_3 loc4_4
 | .h3 n6 m8 x11 t96 t97 t98 loc4_0 loc4_1 loc4_2 loc4_3 loc4_4 => t33_h3 k rec n6 m8 x11 t96 t97 t98 loc4_0 loc4_1 loc4_2 loc4_3 loc4_4
noncomputable def g33 (k : Nat) (s0 : ByteArray) (at1 : Int) : Option R33 := itS step33 k (.e s0 at1)
inductive S18 where
 | e (s0 : ByteArray) (at1 : Int)
 | h0 (n9 : Int) (w10 : ByteArray) (t79 : Bool) (loc4_0 : Int) (loc4_1 : ByteArray) (loc4_2 : Int) (loc4_3 : Int) (loc4_4 : Int)
 | h1 (s0 : ByteArray) (at1 : Int) (t85 : Rs) (t86 : Int) (t87 : Int) (loc4_0 : Int) (loc4_1 : ByteArray) (loc4_2 : Int) (loc4_3 : Int) (loc4_4 : Int)
 | h2 (s0 : ByteArray) (at1 : Int) (w12 : ByteArray) (t85 : Rs) (t86 : Int) (t87 : Int) (t108 : Bool) (loc4_0 : Int) (loc4_1 : ByteArray) (loc4_2 : Int) (loc4_3 : Int) (loc4_4 : Int)
abbrev R18 := Int × ByteArray × Int × Int × Int × Int
noncomputable def t18_e (k : Nat) (rec : S18 → Option R18) (s0 : ByteArray) (at1 : Int) : Option R18 :=
 sxI s0 at1 fun c_x1 =>
 (g28 k c_x1).bind fun v_x3 =>
 bif v_x3 then
  (g29 k s0 at1 true).bind fun v_x5 =>
  gd (decide (0 ≤ at1 ∧ at1 ≤ (IntKind.i64.wrap (at1 + v_x5)) ∧ (IntKind.i64.wrap (at1 + v_x5)) ≤ (s0.size : Int))) <|
  (g30 k (s0.extract (Int.toNat at1) (Int.toNat (IntKind.i64.wrap (at1 + v_x5))))).bind fun v_x8 =>
  bif v_x8 then
   some (1, (s0.extract (Int.toNat at1) (Int.toNat (IntKind.i64.wrap (at1 + v_x5)))), 0, 0, 0, v_x5)
  else
   (g31 k (s0.extract (Int.toNat at1) (Int.toNat (IntKind.i64.wrap (at1 + v_x5))))).bind fun v_x10 =>
   bif v_x10 then
    some (2, (s0.extract (Int.toNat at1) (Int.toNat (IntKind.i64.wrap (at1 + v_x5)))), 0, 0, 0, v_x5)
   else
    some (0, strB [], 0, 0, 0, 0)
 else
  (g32 k c_x1).bind fun v_x5 =>
  bif v_x5 then
   (g33 k s0 at1).bind fun v_x7 =>
   tup6 v_x7 fun r00_x9 r01_x9 r02_x9 r03_x9 r04_x9 r10_x9 =>
   some (r00_x9, r01_x9, r02_x9, r03_x9, r04_x9, r10_x9)
  else
   bif c_x1 == 39 then
    (g29 k s0 (IntKind.i64.wrap (at1 + 1)) true).bind fun v_x8 =>
    gd (decide (0 ≤ (IntKind.i64.wrap (at1 + 1)) ∧ (IntKind.i64.wrap (at1 + 1)) ≤ (IntKind.i64.wrap ((IntKind.i64.wrap (at1 + 1)) + v_x8)) ∧ (IntKind.i64.wrap ((IntKind.i64.wrap (at1 + 1)) + v_x8)) ≤ (s0.size : Int))) <|
    (g31 k (s0.extract (Int.toNat (IntKind.i64.wrap (at1 + 1))) (Int.toNat (IntKind.i64.wrap ((IntKind.i64.wrap (at1 + 1)) + v_x8))))).bind fun v_x11 =>
    bif !v_x11 then
     rec (.h0 v_x8 (s0.extract (Int.toNat (IntKind.i64.wrap (at1 + 1))) (Int.toNat (IntKind.i64.wrap ((IntKind.i64.wrap (at1 + 1)) + v_x8)))) true 0 (strB []) 0 0 0)
    else
     bif decide ((IntKind.i64.wrap ((IntKind.i64.wrap (at1 + 1)) + v_x8)) ≥ (s0.size : Int)) then
      rec (.h0 v_x8 (s0.extract (Int.toNat (IntKind.i64.wrap (at1 + 1))) (Int.toNat (IntKind.i64.wrap ((IntKind.i64.wrap (at1 + 1)) + v_x8)))) true 0 (strB []) 0 0 0)
     else
      sxI s0 (IntKind.i64.wrap ((IntKind.i64.wrap (at1 + 1)) + v_x8)) fun c_x15 =>
      rec (.h0 v_x8 (s0.extract (Int.toNat (IntKind.i64.wrap (at1 + 1))) (Int.toNat (IntKind.i64.wrap ((IntKind.i64.wrap (at1 + 1)) + v_x8)))) (c_x15 != 39) 0 (strB []) 0 0 0)
   else
    rec (.h1 s0 at1 [[sc (strB [33, 61])], [sc (strB [60, 61])], [sc (strB [62, 61])], [sc (strB [40])], [sc (strB [41])], [sc (strB [44])], [sc (strB [46])], [sc (strB [43])], [sc (strB [45])], [sc (strB [42])], [sc (strB [47])], [sc (strB [37])], [sc (strB [61])], [sc (strB [60])], [sc (strB [62])], [sc (strB [33])], [sc (strB [124])]] 17 0 0 (strB []) 0 0 0)
noncomputable def t18_h0 (k : Nat) (rec : S18 → Option R18) (n9 : Int) (w10 : ByteArray) (t79 : Bool) (loc4_0 : Int) (loc4_1 : ByteArray) (loc4_2 : Int) (loc4_3 : Int) (loc4_4 : Int) : Option R18 :=
 bif t79 then
  some (0, strB [], 0, 0, 0, 0)
 else
  some (5, w10, 0, 0, 0, IntKind.i64.wrap (n9 + 2))
noncomputable def t18_h1 (k : Nat) (rec : S18 → Option R18) (s0 : ByteArray) (at1 : Int) (t85 : Rs) (t86 : Int) (t87 : Int) (loc4_0 : Int) (loc4_1 : ByteArray) (loc4_2 : Int) (loc4_3 : Int) (loc4_4 : Int) : Option R18 :=
 bif decide (t87 < t86) then
  ixR t85 t87 fun w_x2 =>
  un_s w_x2 fun x_x4 =>
  bif decide ((IntKind.i64.wrap (at1 + (x_x4.size : Int))) ≤ (s0.size : Int)) then
   gd (decide (0 ≤ at1 ∧ at1 ≤ (IntKind.i64.wrap (at1 + (x_x4.size : Int))) ∧ (IntKind.i64.wrap (at1 + (x_x4.size : Int))) ≤ (s0.size : Int))) <|
   rec (.h2 s0 at1 x_x4 t85 t86 t87 ((s0.extract (Int.toNat at1) (Int.toNat (IntKind.i64.wrap (at1 + (x_x4.size : Int))))).toList == x_x4.toList) loc4_0 loc4_1 loc4_2 loc4_3 loc4_4)
  else
   rec (.h2 s0 at1 x_x4 t85 t86 t87 false loc4_0 loc4_1 loc4_2 loc4_3 loc4_4)
 else
  some (0, strB [], 0, 0, 0, 0)
noncomputable def t18_h2 (k : Nat) (rec : S18 → Option R18) (s0 : ByteArray) (at1 : Int) (w12 : ByteArray) (t85 : Rs) (t86 : Int) (t87 : Int) (t108 : Bool) (loc4_0 : Int) (loc4_1 : ByteArray) (loc4_2 : Int) (loc4_3 : Int) (loc4_4 : Int) : Option R18 :=
 bif t108 then
  some (6, w12, 0, 0, 0, (w12.size : Int))
 else
  rec (.h1 s0 at1 t85 t86 (IntKind.i64.wrap (t87 + 1)) loc4_0 loc4_1 loc4_2 loc4_3 loc4_4)
noncomputable def step18 (k : Nat) (rec : S18 → Option R18) : S18 → Option R18
 | .e s0 at1 => t18_e k rec s0 at1
 | .h0 n9 w10 t79 loc4_0 loc4_1 loc4_2 loc4_3 loc4_4 => t18_h0 k rec n9 w10 t79 loc4_0 loc4_1 loc4_2 loc4_3 loc4_4
 | .h1 s0 at1 t85 t86 t87 loc4_0 loc4_1 loc4_2 loc4_3 loc4_4 => t18_h1 k rec s0 at1 t85 t86 t87 loc4_0 loc4_1 loc4_2 loc4_3 loc4_4
 | .h2 s0 at1 w12 t85 t86 t87 t108 loc4_0 loc4_1 loc4_2 loc4_3 loc4_4 => t18_h2 k rec s0 at1 w12 t85 t86 t87 t108 loc4_0 loc4_1 loc4_2 loc4_3 loc4_4
noncomputable def g18 (k : Nat) (s0 : ByteArray) (at1 : Int) : Option R18 := itS step18 k (.e s0 at1)
inductive S9 where
 | e (s0 : ByteArray)
 | h0 (t2 : Rs) (t3 : Int) (t4 : Int)
 | h1 (s0 : ByteArray) (l5 : Rs) (at6 : Int)
 | h2 (s0 : ByteArray) (l5 : Rs) (at6 : Int)
 | h3 (s0 : ByteArray) (l5 : Rs) (at6 : Int) (t21 : Bool)
 | h4 (t2 : Rs) (t3 : Int) (t4 : Int)
 | h5 (t2 : Rs) (t3 : Int) (t4 : Int)
abbrev R9 := Rs × Int × Int
noncomputable def t9_e (k : Nat) (rec : S9 → Option R9) (s0 : ByteArray) : Option R9 :=
 bif decide ((s0.size : Int) > 4000) then
  rec (.h0 [] 0 2)
 else
  rec (.h1 s0 [] 0)
noncomputable def t9_h0 (k : Nat) (rec : S9 → Option R9) (t2 : Rs) (t3 : Int) (t4 : Int) : Option R9 :=
 some (t2, t3, t4)
noncomputable def t9_h1 (k : Nat) (rec : S9 → Option R9) (s0 : ByteArray) (l5 : Rs) (at6 : Int) : Option R9 :=
 rec (.h2 s0 l5 at6)
noncomputable def t9_h2 (k : Nat) (rec : S9 → Option R9) (s0 : ByteArray) (l5 : Rs) (at6 : Int) : Option R9 :=
 bif decide (at6 < (s0.size : Int)) then
  sxI s0 at6 fun c_x2 =>
  (g13 k c_x2).bind fun v_x4 =>
  rec (.h3 s0 l5 at6 v_x4)
 else
  rec (.h3 s0 l5 at6 false)
noncomputable def t9_h3 (k : Nat) (rec : S9 → Option R9) (s0 : ByteArray) (l5 : Rs) (at6 : Int) (t21 : Bool) : Option R9 :=
 bif t21 then
  rec (.h2 s0 l5 (IntKind.i64.wrap (at6 + 1)))
 else
  bif at6 == (s0.size : Int) then
   gd (apOk 48 5 l5 [[ic 0, sc (strB []), ic 0, ic 0, ic at6]]) <|
   rec (.h4 (l5 ++ [[ic 0, sc (strB []), ic 0, ic 0, ic at6]]) 0 0)
  else
   (g18 k s0 at6).bind fun v_x2 =>
   tup6 v_x2 fun r00_x4 r01_x4 r02_x4 r03_x4 r04_x4 r10_x4 =>
   bif r10_x4 == 0 then
    rec (.h5 [] at6 12)
   else
    gd (apOk 48 5 l5 [[ic r00_x4, sc r01_x4, ic r02_x4, ic r03_x4, ic at6]]) <|
    rec (.h1 s0 (l5 ++ [[ic r00_x4, sc r01_x4, ic r02_x4, ic r03_x4, ic at6]]) (IntKind.i64.wrap (at6 + r10_x4)))
noncomputable def t9_h4 (k : Nat) (rec : S9 → Option R9) (t2 : Rs) (t3 : Int) (t4 : Int) : Option R9 :=
 some (t2, t3, t4)
noncomputable def t9_h5 (k : Nat) (rec : S9 → Option R9) (t2 : Rs) (t3 : Int) (t4 : Int) : Option R9 :=
 some (t2, t3, t4)
noncomputable def step9 (k : Nat) (rec : S9 → Option R9) : S9 → Option R9
 | .e s0 => t9_e k rec s0
 | .h0 t2 t3 t4 => t9_h0 k rec t2 t3 t4
 | .h1 s0 l5 at6 => t9_h1 k rec s0 l5 at6
 | .h2 s0 l5 at6 => t9_h2 k rec s0 l5 at6
 | .h3 s0 l5 at6 t21 => t9_h3 k rec s0 l5 at6 t21
 | .h4 t2 t3 t4 => t9_h4 k rec t2 t3 t4
 | .h5 t2 t3 t4 => t9_h5 k rec t2 t3 t4
noncomputable def g9 (k : Nat) (s0 : ByteArray) : Option R9 := itS step9 k (.e s0)
inductive S10 where
 | e
abbrev R10 := Bool
def res10 : R10 → ARes
 | r => .ret (.c (bc r))
def bx10 : R10 → List (List Cell)
 | r => []
noncomputable def t10_e (k : Nat) (rec : S10 → Option R10) : Option R10 :=
 (g8 k (strB [97, 60, 61, 49, 46, 53, 48])).bind fun v_x1 =>
 altC v_x1 (fun v_x3 => 
   tup3 v_x3 fun r00_x4 r10_x4 r20_x4 =>
   bif r20_x4 == 0 then
    bif r10_x4 == 0 then
     bif (r00_x4.length : Int) == 4 then
      ixR r00_x4 1 fun w_x8 =>
      un_isi3 w_x8 fun kind_x10 text_x10 n_x10 scale_x10 at_x10 =>
      bif text_x10.toList == (strB [60, 61]).toList then
       ixR r00_x4 2 fun w_x12 =>
       un_isi3 w_x12 fun kind_x14 text_x14 n_x14 scale_x14 at_x14 =>
       bif n_x14 == 150 then
        bif scale_x14 == 2 then
         ixR r00_x4 3 fun w_x17 =>
         un_isi3 w_x17 fun kind_x19 text_x19 n_x19 scale_x19 at_x19 =>
         some (at_x19 == 7)
        else
         some false
       else
        some false
      else
       some false
     else
      some false
    else
     some false
   else
    some false) (fun v_x3 => 
   tup2 v_x3 fun r10_x4 r20_x4 =>
   bif r20_x4 == 0 then
    bif r10_x4 == 0 then
     some false
    else
     some false
   else
    some false)
noncomputable def step10 (k : Nat) (rec : S10 → Option R10) : S10 → Option R10
 | .e => t10_e k rec
noncomputable def g10 (k : Nat) : Option R10 := itS step10 k (.e)
noncomputable def P10 : S10 → R10 → Prop
 | .e, r => Fin cx10 Tryd.f10 [.code body10] (fr0 Tryd.f10 [] []) (res10 r) (bx10 r)
theorem evr10 {r : R10} (h : P10 (.e) r) : Ev Tryd.prog noHand 10 [] [] (res10 r) (bx10 r) := ev_of_fin (fn := Tryd.f10) (body := body10) (by kernel_rfl) (by kernel_rfl) (by kernel_rfl) rfl h
theorem t10_e_ok (k : Nat) (rec : S10 → Option R10) (ih : ∀ s r, rec s = some r → P10 s r) (r : R10) (h : t10_e k rec = some r) : P10 (.e) r := by
 unfold t10_e at h
 obtain ⟨v_x1, h_x2, h⟩ := bd_or h
 replace h := altC_or h; rcases h with ⟨v_x3, rfl, h⟩ | ⟨v_x3, rfl, h⟩
 ·
  replace h := tup3_or h; obtain ⟨r00_x4, r10_x4, r20_x4, rfl, h⟩ := h
  rcases bif_or h with ⟨h_x5, h⟩ | ⟨h_x5, h⟩
  ·
   rcases bif_or h with ⟨h_x6, h⟩ | ⟨h_x6, h⟩
   ·
    rcases bif_or h with ⟨h_x7, h⟩ | ⟨h_x7, h⟩
    ·
     obtain ⟨w_x8, h_x9, h⟩ := ixR_or h
     replace h := un_isi3_or h; obtain ⟨kind_x10, text_x10, n_x10, scale_x10, at_x10, rfl, h⟩ := h
     rcases bif_or h with ⟨h_x11, h⟩ | ⟨h_x11, h⟩
     ·
      obtain ⟨w_x12, h_x13, h⟩ := ixR_or h
      replace h := un_isi3_or h; obtain ⟨kind_x14, text_x14, n_x14, scale_x14, at_x14, rfl, h⟩ := h
      rcases bif_or h with ⟨h_x15, h⟩ | ⟨h_x15, h⟩
      ·
       rcases bif_or h with ⟨h_x16, h⟩ | ⟨h_x16, h⟩
       ·
        obtain ⟨w_x17, h_x18, h⟩ := ixR_or h
        replace h := un_isi3_or h; obtain ⟨kind_x19, text_x19, n_x19, scale_x19, at_x19, rfl, h⟩ := h
        rw [← Option.some.inj h]
        exact mF 0 hmix [aC 5 ⟨.tup [false, false, false], [[.imm r00_x4], [ic r10_x4], [ic r20_x4]]⟩, aT 10, aT 13, aT 18, (some 22, .row [ic kind_x10, sc text_x10, ic n_x10, ic scale_x10, ic at_x10]), aT 25, (some 29, .row [ic kind_x14, sc text_x14, ic n_x14, ic scale_x14, ic at_x14]), aT 32, (some 36, .row [ic kind_x14, sc text_x14, ic n_x14, ic scale_x14, ic at_x14]), aT 39, (some 43, .row [ic kind_x19, sc text_x19, ic n_x19, ic scale_x19, ic at_x19])] [_, _, _, _, _, _, _, _, _, _, _] (by kernel_rfl) ⟨(ev8 h_x2), h_x5, h_x6, h_x7, ix_row h_x9 rfl, h_x11, ix_row h_x13 rfl, h_x15, ix_row h_x13 rfl, h_x16, ix_row h_x18 rfl, trivial⟩
       ·
        rw [← Option.some.inj h]
        exact mF 0 hmix [aC 5 ⟨.tup [false, false, false], [[.imm r00_x4], [ic r10_x4], [ic r20_x4]]⟩, aT 10, aT 13, aT 18, (some 22, .row [ic kind_x10, sc text_x10, ic n_x10, ic scale_x10, ic at_x10]), aT 25, (some 29, .row [ic kind_x14, sc text_x14, ic n_x14, ic scale_x14, ic at_x14]), aT 32, (some 36, .row [ic kind_x14, sc text_x14, ic n_x14, ic scale_x14, ic at_x14]), aF 39] [_, _, _, _, _, _, _, _, _, _] (by kernel_rfl) ⟨(ev8 h_x2), h_x5, h_x6, h_x7, ix_row h_x9 rfl, h_x11, ix_row h_x13 rfl, h_x15, ix_row h_x13 rfl, h_x16, trivial⟩
      ·
       rw [← Option.some.inj h]
       exact mF 0 hmix [aC 5 ⟨.tup [false, false, false], [[.imm r00_x4], [ic r10_x4], [ic r20_x4]]⟩, aT 10, aT 13, aT 18, (some 22, .row [ic kind_x10, sc text_x10, ic n_x10, ic scale_x10, ic at_x10]), aT 25, (some 29, .row [ic kind_x14, sc text_x14, ic n_x14, ic scale_x14, ic at_x14]), aF 32] [_, _, _, _, _, _, _, _] (by kernel_rfl) ⟨(ev8 h_x2), h_x5, h_x6, h_x7, ix_row h_x9 rfl, h_x11, ix_row h_x13 rfl, h_x15, trivial⟩
     ·
      rw [← Option.some.inj h]
      exact mF 0 hmix [aC 5 ⟨.tup [false, false, false], [[.imm r00_x4], [ic r10_x4], [ic r20_x4]]⟩, aT 10, aT 13, aT 18, (some 22, .row [ic kind_x10, sc text_x10, ic n_x10, ic scale_x10, ic at_x10]), aF 25] [_, _, _, _, _, _] (by kernel_rfl) ⟨(ev8 h_x2), h_x5, h_x6, h_x7, ix_row h_x9 rfl, h_x11, trivial⟩
    ·
     rw [← Option.some.inj h]
     exact mF 0 hmix [aC 5 ⟨.tup [false, false, false], [[.imm r00_x4], [ic r10_x4], [ic r20_x4]]⟩, aT 10, aT 13, aF 18] [_, _, _, _] (by kernel_rfl) ⟨(ev8 h_x2), h_x5, h_x6, h_x7, trivial⟩
   ·
    rw [← Option.some.inj h]
    exact mF 0 hmix [aC 5 ⟨.tup [false, false, false], [[.imm r00_x4], [ic r10_x4], [ic r20_x4]]⟩, aT 10, aF 13] [_, _, _] (by kernel_rfl) ⟨(ev8 h_x2), h_x5, h_x6, trivial⟩
  ·
   rw [← Option.some.inj h]
   exact mF 0 hmix [aC 5 ⟨.tup [false, false, false], [[.imm r00_x4], [ic r10_x4], [ic r20_x4]]⟩, aF 10] [_, _] (by kernel_rfl) ⟨(ev8 h_x2), h_x5, trivial⟩
 ·
  replace h := tup2_or h; obtain ⟨r10_x4, r20_x4, rfl, h⟩ := h
  rcases bif_or h with ⟨h_x5, h⟩ | ⟨h_x5, h⟩
  ·
   rcases bif_or h with ⟨h_x6, h⟩ | ⟨h_x6, h⟩
   ·
    rw [← Option.some.inj h]
    exact mF 0 hmix [aC 5 ⟨.tup [false, false, false], [[.nil], [ic r10_x4], [ic r20_x4]]⟩, aT 10, aT 13] [_, _, _] (by kernel_rfl) ⟨(ev8 h_x2), h_x5, h_x6, trivial⟩
   ·
    rw [← Option.some.inj h]
    exact mF 0 hmix [aC 5 ⟨.tup [false, false, false], [[.nil], [ic r10_x4], [ic r20_x4]]⟩, aT 10, aF 13] [_, _, _] (by kernel_rfl) ⟨(ev8 h_x2), h_x5, h_x6, trivial⟩
  ·
   rw [← Option.some.inj h]
   exact mF 0 hmix [aC 5 ⟨.tup [false, false, false], [[.nil], [ic r10_x4], [ic r20_x4]]⟩, aF 10] [_, _] (by kernel_rfl) ⟨(ev8 h_x2), h_x5, trivial⟩
theorem ok10 : ∀ k s r, itS step10 k s = some r → P10 s r := itS_ok fun k rec ih s r h => match s, h with
 | .e, h => t10_e_ok k rec ih r h
theorem ev10 {k : Nat} {r : R10} (h : g10 k = some r) : Ev Tryd.prog noHand 10 [] [] (res10 r) (bx10 r) := evr10 (ok10 _ _ _ h)
inductive S11 where
 | e (a0 : Rs) (b1 : Rs)
 | h0 (b1 : Rs) (t12 : Rs) (t13 : Int) (t14 : Int)
abbrev R11 := Bool
noncomputable def t11_e (k : Nat) (rec : S11 → Option R11) (a0 : Rs) (b1 : Rs) : Option R11 :=
 bif (a0.length : Int) != (b1.length : Int) then
  some false
 else
  rec (.h0 b1 a0 (a0.length : Int) 0)
noncomputable def t11_h0 (k : Nat) (rec : S11 → Option R11) (b1 : Rs) (t12 : Rs) (t13 : Int) (t14 : Int) : Option R11 :=
 bif decide (t14 < t13) then
  ixR t12 t14 fun w_x2 =>
  un_isi3 w_x2 fun kind_x4 text_x4 n_x4 scale_x4 at_x4 =>
  ixR b1 t14 fun w_x5 =>
  un_isi3 w_x5 fun kind_x7 text_x7 n_x7 scale_x7 at_x7 =>
  bif !(kind_x4 == kind_x7 && (text_x4.toList == text_x7.toList && (n_x4 == n_x7 && (scale_x4 == scale_x7 && (at_x4 == at_x7 && true))))) then
   some false
  else
   rec (.h0 b1 t12 t13 (IntKind.i64.wrap (t14 + 1)))
 else
  some true
noncomputable def step11 (k : Nat) (rec : S11 → Option R11) : S11 → Option R11
 | .e a0 b1 => t11_e k rec a0 b1
 | .h0 b1 t12 t13 t14 => t11_h0 k rec b1 t12 t13 t14
noncomputable def g11 (k : Nat) (a0 : Rs) (b1 : Rs) : Option R11 := itS step11 k (.e a0 b1)
inductive S3 where
 | e (s0 : ByteArray)
abbrev R3 := Bool
noncomputable def t3_e (k : Nat) (rec : S3 → Option R3) (s0 : ByteArray) : Option R3 :=
 (g8 k s0).bind fun v_x1 =>
 altC v_x1 (fun v_x3 => 
   tup3 v_x3 fun r00_x4 r10_x4 r20_x4 =>
   (g9 k s0).bind fun v_x5 =>
   tup3 v_x5 fun r00_x7 r10_x7 r20_x7 =>
   (g10 k).bind fun v_x8 =>
   bif v_x8 then
    (g11 k r00_x4 (immRs r00_x7)).bind fun v_x10 =>
    bif v_x10 then
     bif r10_x4 == r10_x7 then
      some (r20_x4 == r20_x7)
     else
      some false
    else
     some false
   else
    some false) (fun v_x3 => 
   tup2 v_x3 fun r10_x4 r20_x4 =>
   (g9 k s0).bind fun v_x5 =>
   tup3 v_x5 fun r00_x7 r10_x7 r20_x7 =>
   (g10 k).bind fun v_x8 =>
   bif v_x8 then
    (g11 k [] (immRs r00_x7)).bind fun v_x10 =>
    bif v_x10 then
     bif r10_x4 == r10_x7 then
      some (r20_x4 == r20_x7)
     else
      some false
    else
     some false
   else
    some false)
noncomputable def step3 (k : Nat) (rec : S3 → Option R3) : S3 → Option R3
 | .e s0 => t3_e k rec s0
noncomputable def g3 (k : Nat) (s0 : ByteArray) : Option R3 := itS step3 k (.e s0)
inductive S5 where
 | e (s0 : ByteArray)
 | h0 (s0 : ByteArray) (at4 : Int) (e5 : Int) (t23 : Bool)
 | h1 (s0 : ByteArray) (at4 : Int) (t53 : Bool)
abbrev R5 := Bool
noncomputable def t5_e (k : Nat) (rec : S5 → Option R5) (s0 : ByteArray) : Option R5 :=
 (g8 k s0).bind fun v_x1 =>
 altC v_x1 (fun v_x3 => 
   tup3 v_x3 fun r00_x4 r10_x4 r20_x4 =>
   (g10 k).bind fun v_x5 =>
   bif !v_x5 then
    rec (.h0 s0 r10_x4 r20_x4 true)
   else
    rec (.h0 s0 r10_x4 r20_x4 (r20_x4 != 12))) (fun v_x3 => 
   tup2 v_x3 fun r10_x4 r20_x4 =>
   (g10 k).bind fun v_x5 =>
   bif !v_x5 then
    rec (.h0 s0 r10_x4 r20_x4 true)
   else
    rec (.h0 s0 r10_x4 r20_x4 (r20_x4 != 12)))
noncomputable def t5_h0 (k : Nat) (rec : S5 → Option R5) (s0 : ByteArray) (at4 : Int) (e5 : Int) (t23 : Bool) : Option R5 :=
 bif t23 then
  (g10 k).bind fun v_x1 =>
  bif v_x1 then
   bif e5 == 0 then
    bif at4 == 0 then
     some true
    else
     some false
   else
    bif e5 == 2 then
     bif decide ((s0.size : Int) > 4000) then
      some (at4 == 0)
     else
      some false
    else
     some false
  else
   some false
 else
  bif decide (at4 < 0) then
   rec (.h1 s0 at4 true)
  else
   rec (.h1 s0 at4 (decide (at4 ≥ (s0.size : Int))))
noncomputable def t5_h1 (k : Nat) (rec : S5 → Option R5) (s0 : ByteArray) (at4 : Int) (t53 : Bool) : Option R5 :=
 bif t53 then
  some false
 else
  gd (decide (0 ≤ (0 : Int) ∧ (0 : Int) ≤ at4 ∧ at4 ≤ (s0.size : Int))) <|
  (g8 k (s0.extract (Int.toNat (0 : Int)) (Int.toNat at4))).bind fun v_x2 =>
  altC v_x2 (fun v_x4 => 
    tup3 v_x4 fun r00_x5 r10_x5 r20_x5 =>
    gd (decide (0 ≤ at4 ∧ at4 ≤ (s0.size : Int) ∧ (s0.size : Int) ≤ (s0.size : Int))) <|
    (g8 k (s0.extract (Int.toNat at4) (Int.toNat (s0.size : Int)))).bind fun v_x7 =>
    altC v_x7 (fun v_x9 => 
      tup3 v_x9 fun r00_x10 r10_x10 r20_x10 =>
      bif r20_x5 == 0 then
       bif r20_x10 == 12 then
        some (r10_x10 == 0)
       else
        some false
      else
       some false) (fun v_x9 => 
      tup2 v_x9 fun r10_x10 r20_x10 =>
      bif r20_x5 == 0 then
       bif r20_x10 == 12 then
        some (r10_x10 == 0)
       else
        some false
      else
       some false)) (fun v_x4 => 
    tup2 v_x4 fun r10_x5 r20_x5 =>
    gd (decide (0 ≤ at4 ∧ at4 ≤ (s0.size : Int) ∧ (s0.size : Int) ≤ (s0.size : Int))) <|
    (g8 k (s0.extract (Int.toNat at4) (Int.toNat (s0.size : Int)))).bind fun v_x7 =>
    altC v_x7 (fun v_x9 => 
      tup3 v_x9 fun r00_x10 r10_x10 r20_x10 =>
      bif r20_x5 == 0 then
       bif r20_x10 == 12 then
        some (r10_x10 == 0)
       else
        some false
      else
       some false) (fun v_x9 => 
      tup2 v_x9 fun r10_x10 r20_x10 =>
      bif r20_x5 == 0 then
       bif r20_x10 == 12 then
        some (r10_x10 == 0)
       else
        some false
      else
       some false))
noncomputable def step5 (k : Nat) (rec : S5 → Option R5) : S5 → Option R5
 | .e s0 => t5_e k rec s0
 | .h0 s0 at4 e5 t23 => t5_h0 k rec s0 at4 e5 t23
 | .h1 s0 at4 t53 => t5_h1 k rec s0 at4 t53
noncomputable def g5 (k : Nat) (s0 : ByteArray) : Option R5 := itS step5 k (.e s0)
inductive S14 where
 | e (t0_0 : Int) (t0_1 : ByteArray) (t0_2 : Int) (t0_3 : Int) (t0_4 : Int)
 | h0 (d3 : ByteArray) (loc1_0 : Int) (loc1_1 : ByteArray) (loc1_2 : Int) (loc1_3 : Int) (loc1_4 : Int)
 | h1 (d3 : ByteArray) (t32 : Bool) (loc1_0 : Int) (loc1_1 : ByteArray) (loc1_2 : Int) (loc1_3 : Int) (loc1_4 : Int)
abbrev R14 := ByteArray
def res14 : R14 → ARes
 | r => .ret (.c (sc r))
def bx14 : R14 → List (List Cell)
 | r => []
noncomputable def t14_e (k : Nat) (rec : S14 → Option R14) (t0_0 : Int) (t0_1 : ByteArray) (t0_2 : Int) (t0_3 : Int) (t0_4 : Int) : Option R14 :=
 bif t0_0 == 3 then
  (fmtX t0_2).bind fun v_x2 =>
  some v_x2
 else
  bif t0_0 == 4 then
   (fmtX t0_2).bind fun v_x3 =>
   rec (.h0 v_x3 t0_0 t0_1 t0_2 t0_3 t0_4)
  else
   bif t0_0 == 5 then
    gd (decide ((strB [39]).size + t0_1.size ≤ 1000000000)) <|
    gd (decide (((strB [39]) ++ t0_1).size + (strB [39]).size ≤ 1000000000)) <|
    some (((strB [39]) ++ t0_1) ++ (strB [39]))
   else
    some t0_1
noncomputable def t14_h0 (k : Nat) (rec : S14 → Option R14) (d3 : ByteArray) (loc1_0 : Int) (loc1_1 : ByteArray) (loc1_2 : Int) (loc1_3 : Int) (loc1_4 : Int) : Option R14 :=
 bif decide ((d3.size : Int) ≤ loc1_3) then
  gd (decide ((strB [48]).size + d3.size ≤ 1000000000)) <|
  rec (.h0 ((strB [48]) ++ d3) loc1_0 loc1_1 loc1_2 loc1_3 loc1_4)
 else
  bif decide (loc1_3 < 0) then
   rec (.h1 d3 true loc1_0 loc1_1 loc1_2 loc1_3 loc1_4)
  else
   rec (.h1 d3 (decide ((d3.size : Int) < loc1_3)) loc1_0 loc1_1 loc1_2 loc1_3 loc1_4)
noncomputable def t14_h1 (k : Nat) (rec : S14 → Option R14) (d3 : ByteArray) (t32 : Bool) (loc1_0 : Int) (loc1_1 : ByteArray) (loc1_2 : Int) (loc1_3 : Int) (loc1_4 : Int) : Option R14 :=
 bif t32 then
  some (strB [])
 else
  gd (decide (0 ≤ (0 : Int) ∧ (0 : Int) ≤ (IntKind.i64.wrap ((d3.size : Int) - loc1_3)) ∧ (IntKind.i64.wrap ((d3.size : Int) - loc1_3)) ≤ (d3.size : Int))) <|
  gd (decide ((d3.extract (Int.toNat (0 : Int)) (Int.toNat (IntKind.i64.wrap ((d3.size : Int) - loc1_3)))).size + (strB [46]).size ≤ 1000000000)) <|
  gd (decide (0 ≤ (IntKind.i64.wrap ((d3.size : Int) - loc1_3)) ∧ (IntKind.i64.wrap ((d3.size : Int) - loc1_3)) ≤ (d3.size : Int) ∧ (d3.size : Int) ≤ (d3.size : Int))) <|
  gd (decide (((d3.extract (Int.toNat (0 : Int)) (Int.toNat (IntKind.i64.wrap ((d3.size : Int) - loc1_3)))) ++ (strB [46])).size + (d3.extract (Int.toNat (IntKind.i64.wrap ((d3.size : Int) - loc1_3))) (Int.toNat (d3.size : Int))).size ≤ 1000000000)) <|
  some (((d3.extract (Int.toNat (0 : Int)) (Int.toNat (IntKind.i64.wrap ((d3.size : Int) - loc1_3)))) ++ (strB [46])) ++ (d3.extract (Int.toNat (IntKind.i64.wrap ((d3.size : Int) - loc1_3))) (Int.toNat (d3.size : Int))))
noncomputable def step14 (k : Nat) (rec : S14 → Option R14) : S14 → Option R14
 | .e t0_0 t0_1 t0_2 t0_3 t0_4 => t14_e k rec t0_0 t0_1 t0_2 t0_3 t0_4
 | .h0 d3 loc1_0 loc1_1 loc1_2 loc1_3 loc1_4 => t14_h0 k rec d3 loc1_0 loc1_1 loc1_2 loc1_3 loc1_4
 | .h1 d3 t32 loc1_0 loc1_1 loc1_2 loc1_3 loc1_4 => t14_h1 k rec d3 t32 loc1_0 loc1_1 loc1_2 loc1_3 loc1_4
noncomputable def g14 (k : Nat) (t0_0 : Int) (t0_1 : ByteArray) (t0_2 : Int) (t0_3 : Int) (t0_4 : Int) : Option R14 := itS step14 k (.e t0_0 t0_1 t0_2 t0_3 t0_4)
noncomputable def P14 : S14 → R14 → Prop
 | .e t0_0 t0_1 t0_2 t0_3 t0_4, r => Fin cx14 Tryd.f14 [.code body14] (fr0 Tryd.f14 [.ag [ic t0_0, sc t0_1, ic t0_2, ic t0_3, ic t0_4]] []) (res14 r) (bx14 r)
 | .h0 d3 loc1_0 loc1_1 loc1_2 loc1_3 loc1_4, r => Fin cx14 Tryd.f14 (kAt body14 [1, 0, 1, 0, 1, 1, 1, 0, 1, 0, 0, 4] []) ⟨[.deadv, .c (.ptr ⟨⟨.loc 1, []⟩, 0, 0⟩), .deadv, .c (sc d3)] ++ rep 53 .deadv, [(.loc 1, [ic loc1_0, sc loc1_1, ic loc1_2, ic loc1_3, ic loc1_4])]⟩ (res14 r) (bx14 r)
 | .h1 d3 t32 loc1_0 loc1_1 loc1_2 loc1_3 loc1_4, r => Fin cx14 Tryd.f14 (kAt body14 [1, 0, 1, 0, 1, 1, 1, 0, 1, 1, 0, 1, 2] []) ⟨[.deadv, .c (.ptr ⟨⟨.loc 1, []⟩, 0, 0⟩), .deadv, .c (sc d3)] ++ rep 28 .deadv ++ [.c (bc t32)] ++ rep 24 .deadv, [(.loc 1, [ic loc1_0, sc loc1_1, ic loc1_2, ic loc1_3, ic loc1_4])]⟩ (res14 r) (bx14 r)
theorem evr14 {t0_0 : Int} {t0_1 : ByteArray} {t0_2 : Int} {t0_3 : Int} {t0_4 : Int} {r : R14} (h : P14 (.e t0_0 t0_1 t0_2 t0_3 t0_4) r) : Ev Tryd.prog noHand 14 [.ag [ic t0_0, sc t0_1, ic t0_2, ic t0_3, ic t0_4]] [] (res14 r) (bx14 r) := ev_of_fin (fn := Tryd.f14) (body := body14) (by kernel_rfl) (by kernel_rfl) (by kernel_rfl) rfl h
theorem t14_e_ok (k : Nat) (rec : S14 → Option R14) (ih : ∀ s r, rec s = some r → P14 s r) (t0_0 : Int) (t0_1 : ByteArray) (t0_2 : Int) (t0_3 : Int) (t0_4 : Int) (r : R14) (h : t14_e k rec t0_0 t0_1 t0_2 t0_3 t0_4 = some r) : P14 (.e t0_0 t0_1 t0_2 t0_3 t0_4) r := by
 unfold t14_e at h
 rcases bif_or h with ⟨h_x1, h⟩ | ⟨h_x1, h⟩
 ·
  obtain ⟨v_x2, h_x3, h⟩ := bd_or h
  rw [← Option.some.inj h]
  exact mF 0 hmix [aT 7, aC 10 (.c (sc v_x2))] [_, _] (by kernel_rfl) ⟨h_x1, (fmtX_ev h_x3), trivial⟩
 ·
  rcases bif_or h with ⟨h_x2, h⟩ | ⟨h_x2, h⟩
  ·
   obtain ⟨v_x3, h_x4, h⟩ := bd_or h
   exact mA 0 hmix (ih _ _ h) 17 [aF 7, aT 12, aC 15 (.c (sc v_x3))] [_, _, _] (bm 57 144115188075855861) (by kernel_rfl) ⟨h_x1, h_x2, (fmtX_ev h_x4), trivial⟩
  ·
   rcases bif_or h with ⟨h_x3, h⟩ | ⟨h_x3, h⟩
   ·
    obtain ⟨h_x4, h⟩ := gd_or h
    obtain ⟨h_x5, h⟩ := gd_or h
    rw [← Option.some.inj h]
    exact mF 0 hmix [aF 7, aF 12, aT 50, (some 53, .scat), (some 54, .scat)] [_, _, _, _, _] (by kernel_rfl) ⟨h_x1, h_x2, h_x3, of_decide_eq_true h_x4, of_decide_eq_true h_x5, trivial⟩
   ·
    rw [← Option.some.inj h]
    exact mF 0 hmix [aF 7, aF 12, aF 50] [_, _, _] (by kernel_rfl) ⟨h_x1, h_x2, h_x3, trivial⟩
theorem t14_h0_ok (k : Nat) (rec : S14 → Option R14) (ih : ∀ s r, rec s = some r → P14 s r) (d3 : ByteArray) (loc1_0 : Int) (loc1_1 : ByteArray) (loc1_2 : Int) (loc1_3 : Int) (loc1_4 : Int) (r : R14) (h : t14_h0 k rec d3 loc1_0 loc1_1 loc1_2 loc1_3 loc1_4 = some r) : P14 (.h0 d3 loc1_0 loc1_1 loc1_2 loc1_3 loc1_4) r := by
 unfold t14_h0 at h
 rcases bif_or h with ⟨h_x1, h⟩ | ⟨h_x1, h⟩
 ·
  obtain ⟨h_x2, h⟩ := gd_or h
  exact mA 0 hmix (ih _ _ h) 9 [aT 20, (some 22, .scat)] [_, _] (bm 57 144115188075855861) (by kernel_rfl) ⟨h_x1, of_decide_eq_true h_x2, trivial⟩
 ·
  rcases bif_or h with ⟨h_x2, h⟩ | ⟨h_x2, h⟩
  ·
   exact mA 0 hmix (ih _ _ h) 9 [aF 20, aT 25] [_, _] (bm 57 144115183780888565) (by kernel_rfl) ⟨h_x1, h_x2, trivial⟩
  ·
   exact mA 0 hmix (ih _ _ h) 9 [aF 20, aF 25] [_, _] (bm 57 144115183780888565) (by kernel_rfl) ⟨h_x1, h_x2, trivial⟩
theorem t14_h1_ok (k : Nat) (rec : S14 → Option R14) (ih : ∀ s r, rec s = some r → P14 s r) (d3 : ByteArray) (t32 : Bool) (loc1_0 : Int) (loc1_1 : ByteArray) (loc1_2 : Int) (loc1_3 : Int) (loc1_4 : Int) (r : R14) (h : t14_h1 k rec d3 t32 loc1_0 loc1_1 loc1_2 loc1_3 loc1_4 = some r) : P14 (.h1 d3 t32 loc1_0 loc1_1 loc1_2 loc1_3 loc1_4) r := by
 unfold t14_h1 at h
 replace h := bif_or h; rcases h with ⟨rfl, h⟩ | ⟨rfl, h⟩
 ·
  rw [← Option.some.inj h]
  exact mF 0 hmix [] [] (by kernel_rfl) trivial
 ·
  obtain ⟨h_x1, h⟩ := gd_or h
  obtain ⟨h_x2, h⟩ := gd_or h
  obtain ⟨h_x3, h⟩ := gd_or h
  obtain ⟨h_x4, h⟩ := gd_or h
  rw [← Option.some.inj h]
  exact mF 0 hmix [aS 39, (some 40, .scat), aS 47, (some 48, .scat)] [_, _, _, _] (by kernel_rfl) ⟨of_decide_eq_true h_x1, of_decide_eq_true h_x2, of_decide_eq_true h_x3, of_decide_eq_true h_x4, trivial⟩
theorem ok14 : ∀ k s r, itS step14 k s = some r → P14 s r := itS_ok fun k rec ih s r h => match s, h with
 | .e t0_0 t0_1 t0_2 t0_3 t0_4, h => t14_e_ok k rec ih t0_0 t0_1 t0_2 t0_3 t0_4 r h
 | .h0 d3 loc1_0 loc1_1 loc1_2 loc1_3 loc1_4, h => t14_h0_ok k rec ih d3 loc1_0 loc1_1 loc1_2 loc1_3 loc1_4 r h
 | .h1 d3 t32 loc1_0 loc1_1 loc1_2 loc1_3 loc1_4, h => t14_h1_ok k rec ih d3 t32 loc1_0 loc1_1 loc1_2 loc1_3 loc1_4 r h
theorem ev14 {k : Nat} {t0_0 : Int} {t0_1 : ByteArray} {t0_2 : Int} {t0_3 : Int} {t0_4 : Int} {r : R14} (h : g14 k t0_0 t0_1 t0_2 t0_3 t0_4 = some r) : Ev Tryd.prog noHand 14 [.ag [ic t0_0, sc t0_1, ic t0_2, ic t0_3, ic t0_4]] [] (res14 r) (bx14 r) := evr14 (ok14 _ _ _ h)
inductive S21 where
 | e (n0 : Int) (scale1 : Int)
 | h0 (n0 : Int) (scale1 : Int) (ten5 : Int) (i6 : Int)
 | h1 (n0 : Int) (scale1 : Int) (ten5 : Int) (d7 : ByteArray)
abbrev R21 := ByteArray
noncomputable def t21_e (k : Nat) (rec : S21 → Option R21) (n0 : Int) (scale1 : Int) : Option R21 :=
 rec (.h0 n0 scale1 1 0)
noncomputable def t21_h0 (k : Nat) (rec : S21 → Option R21) (n0 : Int) (scale1 : Int) (ten5 : Int) (i6 : Int) : Option R21 :=
 bif decide (i6 < scale1) then
  rec (.h0 n0 scale1 (IntKind.i64.wrap (ten5 * 10)) (IntKind.i64.wrap (i6 + 1)))
 else
  gd (decide (ten5 ≠ 0)) <|
  (g20 k (Int.tmod n0 ten5)).bind fun v_x3 =>
  rec (.h1 n0 scale1 ten5 v_x3)
noncomputable def t21_h1 (k : Nat) (rec : S21 → Option R21) (n0 : Int) (scale1 : Int) (ten5 : Int) (d7 : ByteArray) : Option R21 :=
 bif decide ((d7.size : Int) < scale1) then
  gd (decide ((strB [48]).size + d7.size ≤ 1000000000)) <|
  rec (.h1 n0 scale1 ten5 ((strB [48]) ++ d7))
 else
  gd (decide (ten5 ≠ 0)) <|
  (g20 k (IntKind.i64.wrap (Int.tdiv n0 ten5))).bind fun v_x3 =>
  gd (decide (v_x3.size + (strB [46]).size ≤ 1000000000)) <|
  gd (decide ((v_x3 ++ (strB [46])).size + d7.size ≤ 1000000000)) <|
  some ((v_x3 ++ (strB [46])) ++ d7)
noncomputable def step21 (k : Nat) (rec : S21 → Option R21) : S21 → Option R21
 | .e n0 scale1 => t21_e k rec n0 scale1
 | .h0 n0 scale1 ten5 i6 => t21_h0 k rec n0 scale1 ten5 i6
 | .h1 n0 scale1 ten5 d7 => t21_h1 k rec n0 scale1 ten5 d7
noncomputable def g21 (k : Nat) (n0 : Int) (scale1 : Int) : Option R21 := itS step21 k (.e n0 scale1)
inductive S15 where
 | e (t0_0 : Int) (t0_1 : ByteArray) (t0_2 : Int) (t0_3 : Int) (t0_4 : Int)
abbrev R15 := ByteArray
noncomputable def t15_e (k : Nat) (rec : S15 → Option R15) (t0_0 : Int) (t0_1 : ByteArray) (t0_2 : Int) (t0_3 : Int) (t0_4 : Int) : Option R15 :=
 bif t0_0 == 3 then
  (g20 k t0_2).bind fun v_x2 =>
  some v_x2
 else
  bif t0_0 == 4 then
   (g21 k t0_2 t0_3).bind fun v_x3 =>
   some v_x3
  else
   bif t0_0 == 5 then
    gd (decide ((strB [39]).size + t0_1.size ≤ 1000000000)) <|
    gd (decide (((strB [39]) ++ t0_1).size + (strB [39]).size ≤ 1000000000)) <|
    some (((strB [39]) ++ t0_1) ++ (strB [39]))
   else
    some t0_1
noncomputable def step15 (k : Nat) (rec : S15 → Option R15) : S15 → Option R15
 | .e t0_0 t0_1 t0_2 t0_3 t0_4 => t15_e k rec t0_0 t0_1 t0_2 t0_3 t0_4
noncomputable def g15 (k : Nat) (t0_0 : Int) (t0_1 : ByteArray) (t0_2 : Int) (t0_3 : Int) (t0_4 : Int) : Option R15 := itS step15 k (.e t0_0 t0_1 t0_2 t0_3 t0_4)
inductive S6 where
 | e (s0 : ByteArray)
 | h0 (s0 : ByteArray) (a3 : Rs) (b6 : Rs) (t25 : Bool)
 | h1 (s0 : ByteArray) (b6 : Rs) (t37 : Rs) (t38 : Int) (t39 : Int)
 | h2 (s0 : ByteArray) (b6 : Rs) (t37 : Rs) (t38 : Int) (t39 : Int) (t80 : Bool)
inductive S7 where
 | e (s0 : ByteArray) (blank1 : Int)
 | h0 (blank1 : Int) (l5 : Rs) (t26 : Bool)
 | h1 (blank1 : Int) (l5 : Rs) (t8 : ByteArray) (t28 : Rs) (t29 : Int) (t30 : Int)
 | h2 (l5 : Rs) (m11 : Rs) (f13 : Int) (t55 : Bool)
 | h3 (l5 : Rs) (m11 : Rs) (t66 : Bool)
 | h4 (l5 : Rs) (m11 : Rs) (t68 : Int) (t69 : Int)
 | h5 (l5 : Rs) (m11 : Rs) (t68 : Int) (t69 : Int) (t121 : Bool)
abbrev R7 := Bool
def res7 : R7 → ARes
 | r => .ret (.c (bc r))
def bx7 : R7 → List (List Cell)
 | r => []
noncomputable def t7_e (k : Nat) (rec : S7 → Option R7) (s0 : ByteArray) (blank1 : Int) : Option R7 :=
 (g8 k s0).bind fun v_x1 =>
 altC v_x1 (fun v_x3 => 
   tup3 v_x3 fun r00_x4 r10_x4 r20_x4 =>
   (g10 k).bind fun v_x5 =>
   bif !v_x5 then
    rec (.h0 blank1 r00_x4 true)
   else
    rec (.h0 blank1 r00_x4 (r20_x4 != 0))) (fun v_x3 => 
   tup2 v_x3 fun r10_x4 r20_x4 =>
   (g10 k).bind fun v_x5 =>
   bif !v_x5 then
    rec (.h0 blank1 [] true)
   else
    rec (.h0 blank1 [] (r20_x4 != 0)))
noncomputable def t7_h0 (k : Nat) (rec : S7 → Option R7) (blank1 : Int) (l5 : Rs) (t26 : Bool) : Option R7 :=
 bif t26 then
  (g10 k).bind fun v_x1 =>
  some v_x1
 else
  rec (.h1 blank1 l5 (strB []) l5 (l5.length : Int) 0)
noncomputable def t7_h1 (k : Nat) (rec : S7 → Option R7) (blank1 : Int) (l5 : Rs) (t8 : ByteArray) (t28 : Rs) (t29 : Int) (t30 : Int) : Option R7 :=
 bif decide (t30 < t29) then
  ixR t28 t30 fun w_x2 =>
  un_isi3 w_x2 fun kind_x4 text_x4 n_x4 scale_x4 at_x4 =>
  (g14 k kind_x4 text_x4 n_x4 scale_x4 at_x4).bind fun v_x5 =>
  ixR [[sc (strB [32])], [sc (strB [10])], [sc (strB [9])], [sc (strB [13])], [sc (strB [32, 32])]] (IntKind.i64.wrap (Int.tmod (IntKind.u64.wrap blank1) 5)) fun w_x7 =>
  un_s w_x7 fun x_x9 =>
  gd (decide (v_x5.size + x_x9.size ≤ 1000000000)) <|
  gd (decide (t8.size + (v_x5 ++ x_x9).size ≤ 1000000000)) <|
  rec (.h1 blank1 l5 (t8 ++ (v_x5 ++ x_x9)) t28 t29 (IntKind.i64.wrap (t30 + 1)))
 else
  (g8 k t8).bind fun v_x2 =>
  altC v_x2 (fun v_x4 => 
    tup3 v_x4 fun r00_x5 r10_x5 r20_x5 =>
    rec (.h2 l5 r00_x5 r20_x5 (decide ((t8.size : Int) > 4000)))) (fun v_x4 => 
    tup2 v_x4 fun r10_x5 r20_x5 =>
    rec (.h2 l5 [] r20_x5 (decide ((t8.size : Int) > 4000))))
noncomputable def t7_h2 (k : Nat) (rec : S7 → Option R7) (l5 : Rs) (m11 : Rs) (f13 : Int) (t55 : Bool) : Option R7 :=
 bif t55 then
  some (f13 == 2)
 else
  bif f13 != 0 then
   rec (.h3 l5 m11 true)
  else
   rec (.h3 l5 m11 ((m11.length : Int) != (l5.length : Int)))
noncomputable def t7_h3 (k : Nat) (rec : S7 → Option R7) (l5 : Rs) (m11 : Rs) (t66 : Bool) : Option R7 :=
 bif t66 then
  some false
 else
  rec (.h4 l5 m11 (m11.length : Int) 0)
noncomputable def t7_h4 (k : Nat) (rec : S7 → Option R7) (l5 : Rs) (m11 : Rs) (t68 : Int) (t69 : Int) : Option R7 :=
 bif decide (t69 < t68) then
  ixR m11 t69 fun w_x2 =>
  un_isi3 w_x2 fun kind_x4 text_x4 n_x4 scale_x4 at_x4 =>
  ixR l5 t69 fun w_x5 =>
  un_isi3 w_x5 fun kind_x7 text_x7 n_x7 scale_x7 at_x7 =>
  bif kind_x4 != kind_x7 then
   rec (.h5 l5 m11 t68 t69 true)
  else
   bif !(text_x4.toList == text_x7.toList) then
    rec (.h5 l5 m11 t68 t69 true)
   else
    bif n_x4 != n_x7 then
     rec (.h5 l5 m11 t68 t69 true)
    else
     rec (.h5 l5 m11 t68 t69 (scale_x4 != scale_x7))
 else
  some true
noncomputable def t7_h5 (k : Nat) (rec : S7 → Option R7) (l5 : Rs) (m11 : Rs) (t68 : Int) (t69 : Int) (t121 : Bool) : Option R7 :=
 bif t121 then
  some false
 else
  rec (.h4 l5 m11 t68 (IntKind.i64.wrap (t69 + 1)))
noncomputable def step7 (k : Nat) (rec : S7 → Option R7) : S7 → Option R7
 | .e s0 blank1 => t7_e k rec s0 blank1
 | .h0 blank1 l5 t26 => t7_h0 k rec blank1 l5 t26
 | .h1 blank1 l5 t8 t28 t29 t30 => t7_h1 k rec blank1 l5 t8 t28 t29 t30
 | .h2 l5 m11 f13 t55 => t7_h2 k rec l5 m11 f13 t55
 | .h3 l5 m11 t66 => t7_h3 k rec l5 m11 t66
 | .h4 l5 m11 t68 t69 => t7_h4 k rec l5 m11 t68 t69
 | .h5 l5 m11 t68 t69 t121 => t7_h5 k rec l5 m11 t68 t69 t121
noncomputable def g7 (k : Nat) (s0 : ByteArray) (blank1 : Int) : Option R7 := itS step7 k (.e s0 blank1)
noncomputable def P7 : S7 → R7 → Prop
 | .e s0 blank1, r => Fin cx7 Tryd.f7 [.code body7] (fr0 Tryd.f7 [.c (sc s0), .c (ic blank1)] []) (res7 r) (bx7 r)
 | .h0 blank1 l5 t26, r => Fin cx7 Tryd.f7 (kAt body7 [1, 1, 0, 1, 2] []) ⟨[.deadv, .c (ic blank1)] ++ rep 3 .deadv ++ [.c (.imm l5)] ++ rep 20 .deadv ++ [.c (bc t26)] ++ rep 96 .deadv, []⟩ (res7 r) (bx7 r)
 | .h1 blank1 l5 t8 t28 t29 t30, r => Fin cx7 Tryd.f7 (kAt body7 [1, 1, 1, 1, 0, 1, 0, 4] []) ⟨[.deadv, .c (ic blank1)] ++ rep 3 .deadv ++ [.c (.imm l5), .deadv, .deadv, .c (sc t8)] ++ rep 19 .deadv ++ [.c (.imm t28), .c (ic t29), .c (ic t30)] ++ rep 92 .deadv, []⟩ (res7 r) (bx7 r)
 | .h2 l5 m11 f13 t55, r => Fin cx7 Tryd.f7 (kAt body7 [1, 1, 1, 1, 1, 1, 0, 1, 2] []) ⟨rep 5 .deadv ++ [.c (.imm l5)] ++ rep 5 .deadv ++ [.c (.imm m11), .deadv, .c (ic f13)] ++ rep 41 .deadv ++ [.c (bc t55)] ++ rep 67 .deadv, []⟩ (res7 r) (bx7 r)
 | .h3 l5 m11 t66, r => Fin cx7 Tryd.f7 (kAt body7 [1, 1, 1, 1, 1, 1, 1, 0, 1, 2] []) ⟨rep 5 .deadv ++ [.c (.imm l5)] ++ rep 5 .deadv ++ [.c (.imm m11)] ++ rep 54 .deadv ++ [.c (bc t66)] ++ rep 56 .deadv, []⟩ (res7 r) (bx7 r)
 | .h4 l5 m11 t68 t69, r => Fin cx7 Tryd.f7 (kAt body7 [1, 1, 1, 1, 1, 1, 1, 1, 0, 1, 0, 4] []) ⟨rep 5 .deadv ++ [.c (.imm l5)] ++ rep 5 .deadv ++ [.c (.imm m11)] ++ rep 56 .deadv ++ [.c (ic t68), .c (ic t69)] ++ rep 53 .deadv, []⟩ (res7 r) (bx7 r)
 | .h5 l5 m11 t68 t69 t121, r => Fin cx7 Tryd.f7 (kAt body7 [1, 1, 1, 1, 1, 1, 1, 1, 0, 1, 0, 0, 1, 1, 0, 0, 1, 1, 2] []) ⟨rep 5 .deadv ++ [.c (.imm l5)] ++ rep 5 .deadv ++ [.c (.imm m11)] ++ rep 56 .deadv ++ [.c (ic t68), .c (ic t69)] ++ rep 51 .deadv ++ [.c (bc t121), .deadv], []⟩ (res7 r) (bx7 r)
theorem evr7 {s0 : ByteArray} {blank1 : Int} {r : R7} (h : P7 (.e s0 blank1) r) : Ev Tryd.prog noHand 7 [.c (sc s0), .c (ic blank1)] [] (res7 r) (bx7 r) := ev_of_fin (fn := Tryd.f7) (body := body7) (by kernel_rfl) (by kernel_rfl) (by kernel_rfl) rfl h
theorem t7_e_ok (k : Nat) (rec : S7 → Option R7) (ih : ∀ s r, rec s = some r → P7 s r) (s0 : ByteArray) (blank1 : Int) (r : R7) (h : t7_e k rec s0 blank1 = some r) : P7 (.e s0 blank1) r := by
 unfold t7_e at h
 obtain ⟨v_x1, h_x2, h⟩ := bd_or h
 replace h := altC_or h; rcases h with ⟨v_x3, rfl, h⟩ | ⟨v_x3, rfl, h⟩
 ·
  replace h := tup3_or h; obtain ⟨r00_x4, r10_x4, r20_x4, rfl, h⟩ := h
  obtain ⟨v_x5, h_x6, h⟩ := bd_or h
  rcases bif_or h with ⟨h_x7, h⟩ | ⟨h_x7, h⟩
  ·
   exact mA 0 hmix (ih _ _ h) 7 [aC 17 ⟨.tup [false, false, false], [[.imm r00_x4], [ic r10_x4], [ic r20_x4]]⟩, aC 21 (.c (bc v_x5)), aT 22] [_, _, _] (bm 123 10633823966279326983230456482175647709) (by kernel_rfl) ⟨(ev8 h_x2), (ev10 h_x6), h_x7, trivial⟩
  ·
   exact mA 0 hmix (ih _ _ h) 7 [aC 17 ⟨.tup [false, false, false], [[.imm r00_x4], [ic r10_x4], [ic r20_x4]]⟩, aC 21 (.c (bc v_x5)), aF 22] [_, _, _] (bm 123 10633823966279326983230456482175647709) (by kernel_rfl) ⟨(ev8 h_x2), (ev10 h_x6), h_x7, trivial⟩
 ·
  replace h := tup2_or h; obtain ⟨r10_x4, r20_x4, rfl, h⟩ := h
  obtain ⟨v_x5, h_x6, h⟩ := bd_or h
  rcases bif_or h with ⟨h_x7, h⟩ | ⟨h_x7, h⟩
  ·
   exact mgo_at (nb := 0) hmix (ih _ _ h) (n := 7) (ad := [aC 17 ⟨.tup [false, false, false], [[.nil], [ic r10_x4], [ic r20_x4]]⟩, aC 21 (.c (bc v_x5)), aT 22]) (ps := [_, _, _]) (m := bm 123 10633823966279326983230456482175647709) (ls := []) (cs := [(⟨⟨.slot 5, []⟩, 0, 0⟩, none)]) (by kernel_rfl) ⟨(ev8 h_x2), (ev10 h_x6), h_x7, trivial⟩
  ·
   exact mgo_at (nb := 0) hmix (ih _ _ h) (n := 7) (ad := [aC 17 ⟨.tup [false, false, false], [[.nil], [ic r10_x4], [ic r20_x4]]⟩, aC 21 (.c (bc v_x5)), aF 22]) (ps := [_, _, _]) (m := bm 123 10633823966279326983230456482175647709) (ls := []) (cs := [(⟨⟨.slot 5, []⟩, 0, 0⟩, none)]) (by kernel_rfl) ⟨(ev8 h_x2), (ev10 h_x6), h_x7, trivial⟩
theorem t7_h0_ok (k : Nat) (rec : S7 → Option R7) (ih : ∀ s r, rec s = some r → P7 s r) (blank1 : Int) (l5 : Rs) (t26 : Bool) (r : R7) (h : t7_h0 k rec blank1 l5 t26 = some r) : P7 (.h0 blank1 l5 t26) r := by
 unfold t7_h0 at h
 replace h := bif_or h; rcases h with ⟨rfl, h⟩ | ⟨rfl, h⟩
 ·
  obtain ⟨v_x1, h_x2, h⟩ := bd_or h
  rw [← Option.some.inj h]
  exact mF 0 hmix [aC 27 (.c (bc v_x1))] [_] (by kernel_rfl) ⟨(ev10 h_x2), trivial⟩
 ·
  exact mA 0 hmix (ih _ _ h) 9 [] [] (bm 123 10633823966279326983230456480363708125) (by kernel_rfl) trivial
theorem t7_h1_ok (k : Nat) (rec : S7 → Option R7) (ih : ∀ s r, rec s = some r → P7 s r) (blank1 : Int) (l5 : Rs) (t8 : ByteArray) (t28 : Rs) (t29 : Int) (t30 : Int) (r : R7) (h : t7_h1 k rec blank1 l5 t8 t28 t29 t30 = some r) : P7 (.h1 blank1 l5 t8 t28 t29 t30) r := by
 unfold t7_h1 at h
 rcases bif_or h with ⟨h_x1, h⟩ | ⟨h_x1, h⟩
 ·
  obtain ⟨w_x2, h_x3, h⟩ := ixR_or h
  replace h := un_isi3_or h; obtain ⟨kind_x4, text_x4, n_x4, scale_x4, at_x4, rfl, h⟩ := h
  obtain ⟨v_x5, h_x6, h⟩ := bd_or h
  obtain ⟨w_x7, h_x8, h⟩ := ixR_or h
  replace h := un_s_or h; obtain ⟨x_x9, rfl, h⟩ := h
  obtain ⟨h_x10, h⟩ := gd_or h
  obtain ⟨h_x11, h⟩ := gd_or h
  exact mgo_at (nb := 0) hmix (ih _ _ h) (n := 13) (ad := [aT 31, (some 32, .row [ic kind_x4, sc text_x4, ic n_x4, ic scale_x4, ic at_x4]), aC 36 (.c (sc v_x5)), (some 42, .bnd), (some 43, .ld [sc x_x9]), (some 44, .scat), (some 45, .scat)]) (ps := [_, _, _, _, _, _, _]) (m := bm 123 10633823966279326983230456480363708125) (ls := [10]) (cs := []) (by kernel_rfl) ⟨h_x1, ix_row h_x3 rfl, (ev14 h_x6), ix_bnd h_x8, h_x8.2, of_decide_eq_true h_x10, of_decide_eq_true h_x11, trivial⟩
 ·
  obtain ⟨v_x2, h_x3, h⟩ := bd_or h
  replace h := altC_or h; rcases h with ⟨v_x4, rfl, h⟩ | ⟨v_x4, rfl, h⟩
  ·
   replace h := tup3_or h; obtain ⟨r00_x5, r10_x5, r20_x5, rfl, h⟩ := h
   exact mA 0 hmix (ih _ _ h) 11 [aF 31, aC 49 ⟨.tup [false, false, false], [[.imm r00_x5], [ic r10_x5], [ic r20_x5]]⟩] [_, _] (bm 123 10633823966279326983194427685223782367) (by kernel_rfl) ⟨h_x1, (ev8 h_x3), trivial⟩
  ·
   replace h := tup2_or h; obtain ⟨r10_x5, r20_x5, rfl, h⟩ := h
   exact mgo_at (nb := 0) hmix (ih _ _ h) (n := 11) (ad := [aF 31, aC 49 ⟨.tup [false, false, false], [[.nil], [ic r10_x5], [ic r20_x5]]⟩]) (ps := [_, _]) (m := bm 123 10633823966279326983194427685223782367) (ls := []) (cs := [(⟨⟨.slot 11, []⟩, 0, 0⟩, none)]) (by kernel_rfl) ⟨h_x1, (ev8 h_x3), trivial⟩
theorem t7_h2_ok (k : Nat) (rec : S7 → Option R7) (ih : ∀ s r, rec s = some r → P7 s r) (l5 : Rs) (m11 : Rs) (f13 : Int) (t55 : Bool) (r : R7) (h : t7_h2 k rec l5 m11 f13 t55 = some r) : P7 (.h2 l5 m11 f13 t55) r := by
 unfold t7_h2 at h
 replace h := bif_or h; rcases h with ⟨rfl, h⟩ | ⟨rfl, h⟩
 ·
  rw [← Option.some.inj h]
  exact mF 0 hmix [] [] (by kernel_rfl) trivial
 ·
  rcases bif_or h with ⟨h_x1, h⟩ | ⟨h_x1, h⟩
  ·
   exact mA 0 hmix (ih _ _ h) 5 [aT 59] [_] (bm 123 10633823966279326909443480187404548063) (by kernel_rfl) ⟨h_x1, trivial⟩
  ·
   exact mA 0 hmix (ih _ _ h) 5 [aF 59] [_] (bm 123 10633823966279326909443480187404548063) (by kernel_rfl) ⟨h_x1, trivial⟩
theorem t7_h3_ok (k : Nat) (rec : S7 → Option R7) (ih : ∀ s r, rec s = some r → P7 s r) (l5 : Rs) (m11 : Rs) (t66 : Bool) (r : R7) (h : t7_h3 k rec l5 m11 t66 = some r) : P7 (.h3 l5 m11 t66) r := by
 unfold t7_h3 at h
 replace h := bif_or h; rcases h with ⟨rfl, h⟩ | ⟨rfl, h⟩
 ·
  rw [← Option.some.inj h]
  exact mF 0 hmix [] [] (by kernel_rfl) trivial
 ·
  exact mA 0 hmix (ih _ _ h) 7 [] [] (bm 123 10633823966279326097786740944184276959) (by kernel_rfl) trivial
theorem t7_h4_ok (k : Nat) (rec : S7 → Option R7) (ih : ∀ s r, rec s = some r → P7 s r) (l5 : Rs) (m11 : Rs) (t68 : Int) (t69 : Int) (r : R7) (h : t7_h4 k rec l5 m11 t68 t69 = some r) : P7 (.h4 l5 m11 t68 t69) r := by
 unfold t7_h4 at h
 rcases bif_or h with ⟨h_x1, h⟩ | ⟨h_x1, h⟩
 ·
  obtain ⟨w_x2, h_x3, h⟩ := ixR_or h
  replace h := un_isi3_or h; obtain ⟨kind_x4, text_x4, n_x4, scale_x4, at_x4, rfl, h⟩ := h
  obtain ⟨w_x5, h_x6, h⟩ := ixR_or h
  replace h := un_isi3_or h; obtain ⟨kind_x7, text_x7, n_x7, scale_x7, at_x7, rfl, h⟩ := h
  rcases bif_or h with ⟨h_x8, h⟩ | ⟨h_x8, h⟩
  ·
   exact mA 0 hmix (ih _ _ h) 12 [aT 70, (some 74, .row [ic kind_x4, sc text_x4, ic n_x4, ic scale_x4, ic at_x4]), (some 79, .row [ic kind_x7, sc text_x7, ic n_x7, ic scale_x7, ic at_x7]), aT 82] [_, _, _, _] (bm 123 7975367974709494351979126823623587807) (by kernel_rfl) ⟨h_x1, ix_row h_x3 rfl, ix_row h_x6 rfl, h_x8, trivial⟩
  ·
   rcases bif_or h with ⟨h_x9, h⟩ | ⟨h_x9, h⟩
   ·
    exact mA 0 hmix (ih _ _ h) 12 [aT 70, (some 74, .row [ic kind_x4, sc text_x4, ic n_x4, ic scale_x4, ic at_x4]), (some 79, .row [ic kind_x7, sc text_x7, ic n_x7, ic scale_x7, ic at_x7]), aF 82, (some 86, .row [ic kind_x4, sc text_x4, ic n_x4, ic scale_x4, ic at_x4]), (some 91, .row [ic kind_x7, sc text_x7, ic n_x7, ic scale_x7, ic at_x7]), aT 94] [_, _, _, _, _, _, _] (bm 123 7975367974709494351979126823623587807) (by kernel_rfl) ⟨h_x1, ix_row h_x3 rfl, ix_row h_x6 rfl, h_x8, ix_row h_x3 rfl, ix_row h_x6 rfl, h_x9, trivial⟩
   ·
    rcases bif_or h with ⟨h_x10, h⟩ | ⟨h_x10, h⟩
    ·
     exact mA 0 hmix (ih _ _ h) 12 [aT 70, (some 74, .row [ic kind_x4, sc text_x4, ic n_x4, ic scale_x4, ic at_x4]), (some 79, .row [ic kind_x7, sc text_x7, ic n_x7, ic scale_x7, ic at_x7]), aF 82, (some 86, .row [ic kind_x4, sc text_x4, ic n_x4, ic scale_x4, ic at_x4]), (some 91, .row [ic kind_x7, sc text_x7, ic n_x7, ic scale_x7, ic at_x7]), aF 94, (some 99, .row [ic kind_x4, sc text_x4, ic n_x4, ic scale_x4, ic at_x4]), (some 104, .row [ic kind_x7, sc text_x7, ic n_x7, ic scale_x7, ic at_x7]), aT 107] [_, _, _, _, _, _, _, _, _, _] (bm 123 7975367974709494351979126823623587807) (by kernel_rfl) ⟨h_x1, ix_row h_x3 rfl, ix_row h_x6 rfl, h_x8, ix_row h_x3 rfl, ix_row h_x6 rfl, h_x9, ix_row h_x3 rfl, ix_row h_x6 rfl, h_x10, trivial⟩
    ·
     exact mA 0 hmix (ih _ _ h) 12 [aT 70, (some 74, .row [ic kind_x4, sc text_x4, ic n_x4, ic scale_x4, ic at_x4]), (some 79, .row [ic kind_x7, sc text_x7, ic n_x7, ic scale_x7, ic at_x7]), aF 82, (some 86, .row [ic kind_x4, sc text_x4, ic n_x4, ic scale_x4, ic at_x4]), (some 91, .row [ic kind_x7, sc text_x7, ic n_x7, ic scale_x7, ic at_x7]), aF 94, (some 99, .row [ic kind_x4, sc text_x4, ic n_x4, ic scale_x4, ic at_x4]), (some 104, .row [ic kind_x7, sc text_x7, ic n_x7, ic scale_x7, ic at_x7]), aF 107, (some 112, .row [ic kind_x4, sc text_x4, ic n_x4, ic scale_x4, ic at_x4]), (some 117, .row [ic kind_x7, sc text_x7, ic n_x7, ic scale_x7, ic at_x7])] [_, _, _, _, _, _, _, _, _, _, _, _] (bm 123 7975367974709494351979126823623587807) (by kernel_rfl) ⟨h_x1, ix_row h_x3 rfl, ix_row h_x6 rfl, h_x8, ix_row h_x3 rfl, ix_row h_x6 rfl, h_x9, ix_row h_x3 rfl, ix_row h_x6 rfl, h_x10, ix_row h_x3 rfl, ix_row h_x6 rfl, trivial⟩
 ·
  rw [← Option.some.inj h]
  exact mF 0 hmix [aF 70] [_] (by kernel_rfl) ⟨h_x1, trivial⟩
theorem t7_h5_ok (k : Nat) (rec : S7 → Option R7) (ih : ∀ s r, rec s = some r → P7 s r) (l5 : Rs) (m11 : Rs) (t68 : Int) (t69 : Int) (t121 : Bool) (r : R7) (h : t7_h5 k rec l5 m11 t68 t69 t121 = some r) : P7 (.h5 l5 m11 t68 t69 t121) r := by
 unfold t7_h5 at h
 replace h := bif_or h; rcases h with ⟨rfl, h⟩ | ⟨rfl, h⟩
 ·
  rw [← Option.some.inj h]
  exact mF 0 hmix [] [] (by kernel_rfl) trivial
 ·
  exact mA 0 hmix (ih _ _ h) 4 [] [] (bm 123 10633823966279326097786740944184276959) (by kernel_rfl) trivial
theorem ok7 : ∀ k s r, itS step7 k s = some r → P7 s r := itS_ok fun k rec ih s r h => match s, h with
 | .e s0 blank1, h => t7_e_ok k rec ih s0 blank1 r h
 | .h0 blank1 l5 t26, h => t7_h0_ok k rec ih blank1 l5 t26 r h
 | .h1 blank1 l5 t8 t28 t29 t30, h => t7_h1_ok k rec ih blank1 l5 t8 t28 t29 t30 r h
 | .h2 l5 m11 f13 t55, h => t7_h2_ok k rec ih l5 m11 f13 t55 r h
 | .h3 l5 m11 t66, h => t7_h3_ok k rec ih l5 m11 t66 r h
 | .h4 l5 m11 t68 t69, h => t7_h4_ok k rec ih l5 m11 t68 t69 r h
 | .h5 l5 m11 t68 t69 t121, h => t7_h5_ok k rec ih l5 m11 t68 t69 t121 r h
theorem ev7 {k : Nat} {s0 : ByteArray} {blank1 : Int} {r : R7} (h : g7 k s0 blank1 = some r) : Ev Tryd.prog noHand 7 [.c (sc s0), .c (ic blank1)] [] (res7 r) (bx7 r) := evr7 (ok7 _ _ _ h)
end Ab
end Go.Proofs.YtniibdfnijeaeaaDoor
