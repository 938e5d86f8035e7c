/-
 Functions' ways, printed by a program: what each computes, and that this is what the interpreter computes.
-/
import Derived.Test.YtniibdfnijeaeaaDoorFSq
import Derived.KernelRfl
set_option linter.unusedVariables false
set_option linter.unusedSimpArgs false
set_option linter.unusedSectionVars false
namespace Go.Proofs.YtniibdfnijeaeaaDoor
namespace Ab
variable [Laid2]
inductive S41 where
 | e (s0 : ByteArray)
 | h0 (s0 : ByteArray) (d4 : ByteArray) (t16 : Bool)
 | h1 (s0 : ByteArray) (d4 : ByteArray)
 | h2 (s0 : ByteArray) (d4 : ByteArray) (n5 : Int) (i6 : Int)
 | h3 (s0 : ByteArray) (d4 : ByteArray) (n5 : Int) (i6 : Int) (t33 : Bool)
 | h4 (s0 : ByteArray) (d4 : ByteArray) (m7 : Int)
abbrev R41 := Int × Bool
def res41 : R41 → ARes
 | (r_00, r_10) => .ret ⟨.tup [false, false], [[ic r_00], [bc r_10]]⟩
def bx41 : R41 → List (List Cell)
 | (r_00, r_10) => []
noncomputable def t41_e (k : Nat) (rec : S41 → Option R41) (s0 : ByteArray) : Option R41 :=
 bif decide ((s0.size : Int) > 0) then
  sxI s0 0 fun c_x2 =>
  rec (.h0 s0 s0 (c_x2 == 45))
 else
  rec (.h0 s0 s0 false)
noncomputable def t41_h0 (k : Nat) (rec : S41 → Option R41) (s0 : ByteArray) (d4 : ByteArray) (t16 : Bool) : Option R41 :=
 bif t16 then
  gd (decide (0 ≤ (1 : Int) ∧ (1 : Int) ≤ (d4.size : Int) ∧ (d4.size : Int) ≤ (d4.size : Int))) <|
  rec (.h1 s0 (d4.extract (Int.toNat (1 : Int)) (Int.toNat (d4.size : Int))))
 else
  rec (.h1 s0 d4)
noncomputable def t41_h1 (k : Nat) (rec : S41 → Option R41) (s0 : ByteArray) (d4 : ByteArray) : Option R41 :=
 rec (.h2 s0 d4 0 0)
noncomputable def t41_h2 (k : Nat) (rec : S41 → Option R41) (s0 : ByteArray) (d4 : ByteArray) (n5 : Int) (i6 : Int) : Option R41 :=
 bif decide (i6 < (d4.size : Int)) then
  sxI d4 i6 fun c_x2 =>
  (g32 k c_x2).bind fun v_x4 =>
  bif !v_x4 then
   rec (.h3 s0 d4 n5 i6 true)
  else
   rec (.h3 s0 d4 n5 i6 (decide (i6 > 18)))
 else
  bif decide ((d4.size : Int) < (s0.size : Int)) then
   rec (.h4 s0 d4 (IntKind.i64.wrap ((0 : Int) - (IntKind.i64.wrap n5))))
  else
   rec (.h4 s0 d4 (IntKind.i64.wrap n5))
noncomputable def t41_h3 (k : Nat) (rec : S41 → Option R41) (s0 : ByteArray) (d4 : ByteArray) (n5 : Int) (i6 : Int) (t33 : Bool) : Option R41 :=
 bif t33 then
  some (0, false)
 else
  sxI d4 i6 fun c_x1 =>
  rec (.h2 s0 d4 (IntKind.u64.wrap ((IntKind.u64.wrap ((10 : Int) * n5)) + (IntKind.u64.wrap (IntKind.u8.wrap (c_x1 - 48))))) (IntKind.i64.wrap (i6 + 1)))
noncomputable def t41_h4 (k : Nat) (rec : S41 → Option R41) (s0 : ByteArray) (d4 : ByteArray) (m7 : Int) : Option R41 :=
 bif decide ((d4.size : Int) > 0) then
  (g20 k m7).bind fun v_x2 =>
  some (m7, v_x2.toList == s0.toList)
 else
  some (m7, false)
noncomputable def step41 (k : Nat) (rec : S41 → Option R41) : S41 → Option R41
 | .e s0 => t41_e k rec s0
 | .h0 s0 d4 t16 => t41_h0 k rec s0 d4 t16
 | .h1 s0 d4 => t41_h1 k rec s0 d4
 | .h2 s0 d4 n5 i6 => t41_h2 k rec s0 d4 n5 i6
 | .h3 s0 d4 n5 i6 t33 => t41_h3 k rec s0 d4 n5 i6 t33
 | .h4 s0 d4 m7 => t41_h4 k rec s0 d4 m7
noncomputable def g41 (k : Nat) (s0 : ByteArray) : Option R41 := itS step41 k (.e s0)
noncomputable def P41 : S41 → R41 → Prop
 | .e s0, r => Fin cx41 Tryd.f41 [.code body41] (fr0 Tryd.f41 [.c (sc s0)] []) (res41 r) (bx41 r)
 | .h0 s0 d4 t16, r => Fin cx41 Tryd.f41 (kAt body41 [1, 1, 0, 1, 2] []) ⟨[.c (sc s0)] ++ rep 3 .deadv ++ [.c (sc d4)] ++ rep 11 .deadv ++ [.c (bc t16)] ++ rep 44 .deadv, []⟩ (res41 r) (bx41 r)
 | .h1 s0 d4, r => Fin cx41 Tryd.f41 (kAt body41 [1, 1, 1, 2] []) ⟨[.c (sc s0)] ++ rep 3 .deadv ++ [.c (sc d4)] ++ rep 56 .deadv, []⟩ (res41 r) (bx41 r)
 | .h2 s0 d4 n5 i6, r => Fin cx41 Tryd.f41 (kAt body41 [1, 1, 1, 1, 0, 1, 0, 4] []) ⟨[.c (sc s0)] ++ rep 3 .deadv ++ [.c (sc d4), .c (.val (.int .u64 n5)), .c (ic i6)] ++ rep 54 .deadv, []⟩ (res41 r) (bx41 r)
 | .h3 s0 d4 n5 i6 t33, r => Fin cx41 Tryd.f41 (kAt body41 [1, 1, 1, 1, 0, 1, 0, 0, 1, 0, 0, 0, 1, 2] []) ⟨[.c (sc s0)] ++ rep 3 .deadv ++ [.c (sc d4), .c (.val (.int .u64 n5)), .c (ic i6)] ++ rep 26 .deadv ++ [.c (bc t33)] ++ rep 27 .deadv, []⟩ (res41 r) (bx41 r)
 | .h4 s0 d4 m7, r => Fin cx41 Tryd.f41 (kAt body41 [1, 1, 1, 1, 1, 1, 1, 2] []) ⟨[.c (sc s0)] ++ rep 3 .deadv ++ [.c (sc d4), .deadv, .deadv, .c (ic m7)] ++ rep 53 .deadv, []⟩ (res41 r) (bx41 r)
theorem evr41 {s0 : ByteArray} {r : R41} (h : P41 (.e s0) r) : Ev Tryd.prog noHand 41 [.c (sc s0)] [] (res41 r) (bx41 r) := ev_of_fin (fn := Tryd.f41) (body := body41) (by kernel_rfl) (by kernel_rfl) (by kernel_rfl) rfl h
theorem t41_e_ok (k : Nat) (rec : S41 → Option R41) (ih : ∀ s r, rec s = some r → P41 s r) (s0 : ByteArray) (r : R41) (h : t41_e k rec s0 = some r) : P41 (.e s0) r := by
 unfold t41_e at h
 rcases bif_or h with ⟨h_x1, h⟩ | ⟨h_x1, h⟩
 ·
  obtain ⟨c_x2, h_x3, h⟩ := sxI_or h
  exact mA 0 hmix (ih _ _ h) 7 [aT 11, (some 14, .sidx c_x2)] [_, _] (bm 61 2305843009213628398) (by kernel_rfl) ⟨h_x1, h_x3, trivial⟩
 ·
  exact mA 0 hmix (ih _ _ h) 7 [aF 11] [_] (bm 61 2305843009213628398) (by kernel_rfl) ⟨h_x1, trivial⟩
theorem t41_h0_ok (k : Nat) (rec : S41 → Option R41) (ih : ∀ s r, rec s = some r → P41 s r) (s0 : ByteArray) (d4 : ByteArray) (t16 : Bool) (r : R41) (h : t41_h0 k rec s0 d4 t16 = some r) : P41 (.h0 s0 d4 t16) r := by
 unfold t41_h0 at h
 replace h := bif_or h; rcases h with ⟨rfl, h⟩ | ⟨rfl, h⟩
 ·
  obtain ⟨h_x1, h⟩ := gd_or h
  exact mA 0 hmix (ih _ _ h) 2 [aS 18] [_] (bm 61 2305843009213693934) (by kernel_rfl) ⟨of_decide_eq_true h_x1, trivial⟩
 ·
  exact mA 0 hmix (ih _ _ h) 2 [] [] (bm 61 2305843009213693934) (by kernel_rfl) trivial
theorem t41_h1_ok (k : Nat) (rec : S41 → Option R41) (ih : ∀ s r, rec s = some r → P41 s r) (s0 : ByteArray) (d4 : ByteArray) (r : R41) (h : t41_h1 k rec s0 d4 = some r) : P41 (.h1 s0 d4) r := by
 unfold t41_h1 at h
 exact mA 0 hmix (ih _ _ h) 7 [] [] (bm 61 2305843009213693838) (by kernel_rfl) trivial
theorem t41_h2_ok (k : Nat) (rec : S41 → Option R41) (ih : ∀ s r, rec s = some r → P41 s r) (s0 : ByteArray) (d4 : ByteArray) (n5 : Int) (i6 : Int) (r : R41) (h : t41_h2 k rec s0 d4 n5 i6 = some r) : P41 (.h2 s0 d4 n5 i6) r := by
 unfold t41_h2 at h
 rcases bif_or h with ⟨h_x1, h⟩ | ⟨h_x1, h⟩
 ·
  obtain ⟨c_x2, h_x3, h⟩ := sxI_or h
  obtain ⟨v_x4, h_x5, h⟩ := bd_or h
  rcases bif_or h with ⟨h_x6, h⟩ | ⟨h_x6, h⟩
  ·
   exact mA 0 hmix (ih _ _ h) 11 [aT 22, (some 27, .sidx c_x2), aC 28 (.c (bc v_x4)), aT 29] [_, _, _, _] (bm 61 2305843000623759246) (by kernel_rfl) ⟨h_x1, h_x3, (ev32 h_x5), h_x6, trivial⟩
  ·
   exact mA 0 hmix (ih _ _ h) 11 [aT 22, (some 27, .sidx c_x2), aC 28 (.c (bc v_x4)), aF 29] [_, _, _, _] (bm 61 2305843000623759246) (by kernel_rfl) ⟨h_x1, h_x3, (ev32 h_x5), h_x6, trivial⟩
 ·
  rcases bif_or h with ⟨h_x2, h⟩ | ⟨h_x2, h⟩
  ·
   exact mA 0 hmix (ih _ _ h) 13 [aF 22, aT 48] [_, _] (bm 61 2305843009213693806) (by kernel_rfl) ⟨h_x1, h_x2, trivial⟩
  ·
   exact mA 0 hmix (ih _ _ h) 13 [aF 22, aF 48] [_, _] (bm 61 2305843009213693806) (by kernel_rfl) ⟨h_x1, h_x2, trivial⟩
theorem t41_h3_ok (k : Nat) (rec : S41 → Option R41) (ih : ∀ s r, rec s = some r → P41 s r) (s0 : ByteArray) (d4 : ByteArray) (n5 : Int) (i6 : Int) (t33 : Bool) (r : R41) (h : t41_h3 k rec s0 d4 n5 i6 t33 = some r) : P41 (.h3 s0 d4 n5 i6 t33) r := by
 unfold t41_h3 at h
 replace h := bif_or h; rcases h with ⟨rfl, h⟩ | ⟨rfl, h⟩
 ·
  rw [← Option.some.inj h]
  exact mF 0 hmix [] [] (by kernel_rfl) trivial
 ·
  obtain ⟨c_x1, h_x2, h⟩ := sxI_or h
  exact mA 0 hmix (ih _ _ h) 5 [(some 38, .sidx c_x1)] [_] (bm 61 2305843009213693838) (by kernel_rfl) ⟨h_x2, trivial⟩
theorem t41_h4_ok (k : Nat) (rec : S41 → Option R41) (ih : ∀ s r, rec s = some r → P41 s r) (s0 : ByteArray) (d4 : ByteArray) (m7 : Int) (r : R41) (h : t41_h4 k rec s0 d4 m7 = some r) : P41 (.h4 s0 d4 m7) r := by
 unfold t41_h4 at h
 rcases bif_or h with ⟨h_x1, h⟩ | ⟨h_x1, h⟩
 ·
  obtain ⟨v_x2, h_x3, h⟩ := bd_or h
  rw [← Option.some.inj h]
  exact mF 0 hmix [aT 54, aC 57 (.c (sc v_x2))] [_, _] (by kernel_rfl) ⟨h_x1, (ev20 h_x3), trivial⟩
 ·
  rw [← Option.some.inj h]
  exact mF 0 hmix [aF 54] [_] (by kernel_rfl) ⟨h_x1, trivial⟩
theorem ok41 : ∀ k s r, itS step41 k s = some r → P41 s r := itS_ok fun k rec ih s r h => match s, h with
 | .e s0, h => t41_e_ok k rec ih s0 r h
 | .h0 s0 d4 t16, h => t41_h0_ok k rec ih s0 d4 t16 r h
 | .h1 s0 d4, h => t41_h1_ok k rec ih s0 d4 r h
 | .h2 s0 d4 n5 i6, h => t41_h2_ok k rec ih s0 d4 n5 i6 r h
 | .h3 s0 d4 n5 i6 t33, h => t41_h3_ok k rec ih s0 d4 n5 i6 t33 r h
 | .h4 s0 d4 m7, h => t41_h4_ok k rec ih s0 d4 m7 r h
theorem ev41 {k : Nat} {s0 : ByteArray} {r : R41} (h : g41 k s0 = some r) : Ev Tryd.prog noHand 41 [.c (sc s0)] [] (res41 r) (bx41 r) := evr41 (ok41 _ _ _ h)
inductive S33 where
 | e (s0 : ByteArray) (at1 : Int)
 | h0 (s0 : ByteArray) (at1 : Int) (n6 : Int) (d7 : ByteArray) (m8 : Int) (t36 : Bool) (loc4_0 : Int) (loc4_1 : ByteArray) (loc4_2 : Int) (loc4_3 : Int) (loc4_4 : Int)
 | h1 (s0 : ByteArray) (at1 : Int) (n6 : Int) (d7 : ByteArray) (m8 : Int) (loc4_0 : Int) (loc4_1 : ByteArray) (loc4_2 : Int) (loc4_3 : Int) (loc4_4 : Int)
 | h2 (s0 : ByteArray) (at1 : Int) (n6 : Int) (d7 : ByteArray) (m8 : Int) (t67 : Bool) (loc4_0 : Int) (loc4_1 : ByteArray) (loc4_2 : Int) (loc4_3 : Int) (loc4_4 : Int)
 | h3 (n6 : Int) (m8 : Int) (x11 : Int) (t96 : Rs) (t97 : Int) (t98 : Int) (loc4_0 : Int) (loc4_1 : ByteArray) (loc4_2 : Int) (loc4_3 : Int) (loc4_4 : Int)
abbrev R33 := Int × ByteArray × Int × Int × Int × Int
def res33 : R33 → ARes
 | (r_00, r_01, r_02, r_03, r_04, r_10) => .ret ⟨.tup [true, false], [[ic r_00, sc r_01, ic r_02, ic r_03, ic r_04], [ic r_10]]⟩
def bx33 : R33 → List (List Cell)
 | (r_00, r_01, r_02, r_03, r_04, r_10) => []
noncomputable def t33_e (k : Nat) (rec : S33 → Option R33) (s0 : ByteArray) (at1 : Int) : Option R33 :=
 (g29 k s0 at1 false).bind fun v_x1 =>
 gd (decide (0 ≤ at1 ∧ at1 ≤ (IntKind.i64.wrap (at1 + v_x1)) ∧ (IntKind.i64.wrap (at1 + v_x1)) ≤ (s0.size : Int))) <|
 bif decide ((IntKind.i64.wrap (at1 + v_x1)) < (s0.size : Int)) then
  sxI s0 (IntKind.i64.wrap (at1 + v_x1)) fun c_x5 =>
  rec (.h0 s0 at1 v_x1 (s0.extract (Int.toNat at1) (Int.toNat (IntKind.i64.wrap (at1 + v_x1)))) 0 (c_x5 == 46) 0 (strB []) 0 0 0)
 else
  rec (.h0 s0 at1 v_x1 (s0.extract (Int.toNat at1) (Int.toNat (IntKind.i64.wrap (at1 + v_x1)))) 0 false 0 (strB []) 0 0 0)
noncomputable def t33_h0 (k : Nat) (rec : S33 → Option R33) (s0 : ByteArray) (at1 : Int) (n6 : Int) (d7 : ByteArray) (m8 : Int) (t36 : Bool) (loc4_0 : Int) (loc4_1 : ByteArray) (loc4_2 : Int) (loc4_3 : Int) (loc4_4 : Int) : Option R33 :=
 bif t36 then
  (g29 k s0 (IntKind.i64.wrap ((IntKind.i64.wrap (at1 + n6)) + 1)) false).bind fun v_x1 =>
  rec (.h1 s0 at1 n6 d7 v_x1 loc4_0 loc4_1 loc4_2 loc4_3 loc4_4)
 else
  rec (.h1 s0 at1 n6 d7 m8 loc4_0 loc4_1 loc4_2 loc4_3 loc4_4)
noncomputable def t33_h1 (k : Nat) (rec : S33 → Option R33) (s0 : ByteArray) (at1 : Int) (n6 : Int) (d7 : ByteArray) (m8 : Int) (loc4_0 : Int) (loc4_1 : ByteArray) (loc4_2 : Int) (loc4_3 : Int) (loc4_4 : Int) : Option R33 :=
 bif decide (n6 > 1) then
  sxI d7 0 fun c_x2 =>
  bif c_x2 == 48 then
   rec (.h2 s0 at1 n6 d7 m8 true loc4_0 loc4_1 loc4_2 loc4_3 loc4_4)
  else
   bif m8 == 0 then
    bif decide (n6 > 19) then
     rec (.h2 s0 at1 n6 d7 m8 true loc4_0 loc4_1 loc4_2 loc4_3 loc4_4)
    else
     rec (.h2 s0 at1 n6 d7 m8 false loc4_0 loc4_1 loc4_2 loc4_3 loc4_4)
   else
    bif decide (m8 > 0) then
     rec (.h2 s0 at1 n6 d7 m8 (decide ((IntKind.i64.wrap (n6 + m8)) > 15)) loc4_0 loc4_1 loc4_2 loc4_3 loc4_4)
    else
     rec (.h2 s0 at1 n6 d7 m8 false loc4_0 loc4_1 loc4_2 loc4_3 loc4_4)
 else
  bif m8 == 0 then
   bif decide (n6 > 19) then
    rec (.h2 s0 at1 n6 d7 m8 true loc4_0 loc4_1 loc4_2 loc4_3 loc4_4)
   else
    rec (.h2 s0 at1 n6 d7 m8 false loc4_0 loc4_1 loc4_2 loc4_3 loc4_4)
  else
   bif decide (m8 > 0) then
    rec (.h2 s0 at1 n6 d7 m8 (decide ((IntKind.i64.wrap (n6 + m8)) > 15)) loc4_0 loc4_1 loc4_2 loc4_3 loc4_4)
   else
    rec (.h2 s0 at1 n6 d7 m8 false loc4_0 loc4_1 loc4_2 loc4_3 loc4_4)
noncomputable def t33_h2 (k : Nat) (rec : S33 → Option R33) (s0 : ByteArray) (at1 : Int) (n6 : Int) (d7 : ByteArray) (m8 : Int) (t67 : Bool) (loc4_0 : Int) (loc4_1 : ByteArray) (loc4_2 : Int) (loc4_3 : Int) (loc4_4 : Int) : Option R33 :=
 bif t67 then
  some (0, strB [], 0, 0, 0, 0)
 else
  bif m8 == 0 then
   (g41 k d7).bind fun v_x2 =>
   tup2 v_x2 fun r00_x4 r10_x4 =>
   bif !r10_x4 then
    some (0, strB [], 0, 0, 0, 0)
   else
    some (3, strB [], r00_x4, 0, 0, n6)
  else
   gd (decide (0 ≤ (IntKind.i64.wrap ((IntKind.i64.wrap (at1 + n6)) + 1)) ∧ (IntKind.i64.wrap ((IntKind.i64.wrap (at1 + n6)) + 1)) ≤ (IntKind.i64.wrap ((IntKind.i64.wrap ((IntKind.i64.wrap (at1 + n6)) + 1)) + m8)) ∧ (IntKind.i64.wrap ((IntKind.i64.wrap ((IntKind.i64.wrap (at1 + n6)) + 1)) + m8)) ≤ (s0.size : Int))) <|
   gd (decide (d7.size + (s0.extract (Int.toNat (IntKind.i64.wrap ((IntKind.i64.wrap (at1 + n6)) + 1))) (Int.toNat (IntKind.i64.wrap ((IntKind.i64.wrap ((IntKind.i64.wrap (at1 + n6)) + 1)) + m8)))).size ≤ 1000000000)) <|
   rec (.h3 n6 m8 0 (byteRows (d7 ++ (s0.extract (Int.toNat (IntKind.i64.wrap ((IntKind.i64.wrap (at1 + n6)) + 1))) (Int.toNat (IntKind.i64.wrap ((IntKind.i64.wrap ((IntKind.i64.wrap (at1 + n6)) + 1)) + m8)))))) ((byteRows (d7 ++ (s0.extract (Int.toNat (IntKind.i64.wrap ((IntKind.i64.wrap (at1 + n6)) + 1))) (Int.toNat (IntKind.i64.wrap ((IntKind.i64.wrap ((IntKind.i64.wrap (at1 + n6)) + 1)) + m8)))))).length : Int) 0 loc4_0 loc4_1 loc4_2 loc4_3 loc4_4)
noncomputable def t33_h3 (k : Nat) (rec : S33 → Option R33) (n6 : Int) (m8 : Int) (x11 : Int) (t96 : Rs) (t97 : Int) (t98 : Int) (loc4_0 : Int) (loc4_1 : ByteArray) (loc4_2 : Int) (loc4_3 : Int) (loc4_4 : Int) : Option R33 :=
 bif decide (t98 < t97) then
  ixR t96 t98 fun w_x2 =>
  un_y w_x2 fun x_x4 =>
  rec (.h3 n6 m8 (IntKind.i64.wrap ((IntKind.i64.wrap ((10 : Int) * x11)) + (IntKind.i64.wrap (IntKind.u8.wrap (x_x4 - 48))))) t96 t97 (IntKind.i64.wrap (t98 + 1)) loc4_0 loc4_1 loc4_2 loc4_3 loc4_4)
 else
  some (4, strB [], x11, m8, 0, IntKind.i64.wrap ((IntKind.i64.wrap (n6 + 1)) + m8))
noncomputable def step33 (k : Nat) (rec : S33 → Option R33) : S33 → Option R33
 | .e s0 at1 => t33_e k rec s0 at1
 | .h0 s0 at1 n6 d7 m8 t36 loc4_0 loc4_1 loc4_2 loc4_3 loc4_4 => t33_h0 k rec s0 at1 n6 d7 m8 t36 loc4_0 loc4_1 loc4_2 loc4_3 loc4_4
 | .h1 s0 at1 n6 d7 m8 loc4_0 loc4_1 loc4_2 loc4_3 loc4_4 => t33_h1 k rec s0 at1 n6 d7 m8 loc4_0 loc4_1 loc4_2 loc4_3 loc4_4
 | .h2 s0 at1 n6 d7 m8 t67 loc4_0 loc4_1 loc4_2 loc4_3 loc4_4 => t33_h2 k rec s0 at1 n6 d7 m8 t67 loc4_0 loc4_1 loc4_2 loc4_3 loc4_4
 | .h3 n6 m8 x11 t96 t97 t98 loc4_0 loc4_1 loc4_2 loc4_3 loc4_4 => t33_h3 k rec n6 m8 x11 t96 t97 t98 loc4_0 loc4_1 loc4_2 loc4_3 loc4_4
noncomputable def g33 (k : Nat) (s0 : ByteArray) (at1 : Int) : Option R33 := itS step33 k (.e s0 at1)
noncomputable def P33 : S33 → R33 → Prop
 | .e s0 at1, r => Fin cx33 Tryd.f33 [.code body33] (fr0 Tryd.f33 [.c (sc s0), .c (ic at1)] []) (res33 r) (bx33 r)
 | .h0 s0 at1 n6 d7 m8 t36 loc4_0 loc4_1 loc4_2 loc4_3 loc4_4, r => Fin cx33 Tryd.f33 (kAt body33 [1, 1, 1, 1, 0, 1, 2] []) ⟨[.c (sc s0), .c (ic at1), .deadv, .deadv, .c (.ptr ⟨⟨.loc 4, []⟩, 0, 0⟩), .deadv, .c (ic n6), .c (sc d7), .c (ic m8)] ++ rep 27 .deadv ++ [.c (bc t36)] ++ rep 79 .deadv, [(.loc 4, [ic loc4_0, sc loc4_1, ic loc4_2, ic loc4_3, ic loc4_4])]⟩ (res33 r) (bx33 r)
 | .h1 s0 at1 n6 d7 m8 loc4_0 loc4_1 loc4_2 loc4_3 loc4_4, r => Fin cx33 Tryd.f33 (kAt body33 [1, 1, 1, 1, 1, 2] []) ⟨[.c (sc s0), .c (ic at1), .deadv, .deadv, .c (.ptr ⟨⟨.loc 4, []⟩, 0, 0⟩), .deadv, .c (ic n6), .c (sc d7), .c (ic m8)] ++ rep 107 .deadv, [(.loc 4, [ic loc4_0, sc loc4_1, ic loc4_2, ic loc4_3, ic loc4_4])]⟩ (res33 r) (bx33 r)
 | .h2 s0 at1 n6 d7 m8 t67 loc4_0 loc4_1 loc4_2 loc4_3 loc4_4, r => Fin cx33 Tryd.f33 (kAt body33 [1, 1, 1, 1, 1, 0, 1, 2] []) ⟨[.c (sc s0), .c (ic at1), .deadv, .deadv, .c (.ptr ⟨⟨.loc 4, []⟩, 0, 0⟩), .deadv, .c (ic n6), .c (sc d7), .c (ic m8)] ++ rep 58 .deadv ++ [.c (bc t67)] ++ rep 48 .deadv, [(.loc 4, [ic loc4_0, sc loc4_1, ic loc4_2, ic loc4_3, ic loc4_4])]⟩ (res33 r) (bx33 r)
 | .h3 n6 m8 x11 t96 t97 t98 loc4_0 loc4_1 loc4_2 loc4_3 loc4_4, r => Fin cx33 Tryd.f33 (kAt body33 [1, 1, 1, 1, 1, 1, 1, 1, 0, 1, 0, 4] []) ⟨rep 4 .deadv ++ [.c (.ptr ⟨⟨.loc 4, []⟩, 0, 0⟩), .deadv, .c (ic n6), .deadv, .c (ic m8), .deadv, .deadv, .c (ic x11)] ++ rep 84 .deadv ++ [.c (.imm t96), .c (ic t97), .c (ic t98)] ++ rep 17 .deadv, [(.loc 4, [ic loc4_0, sc loc4_1, ic loc4_2, ic loc4_3, ic loc4_4])]⟩ (res33 r) (bx33 r)
theorem evr33 {s0 : ByteArray} {at1 : Int} {r : R33} (h : P33 (.e s0 at1) r) : Ev Tryd.prog noHand 33 [.c (sc s0), .c (ic at1)] [] (res33 r) (bx33 r) := ev_of_fin (fn := Tryd.f33) (body := body33) (by kernel_rfl) (by kernel_rfl) (by kernel_rfl) rfl h
theorem t33_e_ok (k : Nat) (rec : S33 → Option R33) (ih : ∀ s r, rec s = some r → P33 s r) (s0 : ByteArray) (at1 : Int) (r : R33) (h : t33_e k rec s0 at1 = some r) : P33 (.e s0 at1) r := by
 unfold t33_e at h
 obtain ⟨v_x1, h_x2, h⟩ := bd_or h
 obtain ⟨h_x3, h⟩ := gd_or h
 rcases bif_or h with ⟨h_x4, h⟩ | ⟨h_x4, h⟩
 ·
  obtain ⟨c_x5, h_x6, h⟩ := sxI_or h
  exact mA 0 hmix (ih _ _ h) 11 [aC 16 (.c (ic v_x1)), aS 22, aT 28, (some 34, .sidx c_x5)] [_, _, _, _] (bm 116 83076749736557242056487872548044332) (by kernel_rfl) ⟨(ev29 h_x2), of_decide_eq_true h_x3, h_x4, h_x6, trivial⟩
 ·
  exact mA 0 hmix (ih _ _ h) 11 [aC 16 (.c (ic v_x1)), aS 22, aF 28] [_, _, _] (bm 116 83076749736557242056487872548044332) (by kernel_rfl) ⟨(ev29 h_x2), of_decide_eq_true h_x3, h_x4, trivial⟩
theorem t33_h0_ok (k : Nat) (rec : S33 → Option R33) (ih : ∀ s r, rec s = some r → P33 s r) (s0 : ByteArray) (at1 : Int) (n6 : Int) (d7 : ByteArray) (m8 : Int) (t36 : Bool) (loc4_0 : Int) (loc4_1 : ByteArray) (loc4_2 : Int) (loc4_3 : Int) (loc4_4 : Int) (r : R33) (h : t33_h0 k rec s0 at1 n6 d7 m8 t36 loc4_0 loc4_1 loc4_2 loc4_3 loc4_4 = some r) : P33 (.h0 s0 at1 n6 d7 m8 t36 loc4_0 loc4_1 loc4_2 loc4_3 loc4_4) r := by
 unfold t33_h0 at h
 replace h := bif_or h; rcases h with ⟨rfl, h⟩ | ⟨rfl, h⟩
 ·
  obtain ⟨v_x1, h_x2, h⟩ := bd_or h
  exact mA 0 hmix (ih _ _ h) 2 [aC 42 (.c (ic v_x1))] [_] (bm 116 83076749736557242056487941267521068) (by kernel_rfl) ⟨(ev29 h_x2), trivial⟩
 ·
  exact mA 0 hmix (ih _ _ h) 2 [] [] (bm 116 83076749736557242056487941267521068) (by kernel_rfl) trivial
theorem t33_h1_ok (k : Nat) (rec : S33 → Option R33) (ih : ∀ s r, rec s = some r → P33 s r) (s0 : ByteArray) (at1 : Int) (n6 : Int) (d7 : ByteArray) (m8 : Int) (loc4_0 : Int) (loc4_1 : ByteArray) (loc4_2 : Int) (loc4_3 : Int) (loc4_4 : Int) (r : R33) (h : t33_h1 k rec s0 at1 n6 d7 m8 loc4_0 loc4_1 loc4_2 loc4_3 loc4_4 = some r) : P33 (.h1 s0 at1 n6 d7 m8 loc4_0 loc4_1 loc4_2 loc4_3 loc4_4) r := by
 unfold t33_h1 at h
 rcases bif_or h with ⟨h_x1, h⟩ | ⟨h_x1, h⟩
 ·
  obtain ⟨c_x2, h_x3, h⟩ := sxI_or h
  rcases bif_or h with ⟨h_x4, h⟩ | ⟨h_x4, h⟩
  ·
   exact mA 0 hmix (ih _ _ h) 3 [aT 44, (some 47, .sidx c_x2), aT 48] [_, _, _] (bm 116 83076749736557094482535351591108140) (by kernel_rfl) ⟨h_x1, h_x3, h_x4, trivial⟩
  ·
   rcases bif_or h with ⟨h_x5, h⟩ | ⟨h_x5, h⟩
   ·
    rcases bif_or h with ⟨h_x6, h⟩ | ⟨h_x6, h⟩
    ·
     exact mA 0 hmix (ih _ _ h) 3 [aT 44, (some 47, .sidx c_x2), aF 48, aT 52, aT 55] [_, _, _, _, _] (bm 116 83076749736557094482535351591108140) (by kernel_rfl) ⟨h_x1, h_x3, h_x4, h_x5, h_x6, trivial⟩
    ·
     exact mA 0 hmix (ih _ _ h) 3 [aT 44, (some 47, .sidx c_x2), aF 48, aT 52, aF 55, aF 60] [_, _, _, _, _, _] (bm 116 83076749736557094482535351591108140) (by kernel_rfl) ⟨h_x1, h_x3, h_x4, h_x5, h_x6, (show (decide (m8 > 0)) = false from by rw [eq_of_beq h_x5]; rfl), trivial⟩
   ·
    rcases bif_or h with ⟨h_x6, h⟩ | ⟨h_x6, h⟩
    ·
     exact mA 0 hmix (ih _ _ h) 3 [aT 44, (some 47, .sidx c_x2), aF 48, aF 52, aT 60] [_, _, _, _, _] (bm 116 83076749736557094482535351591108140) (by kernel_rfl) ⟨h_x1, h_x3, h_x4, h_x5, h_x6, trivial⟩
    ·
     exact mA 0 hmix (ih _ _ h) 3 [aT 44, (some 47, .sidx c_x2), aF 48, aF 52, aF 60] [_, _, _, _, _] (bm 116 83076749736557094482535351591108140) (by kernel_rfl) ⟨h_x1, h_x3, h_x4, h_x5, h_x6, trivial⟩
 ·
  rcases bif_or h with ⟨h_x2, h⟩ | ⟨h_x2, h⟩
  ·
   rcases bif_or h with ⟨h_x3, h⟩ | ⟨h_x3, h⟩
   ·
    exact mA 0 hmix (ih _ _ h) 3 [aF 44, aT 52, aT 55] [_, _, _] (bm 116 83076749736557094482535351591108140) (by kernel_rfl) ⟨h_x1, h_x2, h_x3, trivial⟩
   ·
    exact mA 0 hmix (ih _ _ h) 3 [aF 44, aT 52, aF 55, aF 60] [_, _, _, _] (bm 116 83076749736557094482535351591108140) (by kernel_rfl) ⟨h_x1, h_x2, h_x3, (show (decide (m8 > 0)) = false from by rw [eq_of_beq h_x2]; rfl), trivial⟩
  ·
   rcases bif_or h with ⟨h_x3, h⟩ | ⟨h_x3, h⟩
   ·
    exact mA 0 hmix (ih _ _ h) 3 [aF 44, aF 52, aT 60] [_, _, _] (bm 116 83076749736557094482535351591108140) (by kernel_rfl) ⟨h_x1, h_x2, h_x3, trivial⟩
   ·
    exact mA 0 hmix (ih _ _ h) 3 [aF 44, aF 52, aF 60] [_, _, _] (bm 116 83076749736557094482535351591108140) (by kernel_rfl) ⟨h_x1, h_x2, h_x3, trivial⟩
theorem t33_h2_ok (k : Nat) (rec : S33 → Option R33) (ih : ∀ s r, rec s = some r → P33 s r) (s0 : ByteArray) (at1 : Int) (n6 : Int) (d7 : ByteArray) (m8 : Int) (t67 : Bool) (loc4_0 : Int) (loc4_1 : ByteArray) (loc4_2 : Int) (loc4_3 : Int) (loc4_4 : Int) (r : R33) (h : t33_h2 k rec s0 at1 n6 d7 m8 t67 loc4_0 loc4_1 loc4_2 loc4_3 loc4_4 = some r) : P33 (.h2 s0 at1 n6 d7 m8 t67 loc4_0 loc4_1 loc4_2 loc4_3 loc4_4) r := by
 unfold t33_h2 at h
 replace h := bif_or h; rcases h with ⟨rfl, h⟩ | ⟨rfl, h⟩
 ·
  rw [← Option.some.inj h]
  exact mF 0 hmix [] [] (by kernel_rfl) trivial
 ·
  rcases bif_or h with ⟨h_x1, h⟩ | ⟨h_x1, h⟩
  ·
   obtain ⟨v_x2, h_x3, h⟩ := bd_or h
   replace h := tup2_or h; obtain ⟨r00_x4, r10_x4, rfl, h⟩ := h
   rcases bif_or h with ⟨h_x5, h⟩ | ⟨h_x5, h⟩
   ·
    rw [← Option.some.inj h]
    exact mF 0 hmix [aT 70, aC 73 ⟨.tup [false, false], [[ic r00_x4], [bc r10_x4]]⟩, aT 77] [_, _, _] (by kernel_rfl) ⟨h_x1, (ev41 h_x3), h_x5, trivial⟩
   ·
    rw [← Option.some.inj h]
    exact mF 0 hmix [aT 70, aC 73 ⟨.tup [false, false], [[ic r00_x4], [bc r10_x4]]⟩, aF 77] [_, _, _] (by kernel_rfl) ⟨h_x1, (ev41 h_x3), h_x5, trivial⟩
  ·
   obtain ⟨h_x2, h⟩ := gd_or h
   obtain ⟨h_x3, h⟩ := gd_or h
   exact mA 0 hmix (ih _ _ h) 14 [aF 70, aS 94, (some 95, .scat)] [_, _, _] (bm 116 83076195139419642206124786459866799) (by kernel_rfl) ⟨h_x1, of_decide_eq_true h_x2, of_decide_eq_true h_x3, trivial⟩
theorem t33_h3_ok (k : Nat) (rec : S33 → Option R33) (ih : ∀ s r, rec s = some r → P33 s r) (n6 : Int) (m8 : Int) (x11 : Int) (t96 : Rs) (t97 : Int) (t98 : Int) (loc4_0 : Int) (loc4_1 : ByteArray) (loc4_2 : Int) (loc4_3 : Int) (loc4_4 : Int) (r : R33) (h : t33_h3 k rec n6 m8 x11 t96 t97 t98 loc4_0 loc4_1 loc4_2 loc4_3 loc4_4 = some r) : P33 (.h3 n6 m8 x11 t96 t97 t98 loc4_0 loc4_1 loc4_2 loc4_3 loc4_4) r := by
 unfold t33_h3 at h
 rcases bif_or h with ⟨h_x1, h⟩ | ⟨h_x1, h⟩
 ·
  obtain ⟨w_x2, h_x3, h⟩ := ixR_or h
  replace h := un_y_or h; obtain ⟨x_x4, rfl, h⟩ := h
  exact mA 0 hmix (ih _ _ h) 13 [aT 99, (some 100, .row [.val (.int .u8 x_x4)])] [_, _] (bm 116 83076195139419642206124786459866799) (by kernel_rfl) ⟨h_x1, ix_row h_x3 rfl, trivial⟩
 ·
  rw [← Option.some.inj h]
  exact mF 0 hmix [aF 99] [_] (by kernel_rfl) ⟨h_x1, trivial⟩
theorem ok33 : ∀ k s r, itS step33 k s = some r → P33 s r := itS_ok fun k rec ih s r h => match s, h with
 | .e s0 at1, h => t33_e_ok k rec ih s0 at1 r h
 | .h0 s0 at1 n6 d7 m8 t36 loc4_0 loc4_1 loc4_2 loc4_3 loc4_4, h => t33_h0_ok k rec ih s0 at1 n6 d7 m8 t36 loc4_0 loc4_1 loc4_2 loc4_3 loc4_4 r h
 | .h1 s0 at1 n6 d7 m8 loc4_0 loc4_1 loc4_2 loc4_3 loc4_4, h => t33_h1_ok k rec ih s0 at1 n6 d7 m8 loc4_0 loc4_1 loc4_2 loc4_3 loc4_4 r h
 | .h2 s0 at1 n6 d7 m8 t67 loc4_0 loc4_1 loc4_2 loc4_3 loc4_4, h => t33_h2_ok k rec ih s0 at1 n6 d7 m8 t67 loc4_0 loc4_1 loc4_2 loc4_3 loc4_4 r h
 | .h3 n6 m8 x11 t96 t97 t98 loc4_0 loc4_1 loc4_2 loc4_3 loc4_4, h => t33_h3_ok k rec ih n6 m8 x11 t96 t97 t98 loc4_0 loc4_1 loc4_2 loc4_3 loc4_4 r h
theorem ev33 {k : Nat} {s0 : ByteArray} {at1 : Int} {r : R33} (h : g33 k s0 at1 = some r) : Ev Tryd.prog noHand 33 [.c (sc s0), .c (ic at1)] [] (res33 r) (bx33 r) := evr33 (ok33 _ _ _ h)
inductive S18 where
 | e (s0 : ByteArray) (at1 : Int)
 | h0 (n9 : Int) (w10 : ByteArray) (t79 : Bool) (loc4_0 : Int) (loc4_1 : ByteArray) (loc4_2 : Int) (loc4_3 : Int) (loc4_4 : Int)
 | h1 (s0 : ByteArray) (at1 : Int) (t85 : Rs) (t86 : Int) (t87 : Int) (loc4_0 : Int) (loc4_1 : ByteArray) (loc4_2 : Int) (loc4_3 : Int) (loc4_4 : Int)
 | h2 (s0 : ByteArray) (at1 : Int) (w12 : ByteArray) (t85 : Rs) (t86 : Int) (t87 : Int) (t108 : Bool) (loc4_0 : Int) (loc4_1 : ByteArray) (loc4_2 : Int) (loc4_3 : Int) (loc4_4 : Int)
abbrev R18 := Int × ByteArray × Int × Int × Int × Int
def res18 : R18 → ARes
 | (r_00, r_01, r_02, r_03, r_04, r_10) => .ret ⟨.tup [true, false], [[ic r_00, sc r_01, ic r_02, ic r_03, ic r_04], [ic r_10]]⟩
def bx18 : R18 → List (List Cell)
 | (r_00, r_01, r_02, r_03, r_04, r_10) => []
noncomputable def t18_e (k : Nat) (rec : S18 → Option R18) (s0 : ByteArray) (at1 : Int) : Option R18 :=
 sxI s0 at1 fun c_x1 =>
 (g28 k c_x1).bind fun v_x3 =>
 bif v_x3 then
  (g29 k s0 at1 true).bind fun v_x5 =>
  gd (decide (0 ≤ at1 ∧ at1 ≤ (IntKind.i64.wrap (at1 + v_x5)) ∧ (IntKind.i64.wrap (at1 + v_x5)) ≤ (s0.size : Int))) <|
  (g30 k (s0.extract (Int.toNat at1) (Int.toNat (IntKind.i64.wrap (at1 + v_x5))))).bind fun v_x8 =>
  bif v_x8 then
   some (1, (s0.extract (Int.toNat at1) (Int.toNat (IntKind.i64.wrap (at1 + v_x5)))), 0, 0, 0, v_x5)
  else
   (g31 k (s0.extract (Int.toNat at1) (Int.toNat (IntKind.i64.wrap (at1 + v_x5))))).bind fun v_x10 =>
   bif v_x10 then
    some (2, (s0.extract (Int.toNat at1) (Int.toNat (IntKind.i64.wrap (at1 + v_x5)))), 0, 0, 0, v_x5)
   else
    some (0, strB [], 0, 0, 0, 0)
 else
  (g32 k c_x1).bind fun v_x5 =>
  bif v_x5 then
   (g33 k s0 at1).bind fun v_x7 =>
   tup6 v_x7 fun r00_x9 r01_x9 r02_x9 r03_x9 r04_x9 r10_x9 =>
   some (r00_x9, r01_x9, r02_x9, r03_x9, r04_x9, r10_x9)
  else
   bif c_x1 == 39 then
    (g29 k s0 (IntKind.i64.wrap (at1 + 1)) true).bind fun v_x8 =>
    gd (decide (0 ≤ (IntKind.i64.wrap (at1 + 1)) ∧ (IntKind.i64.wrap (at1 + 1)) ≤ (IntKind.i64.wrap ((IntKind.i64.wrap (at1 + 1)) + v_x8)) ∧ (IntKind.i64.wrap ((IntKind.i64.wrap (at1 + 1)) + v_x8)) ≤ (s0.size : Int))) <|
    (g31 k (s0.extract (Int.toNat (IntKind.i64.wrap (at1 + 1))) (Int.toNat (IntKind.i64.wrap ((IntKind.i64.wrap (at1 + 1)) + v_x8))))).bind fun v_x11 =>
    bif !v_x11 then
     rec (.h0 v_x8 (s0.extract (Int.toNat (IntKind.i64.wrap (at1 + 1))) (Int.toNat (IntKind.i64.wrap ((IntKind.i64.wrap (at1 + 1)) + v_x8)))) true 0 (strB []) 0 0 0)
    else
     bif decide ((IntKind.i64.wrap ((IntKind.i64.wrap (at1 + 1)) + v_x8)) ≥ (s0.size : Int)) then
      rec (.h0 v_x8 (s0.extract (Int.toNat (IntKind.i64.wrap (at1 + 1))) (Int.toNat (IntKind.i64.wrap ((IntKind.i64.wrap (at1 + 1)) + v_x8)))) true 0 (strB []) 0 0 0)
     else
      sxI s0 (IntKind.i64.wrap ((IntKind.i64.wrap (at1 + 1)) + v_x8)) fun c_x15 =>
      rec (.h0 v_x8 (s0.extract (Int.toNat (IntKind.i64.wrap (at1 + 1))) (Int.toNat (IntKind.i64.wrap ((IntKind.i64.wrap (at1 + 1)) + v_x8)))) (c_x15 != 39) 0 (strB []) 0 0 0)
   else
    rec (.h1 s0 at1 [[sc (strB [33, 61])], [sc (strB [60, 61])], [sc (strB [62, 61])], [sc (strB [40])], [sc (strB [41])], [sc (strB [44])], [sc (strB [46])], [sc (strB [43])], [sc (strB [45])], [sc (strB [42])], [sc (strB [47])], [sc (strB [37])], [sc (strB [61])], [sc (strB [60])], [sc (strB [62])], [sc (strB [33])], [sc (strB [124])]] 17 0 0 (strB []) 0 0 0)
noncomputable def t18_h0 (k : Nat) (rec : S18 → Option R18) (n9 : Int) (w10 : ByteArray) (t79 : Bool) (loc4_0 : Int) (loc4_1 : ByteArray) (loc4_2 : Int) (loc4_3 : Int) (loc4_4 : Int) : Option R18 :=
 bif t79 then
  some (0, strB [], 0, 0, 0, 0)
 else
  some (5, w10, 0, 0, 0, IntKind.i64.wrap (n9 + 2))
noncomputable def t18_h1 (k : Nat) (rec : S18 → Option R18) (s0 : ByteArray) (at1 : Int) (t85 : Rs) (t86 : Int) (t87 : Int) (loc4_0 : Int) (loc4_1 : ByteArray) (loc4_2 : Int) (loc4_3 : Int) (loc4_4 : Int) : Option R18 :=
 bif decide (t87 < t86) then
  ixR t85 t87 fun w_x2 =>
  un_s w_x2 fun x_x4 =>
  bif decide ((IntKind.i64.wrap (at1 + (x_x4.size : Int))) ≤ (s0.size : Int)) then
   gd (decide (0 ≤ at1 ∧ at1 ≤ (IntKind.i64.wrap (at1 + (x_x4.size : Int))) ∧ (IntKind.i64.wrap (at1 + (x_x4.size : Int))) ≤ (s0.size : Int))) <|
   rec (.h2 s0 at1 x_x4 t85 t86 t87 ((s0.extract (Int.toNat at1) (Int.toNat (IntKind.i64.wrap (at1 + (x_x4.size : Int))))).toList == x_x4.toList) loc4_0 loc4_1 loc4_2 loc4_3 loc4_4)
  else
   rec (.h2 s0 at1 x_x4 t85 t86 t87 false loc4_0 loc4_1 loc4_2 loc4_3 loc4_4)
 else
  some (0, strB [], 0, 0, 0, 0)
noncomputable def t18_h2 (k : Nat) (rec : S18 → Option R18) (s0 : ByteArray) (at1 : Int) (w12 : ByteArray) (t85 : Rs) (t86 : Int) (t87 : Int) (t108 : Bool) (loc4_0 : Int) (loc4_1 : ByteArray) (loc4_2 : Int) (loc4_3 : Int) (loc4_4 : Int) : Option R18 :=
 bif t108 then
  some (6, w12, 0, 0, 0, (w12.size : Int))
 else
  rec (.h1 s0 at1 t85 t86 (IntKind.i64.wrap (t87 + 1)) loc4_0 loc4_1 loc4_2 loc4_3 loc4_4)
noncomputable def step18 (k : Nat) (rec : S18 → Option R18) : S18 → Option R18
 | .e s0 at1 => t18_e k rec s0 at1
 | .h0 n9 w10 t79 loc4_0 loc4_1 loc4_2 loc4_3 loc4_4 => t18_h0 k rec n9 w10 t79 loc4_0 loc4_1 loc4_2 loc4_3 loc4_4
 | .h1 s0 at1 t85 t86 t87 loc4_0 loc4_1 loc4_2 loc4_3 loc4_4 => t18_h1 k rec s0 at1 t85 t86 t87 loc4_0 loc4_1 loc4_2 loc4_3 loc4_4
 | .h2 s0 at1 w12 t85 t86 t87 t108 loc4_0 loc4_1 loc4_2 loc4_3 loc4_4 => t18_h2 k rec s0 at1 w12 t85 t86 t87 t108 loc4_0 loc4_1 loc4_2 loc4_3 loc4_4
noncomputable def g18 (k : Nat) (s0 : ByteArray) (at1 : Int) : Option R18 := itS step18 k (.e s0 at1)
noncomputable def P18 : S18 → R18 → Prop
 | .e s0 at1, r => Fin cx18 Tryd.f18 [.code body18] (fr0 Tryd.f18 [.c (sc s0), .c (ic at1)] []) (res18 r) (bx18 r)
 | .h0 n9 w10 t79 loc4_0 loc4_1 loc4_2 loc4_3 loc4_4, r => Fin cx18 Tryd.f18 (kAt body18 [1, 1, 1, 1, 0, 1, 0, 1, 1, 0, 1, 2] []) ⟨rep 4 .deadv ++ [.c (.ptr ⟨⟨.loc 4, []⟩, 0, 0⟩)] ++ rep 4 .deadv ++ [.c (ic n9), .c (sc w10)] ++ rep 68 .deadv ++ [.c (bc t79)] ++ rep 35 .deadv, [(.loc 4, [ic loc4_0, sc loc4_1, ic loc4_2, ic loc4_3, ic loc4_4])]⟩ (res18 r) (bx18 r)
 | .h1 s0 at1 t85 t86 t87 loc4_0 loc4_1 loc4_2 loc4_3 loc4_4, r => Fin cx18 Tryd.f18 (kAt body18 [1, 1, 1, 1, 1, 0, 1, 0, 4] []) ⟨[.c (sc s0), .c (ic at1), .deadv, .deadv, .c (.ptr ⟨⟨.loc 4, []⟩, 0, 0⟩)] ++ rep 80 .deadv ++ [.c (.own 1 t85), .c (ic t86), .c (ic t87)] ++ rep 27 .deadv, [(.loc 4, [ic loc4_0, sc loc4_1, ic loc4_2, ic loc4_3, ic loc4_4])]⟩ (res18 r) (bx18 r)
 | .h2 s0 at1 w12 t85 t86 t87 t108 loc4_0 loc4_1 loc4_2 loc4_3 loc4_4, r => Fin cx18 Tryd.f18 (kAt body18 [1, 1, 1, 1, 1, 0, 1, 0, 0, 1, 1, 0, 0, 1, 1, 2] []) ⟨[.c (sc s0), .c (ic at1), .deadv, .deadv, .c (.ptr ⟨⟨.loc 4, []⟩, 0, 0⟩)] ++ rep 7 .deadv ++ [.c (sc w12)] ++ rep 72 .deadv ++ [.c (.own 1 t85), .c (ic t86), .c (ic t87)] ++ rep 20 .deadv ++ [.c (bc t108)] ++ rep 6 .deadv, [(.loc 4, [ic loc4_0, sc loc4_1, ic loc4_2, ic loc4_3, ic loc4_4])]⟩ (res18 r) (bx18 r)
theorem evr18 {s0 : ByteArray} {at1 : Int} {r : R18} (h : P18 (.e s0 at1) r) : Ev Tryd.prog noHand 18 [.c (sc s0), .c (ic at1)] [] (res18 r) (bx18 r) := ev_of_fin (fn := Tryd.f18) (body := body18) (by kernel_rfl) (by kernel_rfl) (by kernel_rfl) rfl h
theorem t18_e_ok (k : Nat) (rec : S18 → Option R18) (ih : ∀ s r, rec s = some r → P18 s r) (s0 : ByteArray) (at1 : Int) (r : R18) (h : t18_e k rec s0 at1 = some r) : P18 (.e s0 at1) r := by
 unfold t18_e at h
 obtain ⟨c_x1, h_x2, h⟩ := sxI_or h
 obtain ⟨v_x3, h_x4, h⟩ := bd_or h
 replace h := bif_or h; rcases h with ⟨rfl, h⟩ | ⟨rfl, h⟩
 ·
  obtain ⟨v_x5, h_x6, h⟩ := bd_or h
  obtain ⟨h_x7, h⟩ := gd_or h
  obtain ⟨v_x8, h_x9, h⟩ := bd_or h
  replace h := bif_or h; rcases h with ⟨rfl, h⟩ | ⟨rfl, h⟩
  ·
   rw [← Option.some.inj h]
   exact mF 0 hmix [(some 15, .sidx c_x1), aC 17 (.c (bc true)), aC 20 (.c (ic v_x5)), aS 26, aC 28 (.c (bc true))] [_, _, _, _, _] (by kernel_rfl) ⟨h_x2, (ev28 h_x4), (ev29 h_x6), of_decide_eq_true h_x7, (ev30 h_x9), trivial⟩
  ·
   obtain ⟨v_x10, h_x11, h⟩ := bd_or h
   replace h := bif_or h; rcases h with ⟨rfl, h⟩ | ⟨rfl, h⟩
   ·
    rw [← Option.some.inj h]
    exact mF 0 hmix [(some 15, .sidx c_x1), aC 17 (.c (bc true)), aC 20 (.c (ic v_x5)), aS 26, aC 28 (.c (bc false)), aC 33 (.c (bc true))] [_, _, _, _, _, _] (by kernel_rfl) ⟨h_x2, (ev28 h_x4), (ev29 h_x6), of_decide_eq_true h_x7, (ev30 h_x9), (ev31 h_x11), trivial⟩
   ·
    rw [← Option.some.inj h]
    exact mF 0 hmix [(some 15, .sidx c_x1), aC 17 (.c (bc true)), aC 20 (.c (ic v_x5)), aS 26, aC 28 (.c (bc false)), aC 33 (.c (bc false))] [_, _, _, _, _, _] (by kernel_rfl) ⟨h_x2, (ev28 h_x4), (ev29 h_x6), of_decide_eq_true h_x7, (ev30 h_x9), (ev31 h_x11), trivial⟩
 ·
  obtain ⟨v_x5, h_x6, h⟩ := bd_or h
  replace h := bif_or h; rcases h with ⟨rfl, h⟩ | ⟨rfl, h⟩
  ·
   obtain ⟨v_x7, h_x8, h⟩ := bd_or h
   replace h := tup6_or h; obtain ⟨r00_x9, r01_x9, r02_x9, r03_x9, r04_x9, r10_x9, rfl, h⟩ := h
   rw [← Option.some.inj h]
   exact mF 0 hmix [(some 15, .sidx c_x1), aC 17 (.c (bc false)), aC 39 (.c (bc true)), aC 42 ⟨.tup [true, false], [[ic r00_x9, sc r01_x9, ic r02_x9, ic r03_x9, ic r04_x9], [ic r10_x9]]⟩] [_, _, _, _] (by kernel_rfl) ⟨h_x2, (ev28 h_x4), (ev32 h_x6), (ev33 h_x8), trivial⟩
  ·
   rcases bif_or h with ⟨h_x7, h⟩ | ⟨h_x7, h⟩
   ·
    obtain ⟨v_x8, h_x9, h⟩ := bd_or h
    obtain ⟨h_x10, h⟩ := gd_or h
    obtain ⟨v_x11, h_x12, h⟩ := bd_or h
    rcases bif_or h with ⟨h_x13, h⟩ | ⟨h_x13, h⟩
    ·
     exact mA 0 hmix (ih _ _ h) 25 [(some 15, .sidx c_x1), aC 17 (.c (bc false)), aC 39 (.c (bc false)), aT 46, aC 50 (.c (ic v_x8)), aS 58, aC 60 (.c (bc v_x11)), aT 61] [_, _, _, _, _, _, _, _] (bm 115 41538374867674158118436656046406127) (by kernel_rfl) ⟨h_x2, (ev28 h_x4), (ev32 h_x6), h_x7, (ev29 h_x9), of_decide_eq_true h_x10, (ev31 h_x12), h_x13, trivial⟩
    ·
     rcases bif_or h with ⟨h_x14, h⟩ | ⟨h_x14, h⟩
     ·
      exact mA 0 hmix (ih _ _ h) 25 [(some 15, .sidx c_x1), aC 17 (.c (bc false)), aC 39 (.c (bc false)), aT 46, aC 50 (.c (ic v_x8)), aS 58, aC 60 (.c (bc v_x11)), aF 61, aT 69] [_, _, _, _, _, _, _, _, _] (bm 115 41538374867674158118436656046406127) (by kernel_rfl) ⟨h_x2, (ev28 h_x4), (ev32 h_x6), h_x7, (ev29 h_x9), of_decide_eq_true h_x10, (ev31 h_x12), h_x13, h_x14, trivial⟩
     ·
      obtain ⟨c_x15, h_x16, h⟩ := sxI_or h
      exact mA 0 hmix (ih _ _ h) 25 [(some 15, .sidx c_x1), aC 17 (.c (bc false)), aC 39 (.c (bc false)), aT 46, aC 50 (.c (ic v_x8)), aS 58, aC 60 (.c (bc v_x11)), aF 61, aF 69, (some 77, .sidx c_x15)] [_, _, _, _, _, _, _, _, _, _] (bm 115 41538374867674158118436656046406127) (by kernel_rfl) ⟨h_x2, (ev28 h_x4), (ev32 h_x6), h_x7, (ev29 h_x9), of_decide_eq_true h_x10, (ev31 h_x12), h_x13, h_x14, h_x16, trivial⟩
   ·
    exact mA 0 hmix (ih _ _ h) 24 [(some 15, .sidx c_x1), aC 17 (.c (bc false)), aC 39 (.c (bc false)), aF 46] [_, _, _, _] (bm 115 41538374597479237434567035499577324) (by kernel_rfl) ⟨h_x2, (ev28 h_x4), (ev32 h_x6), h_x7, trivial⟩
theorem t18_h0_ok (k : Nat) (rec : S18 → Option R18) (ih : ∀ s r, rec s = some r → P18 s r) (n9 : Int) (w10 : ByteArray) (t79 : Bool) (loc4_0 : Int) (loc4_1 : ByteArray) (loc4_2 : Int) (loc4_3 : Int) (loc4_4 : Int) (r : R18) (h : t18_h0 k rec n9 w10 t79 loc4_0 loc4_1 loc4_2 loc4_3 loc4_4 = some r) : P18 (.h0 n9 w10 t79 loc4_0 loc4_1 loc4_2 loc4_3 loc4_4) r := by
 unfold t18_h0 at h
 replace h := bif_or h; rcases h with ⟨rfl, h⟩ | ⟨rfl, h⟩
 ·
  rw [← Option.some.inj h]
  exact mF 0 hmix [] [] (by kernel_rfl) trivial
 ·
  rw [← Option.some.inj h]
  exact mF 0 hmix [] [] (by kernel_rfl) trivial
theorem t18_h1_ok (k : Nat) (rec : S18 → Option R18) (ih : ∀ s r, rec s = some r → P18 s r) (s0 : ByteArray) (at1 : Int) (t85 : Rs) (t86 : Int) (t87 : Int) (loc4_0 : Int) (loc4_1 : ByteArray) (loc4_2 : Int) (loc4_3 : Int) (loc4_4 : Int) (r : R18) (h : t18_h1 k rec s0 at1 t85 t86 t87 loc4_0 loc4_1 loc4_2 loc4_3 loc4_4 = some r) : P18 (.h1 s0 at1 t85 t86 t87 loc4_0 loc4_1 loc4_2 loc4_3 loc4_4) r := by
 unfold t18_h1 at h
 rcases bif_or h with ⟨h_x1, h⟩ | ⟨h_x1, h⟩
 ·
  obtain ⟨w_x2, h_x3, h⟩ := ixR_or h
  replace h := un_s_or h; obtain ⟨x_x4, rfl, h⟩ := h
  rcases bif_or h with ⟨h_x5, h⟩ | ⟨h_x5, h⟩
  ·
   obtain ⟨h_x6, h⟩ := gd_or h
   exact mA 0 hmix (ih _ _ h) 12 [aT 88, (some 89, .bnd), (some 90, .ld [sc x_x4]), aT 97, aS 105] [_, _, _, _, _] (bm 115 41213856043820810707783879478996972) (by kernel_rfl) ⟨h_x1, ix_bnd h_x3, h_x3.2, h_x5, of_decide_eq_true h_x6, trivial⟩
  ·
   exact mA 0 hmix (ih _ _ h) 12 [aT 88, (some 89, .bnd), (some 90, .ld [sc x_x4]), aF 97] [_, _, _, _] (bm 115 41213856043820810707783879478996972) (by kernel_rfl) ⟨h_x1, ix_bnd h_x3, h_x3.2, h_x5, trivial⟩
 ·
  rw [← Option.some.inj h]
  exact mF 0 hmix [aF 88] [_] (by kernel_rfl) ⟨h_x1, trivial⟩
theorem t18_h2_ok (k : Nat) (rec : S18 → Option R18) (ih : ∀ s r, rec s = some r → P18 s r) (s0 : ByteArray) (at1 : Int) (w12 : ByteArray) (t85 : Rs) (t86 : Int) (t87 : Int) (t108 : Bool) (loc4_0 : Int) (loc4_1 : ByteArray) (loc4_2 : Int) (loc4_3 : Int) (loc4_4 : Int) (r : R18) (h : t18_h2 k rec s0 at1 w12 t85 t86 t87 t108 loc4_0 loc4_1 loc4_2 loc4_3 loc4_4 = some r) : P18 (.h2 s0 at1 w12 t85 t86 t87 t108 loc4_0 loc4_1 loc4_2 loc4_3 loc4_4) r := by
 unfold t18_h2 at h
 replace h := bif_or h; rcases h with ⟨rfl, h⟩ | ⟨rfl, h⟩
 ·
  rw [← Option.some.inj h]
  exact mF 0 hmix [] [] (by kernel_rfl) trivial
 ·
  exact mA 0 hmix (ih _ _ h) 4 [] [] (bm 115 41538374597479237434567035499577324) (by kernel_rfl) trivial
theorem ok18 : ∀ k s r, itS step18 k s = some r → P18 s r := itS_ok fun k rec ih s r h => match s, h with
 | .e s0 at1, h => t18_e_ok k rec ih s0 at1 r h
 | .h0 n9 w10 t79 loc4_0 loc4_1 loc4_2 loc4_3 loc4_4, h => t18_h0_ok k rec ih n9 w10 t79 loc4_0 loc4_1 loc4_2 loc4_3 loc4_4 r h
 | .h1 s0 at1 t85 t86 t87 loc4_0 loc4_1 loc4_2 loc4_3 loc4_4, h => t18_h1_ok k rec ih s0 at1 t85 t86 t87 loc4_0 loc4_1 loc4_2 loc4_3 loc4_4 r h
 | .h2 s0 at1 w12 t85 t86 t87 t108 loc4_0 loc4_1 loc4_2 loc4_3 loc4_4, h => t18_h2_ok k rec ih s0 at1 w12 t85 t86 t87 t108 loc4_0 loc4_1 loc4_2 loc4_3 loc4_4 r h
theorem ev18 {k : Nat} {s0 : ByteArray} {at1 : Int} {r : R18} (h : g18 k s0 at1 = some r) : Ev Tryd.prog noHand 18 [.c (sc s0), .c (ic at1)] [] (res18 r) (bx18 r) := evr18 (ok18 _ _ _ h)
inductive S9 where
 | e (s0 : ByteArray)
 | h0 (t2 : Rs) (t3 : Int) (t4 : Int)
 | h1 (s0 : ByteArray) (l5 : Rs) (at6 : Int)
 | h2 (s0 : ByteArray) (l5 : Rs) (at6 : Int)
 | h3 (s0 : ByteArray) (l5 : Rs) (at6 : Int) (t21 : Bool)
 | h4 (t2 : Rs) (t3 : Int) (t4 : Int)
 | h5 (t2 : Rs) (t3 : Int) (t4 : Int)
abbrev R9 := Rs × Int × Int
def res9 : R9 → ARes
 | (r_00, r_10, r_20) => .ret ⟨.tup [false, false, false], [[.own 5 r_00], [ic r_10], [ic r_20]]⟩
def bx9 : R9 → List (List Cell)
 | (r_00, r_10, r_20) => []
noncomputable def t9_e (k : Nat) (rec : S9 → Option R9) (s0 : ByteArray) : Option R9 :=
 bif decide ((s0.size : Int) > 4000) then
  rec (.h0 [] 0 2)
 else
  rec (.h1 s0 [] 0)
noncomputable def t9_h0 (k : Nat) (rec : S9 → Option R9) (t2 : Rs) (t3 : Int) (t4 : Int) : Option R9 :=
 some (t2, t3, t4)
noncomputable def t9_h1 (k : Nat) (rec : S9 → Option R9) (s0 : ByteArray) (l5 : Rs) (at6 : Int) : Option R9 :=
 rec (.h2 s0 l5 at6)
noncomputable def t9_h2 (k : Nat) (rec : S9 → Option R9) (s0 : ByteArray) (l5 : Rs) (at6 : Int) : Option R9 :=
 bif decide (at6 < (s0.size : Int)) then
  sxI s0 at6 fun c_x2 =>
  (g13 k c_x2).bind fun v_x4 =>
  rec (.h3 s0 l5 at6 v_x4)
 else
  rec (.h3 s0 l5 at6 false)
noncomputable def t9_h3 (k : Nat) (rec : S9 → Option R9) (s0 : ByteArray) (l5 : Rs) (at6 : Int) (t21 : Bool) : Option R9 :=
 bif t21 then
  rec (.h2 s0 l5 (IntKind.i64.wrap (at6 + 1)))
 else
  bif at6 == (s0.size : Int) then
   gd (apOk 48 5 l5 [[ic 0, sc (strB []), ic 0, ic 0, ic at6]]) <|
   rec (.h4 (l5 ++ [[ic 0, sc (strB []), ic 0, ic 0, ic at6]]) 0 0)
  else
   (g18 k s0 at6).bind fun v_x2 =>
   tup6 v_x2 fun r00_x4 r01_x4 r02_x4 r03_x4 r04_x4 r10_x4 =>
   bif r10_x4 == 0 then
    rec (.h5 [] at6 12)
   else
    gd (apOk 48 5 l5 [[ic r00_x4, sc r01_x4, ic r02_x4, ic r03_x4, ic at6]]) <|
    rec (.h1 s0 (l5 ++ [[ic r00_x4, sc r01_x4, ic r02_x4, ic r03_x4, ic at6]]) (IntKind.i64.wrap (at6 + r10_x4)))
noncomputable def t9_h4 (k : Nat) (rec : S9 → Option R9) (t2 : Rs) (t3 : Int) (t4 : Int) : Option R9 :=
 some (t2, t3, t4)
noncomputable def t9_h5 (k : Nat) (rec : S9 → Option R9) (t2 : Rs) (t3 : Int) (t4 : Int) : Option R9 :=
 some (t2, t3, t4)
noncomputable def step9 (k : Nat) (rec : S9 → Option R9) : S9 → Option R9
 | .e s0 => t9_e k rec s0
 | .h0 t2 t3 t4 => t9_h0 k rec t2 t3 t4
 | .h1 s0 l5 at6 => t9_h1 k rec s0 l5 at6
 | .h2 s0 l5 at6 => t9_h2 k rec s0 l5 at6
 | .h3 s0 l5 at6 t21 => t9_h3 k rec s0 l5 at6 t21
 | .h4 t2 t3 t4 => t9_h4 k rec t2 t3 t4
 | .h5 t2 t3 t4 => t9_h5 k rec t2 t3 t4
noncomputable def g9 (k : Nat) (s0 : ByteArray) : Option R9 := itS step9 k (.e s0)
noncomputable def P9 : S9 → R9 → Prop
 | .e s0, r => Fin cx9 Tryd.f9 [.code body9] (fr0 Tryd.f9 [.c (sc s0)] []) (res9 r) (bx9 r)
 | .h0 t2 t3 t4, r => Fin cx9 Tryd.f9 (kAt body9 [1, 0, 1, 0, 1, 2] []) ⟨[.deadv, .deadv, .c (.own 5 t2), .c (ic t3), .c (ic t4)] ++ rep 46 .deadv, []⟩ (res9 r) (bx9 r)
 | .h1 s0 l5 at6, r => Fin cx9 Tryd.f9 (kAt body9 [1, 1, 1, 1, 0, 4] []) ⟨[.c (sc s0)] ++ rep 4 .deadv ++ [.c (.own 5 l5), .c (ic at6)] ++ rep 44 .deadv, []⟩ (res9 r) (bx9 r)
 | .h2 s0 l5 at6, r => Fin cx9 Tryd.f9 (kAt body9 [1, 1, 1, 1, 0, 0, 0, 0, 0, 4] []) ⟨[.c (sc s0)] ++ rep 4 .deadv ++ [.c (.own 5 l5), .c (ic at6)] ++ rep 44 .deadv, []⟩ (res9 r) (bx9 r)
 | .h3 s0 l5 at6 t21, r => Fin cx9 Tryd.f9 (kAt body9 [1, 1, 1, 1, 0, 0, 0, 0, 0, 0, 0, 1, 2] []) ⟨[.c (sc s0)] ++ rep 4 .deadv ++ [.c (.own 5 l5), .c (ic at6)] ++ rep 14 .deadv ++ [.c (bc t21)] ++ rep 29 .deadv, []⟩ (res9 r) (bx9 r)
 | .h4 t2 t3 t4, r => Fin cx9 Tryd.f9 (kAt body9 [1, 1, 1, 1, 0, 0, 0, 1, 0, 1, 0, 1, 2] []) ⟨[.deadv, .deadv, .c (.own 5 t2), .c (ic t3), .c (ic t4)] ++ rep 46 .deadv, []⟩ (res9 r) (bx9 r)
 | .h5 t2 t3 t4, r => Fin cx9 Tryd.f9 (kAt body9 [1, 1, 1, 1, 0, 0, 0, 1, 1, 1, 0, 1, 0, 1, 2] []) ⟨[.deadv, .deadv, .c (.own 5 t2), .c (ic t3), .c (ic t4)] ++ rep 46 .deadv, []⟩ (res9 r) (bx9 r)
theorem evr9 {s0 : ByteArray} {r : R9} (h : P9 (.e s0) r) : Ev Tryd.prog noHand 9 [.c (sc s0)] [] (res9 r) (bx9 r) := ev_of_fin (fn := Tryd.f9) (body := body9) (by kernel_rfl) (by kernel_rfl) (by kernel_rfl) rfl h
theorem t9_e_ok (k : Nat) (rec : S9 → Option R9) (ih : ∀ s r, rec s = some r → P9 s r) (s0 : ByteArray) (r : R9) (h : t9_e k rec s0 = some r) : P9 (.e s0) r := by
 unfold t9_e at h
 rcases bif_or h with ⟨h_x1, h⟩ | ⟨h_x1, h⟩
 ·
  exact mgo_at (nb := 0) hmix (ih _ _ h) (n := 8) (ad := [aT 11]) (ps := [_]) (m := bm 51 2251799813685219) (ls := []) (cs := [(⟨⟨.slot 2, []⟩, 0, 0⟩, some 5)]) (by kernel_rfl) ⟨h_x1, trivial⟩
 ·
  exact mgo_at (nb := 0) hmix (ih _ _ h) (n := 13) (ad := [aF 11]) (ps := [_]) (m := bm 51 2251799813685150) (ls := []) (cs := [(⟨⟨.slot 5, []⟩, 0, 0⟩, some 5)]) (by kernel_rfl) ⟨h_x1, trivial⟩
theorem t9_h0_ok (k : Nat) (rec : S9 → Option R9) (ih : ∀ s r, rec s = some r → P9 s r) (t2 : Rs) (t3 : Int) (t4 : Int) (r : R9) (h : t9_h0 k rec t2 t3 t4 = some r) : P9 (.h0 t2 t3 t4) r := by
 unfold t9_h0 at h
 rw [← Option.some.inj h]
 exact mF 0 hmix [] [] (by kernel_rfl) trivial
theorem t9_h1_ok (k : Nat) (rec : S9 → Option R9) (ih : ∀ s r, rec s = some r → P9 s r) (s0 : ByteArray) (l5 : Rs) (at6 : Int) (r : R9) (h : t9_h1 k rec s0 l5 at6 = some r) : P9 (.h1 s0 l5 at6) r := by
 unfold t9_h1 at h
 exact mA 0 hmix (ih _ _ h) 5 [] [] (bm 51 2251799813685150) (by kernel_rfl) trivial
theorem t9_h2_ok (k : Nat) (rec : S9 → Option R9) (ih : ∀ s r, rec s = some r → P9 s r) (s0 : ByteArray) (l5 : Rs) (at6 : Int) (r : R9) (h : t9_h2 k rec s0 l5 at6 = some r) : P9 (.h2 s0 l5 at6) r := by
 unfold t9_h2 at h
 rcases bif_or h with ⟨h_x1, h⟩ | ⟨h_x1, h⟩
 ·
  obtain ⟨c_x2, h_x3, h⟩ := sxI_or h
  obtain ⟨v_x4, h_x5, h⟩ := bd_or h
  exact mA 0 hmix (ih _ _ h) 4 [aT 15, (some 19, .sidx c_x2), aC 20 (.c (bc v_x4))] [_, _, _] (bm 51 2251799811587998) (by kernel_rfl) ⟨h_x1, h_x3, (ev13 h_x5), trivial⟩
 ·
  exact mA 0 hmix (ih _ _ h) 4 [aF 15] [_] (bm 51 2251799811587998) (by kernel_rfl) ⟨h_x1, trivial⟩
theorem t9_h3_ok (k : Nat) (rec : S9 → Option R9) (ih : ∀ s r, rec s = some r → P9 s r) (s0 : ByteArray) (l5 : Rs) (at6 : Int) (t21 : Bool) (r : R9) (h : t9_h3 k rec s0 l5 at6 t21 = some r) : P9 (.h3 s0 l5 at6 t21) r := by
 unfold t9_h3 at h
 replace h := bif_or h; rcases h with ⟨rfl, h⟩ | ⟨rfl, h⟩
 ·
  exact mA 0 hmix (ih _ _ h) 5 [] [] (bm 51 2251799813685150) (by kernel_rfl) trivial
 ·
  rcases bif_or h with ⟨h_x1, h⟩ | ⟨h_x1, h⟩
  ·
   obtain ⟨h_x2, h⟩ := gd_or h
   exact mA 0 hmix (ih _ _ h) 8 [aT 27, (some 32, .okE false)] [_, _] (bm 51 2251799813685219) (by kernel_rfl) ⟨h_x1, okF [[ic 0, sc (strB []), ic 0, ic 0, ic at6]] h_x2, trivial⟩
  ·
   obtain ⟨v_x2, h_x3, h⟩ := bd_or h
   replace h := tup6_or h; obtain ⟨r00_x4, r01_x4, r02_x4, r03_x4, r04_x4, r10_x4, rfl, h⟩ := h
   rcases bif_or h with ⟨h_x5, h⟩ | ⟨h_x5, h⟩
   ·
    exact mgo_at (nb := 0) hmix (ih _ _ h) (n := 15) (ad := [aF 27, aC 36 ⟨.tup [true, false], [[ic r00_x4, sc r01_x4, ic r02_x4, ic r03_x4, ic r04_x4], [ic r10_x4]]⟩, aT 40]) (ps := [_, _, _]) (m := bm 51 2251799813685219) (ls := [7]) (cs := [(⟨⟨.slot 2, []⟩, 0, 0⟩, some 5)]) (by kernel_rfl) ⟨h_x1, (ev18 h_x3), h_x5, trivial⟩
   ·
    obtain ⟨h_x6, h⟩ := gd_or h
    exact mgo_at (nb := 0) hmix (ih _ _ h) (n := 20) (ad := [aF 27, aC 36 ⟨.tup [true, false], [[ic r00_x4, sc r01_x4, ic r02_x4, ic r03_x4, ic r04_x4], [ic r10_x4]]⟩, aF 40, (some 47, .okE false)]) (ps := [_, _, _, _]) (m := bm 51 2251799813685150) (ls := [7]) (cs := []) (by kernel_rfl) ⟨h_x1, (ev18 h_x3), h_x5, okF [[ic r00_x4, sc r01_x4, ic r02_x4, ic r03_x4, ic at6]] h_x6, trivial⟩
theorem t9_h4_ok (k : Nat) (rec : S9 → Option R9) (ih : ∀ s r, rec s = some r → P9 s r) (t2 : Rs) (t3 : Int) (t4 : Int) (r : R9) (h : t9_h4 k rec t2 t3 t4 = some r) : P9 (.h4 t2 t3 t4) r := by
 unfold t9_h4 at h
 rw [← Option.some.inj h]
 exact mF 0 hmix [] [] (by kernel_rfl) trivial
theorem t9_h5_ok (k : Nat) (rec : S9 → Option R9) (ih : ∀ s r, rec s = some r → P9 s r) (t2 : Rs) (t3 : Int) (t4 : Int) (r : R9) (h : t9_h5 k rec t2 t3 t4 = some r) : P9 (.h5 t2 t3 t4) r := by
 unfold t9_h5 at h
 rw [← Option.some.inj h]
 exact mF 0 hmix [] [] (by kernel_rfl) trivial
theorem ok9 : ∀ k s r, itS step9 k s = some r → P9 s r := itS_ok fun k rec ih s r h => match s, h with
 | .e s0, h => t9_e_ok k rec ih s0 r h
 | .h0 t2 t3 t4, h => t9_h0_ok k rec ih t2 t3 t4 r h
 | .h1 s0 l5 at6, h => t9_h1_ok k rec ih s0 l5 at6 r h
 | .h2 s0 l5 at6, h => t9_h2_ok k rec ih s0 l5 at6 r h
 | .h3 s0 l5 at6 t21, h => t9_h3_ok k rec ih s0 l5 at6 t21 r h
 | .h4 t2 t3 t4, h => t9_h4_ok k rec ih t2 t3 t4 r h
 | .h5 t2 t3 t4, h => t9_h5_ok k rec ih t2 t3 t4 r h
theorem ev9 {k : Nat} {s0 : ByteArray} {r : R9} (h : g9 k s0 = some r) : Ev Tryd.prog noHand 9 [.c (sc s0)] [] (res9 r) (bx9 r) := evr9 (ok9 _ _ _ h)
inductive S10 where
 | e
abbrev R10 := Bool
def res10 : R10 → ARes
 | r => .ret (.c (bc r))
def bx10 : R10 → List (List Cell)
 | r => []
noncomputable def t10_e (k : Nat) (rec : S10 → Option R10) : Option R10 :=
 (g8 k (strB [97, 60, 61, 49, 46, 53, 48])).bind fun v_x1 =>
 altC v_x1 (fun v_x3 => 
   tup3 v_x3 fun r00_x4 r10_x4 r20_x4 =>
   bif r20_x4 == 0 then
    bif r10_x4 == 0 then
     bif (r00_x4.length : Int) == 4 then
      ixR r00_x4 1 fun w_x8 =>
      un_isi3 w_x8 fun kind_x10 text_x10 n_x10 scale_x10 at_x10 =>
      bif text_x10.toList == (strB [60, 61]).toList then
       ixR r00_x4 2 fun w_x12 =>
       un_isi3 w_x12 fun kind_x14 text_x14 n_x14 scale_x14 at_x14 =>
       bif n_x14 == 150 then
        bif scale_x14 == 2 then
         ixR r00_x4 3 fun w_x17 =>
         un_isi3 w_x17 fun kind_x19 text_x19 n_x19 scale_x19 at_x19 =>
         some (at_x19 == 7)
        else
         some false
       else
        some false
      else
       some false
     else
      some false
    else
     some false
   else
    some false) (fun v_x3 => 
   tup2 v_x3 fun r10_x4 r20_x4 =>
   bif r20_x4 == 0 then
    bif r10_x4 == 0 then
     some false
    else
     some false
   else
    some false)
noncomputable def step10 (k : Nat) (rec : S10 → Option R10) : S10 → Option R10
 | .e => t10_e k rec
noncomputable def g10 (k : Nat) : Option R10 := itS step10 k (.e)
noncomputable def P10 : S10 → R10 → Prop
 | .e, r => Fin cx10 Tryd.f10 [.code body10] (fr0 Tryd.f10 [] []) (res10 r) (bx10 r)
theorem evr10 {r : R10} (h : P10 (.e) r) : Ev Tryd.prog noHand 10 [] [] (res10 r) (bx10 r) := ev_of_fin (fn := Tryd.f10) (body := body10) (by kernel_rfl) (by kernel_rfl) (by kernel_rfl) rfl h
theorem t10_e_ok (k : Nat) (rec : S10 → Option R10) (ih : ∀ s r, rec s = some r → P10 s r) (r : R10) (h : t10_e k rec = some r) : P10 (.e) r := by
 unfold t10_e at h
 obtain ⟨v_x1, h_x2, h⟩ := bd_or h
 replace h := altC_or h; rcases h with ⟨v_x3, rfl, h⟩ | ⟨v_x3, rfl, h⟩
 ·
  replace h := tup3_or h; obtain ⟨r00_x4, r10_x4, r20_x4, rfl, h⟩ := h
  rcases bif_or h with ⟨h_x5, h⟩ | ⟨h_x5, h⟩
  ·
   rcases bif_or h with ⟨h_x6, h⟩ | ⟨h_x6, h⟩
   ·
    rcases bif_or h with ⟨h_x7, h⟩ | ⟨h_x7, h⟩
    ·
     obtain ⟨w_x8, h_x9, h⟩ := ixR_or h
     replace h := un_isi3_or h; obtain ⟨kind_x10, text_x10, n_x10, scale_x10, at_x10, rfl, h⟩ := h
     rcases bif_or h with ⟨h_x11, h⟩ | ⟨h_x11, h⟩
     ·
      obtain ⟨w_x12, h_x13, h⟩ := ixR_or h
      replace h := un_isi3_or h; obtain ⟨kind_x14, text_x14, n_x14, scale_x14, at_x14, rfl, h⟩ := h
      rcases bif_or h with ⟨h_x15, h⟩ | ⟨h_x15, h⟩
      ·
       rcases bif_or h with ⟨h_x16, h⟩ | ⟨h_x16, h⟩
       ·
        obtain ⟨w_x17, h_x18, h⟩ := ixR_or h
        replace h := un_isi3_or h; obtain ⟨kind_x19, text_x19, n_x19, scale_x19, at_x19, rfl, h⟩ := h
        rw [← Option.some.inj h]
        exact mF 0 hmix [aC 5 ⟨.tup [false, false, false], [[.imm r00_x4], [ic r10_x4], [ic r20_x4]]⟩, aT 10, aT 13, aT 18, (some 22, .row [ic kind_x10, sc text_x10, ic n_x10, ic scale_x10, ic at_x10]), aT 25, (some 29, .row [ic kind_x14, sc text_x14, ic n_x14, ic scale_x14, ic at_x14]), aT 32, (some 36, .row [ic kind_x14, sc text_x14, ic n_x14, ic scale_x14, ic at_x14]), aT 39, (some 43, .row [ic kind_x19, sc text_x19, ic n_x19, ic scale_x19, ic at_x19])] [_, _, _, _, _, _, _, _, _, _, _] (by kernel_rfl) ⟨(ev8 h_x2), h_x5, h_x6, h_x7, ix_row h_x9 rfl, h_x11, ix_row h_x13 rfl, h_x15, ix_row h_x13 rfl, h_x16, ix_row h_x18 rfl, trivial⟩
       ·
        rw [← Option.some.inj h]
        exact mF 0 hmix [aC 5 ⟨.tup [false, false, false], [[.imm r00_x4], [ic r10_x4], [ic r20_x4]]⟩, aT 10, aT 13, aT 18, (some 22, .row [ic kind_x10, sc text_x10, ic n_x10, ic scale_x10, ic at_x10]), aT 25, (some 29, .row [ic kind_x14, sc text_x14, ic n_x14, ic scale_x14, ic at_x14]), aT 32, (some 36, .row [ic kind_x14, sc text_x14, ic n_x14, ic scale_x14, ic at_x14]), aF 39] [_, _, _, _, _, _, _, _, _, _] (by kernel_rfl) ⟨(ev8 h_x2), h_x5, h_x6, h_x7, ix_row h_x9 rfl, h_x11, ix_row h_x13 rfl, h_x15, ix_row h_x13 rfl, h_x16, trivial⟩
      ·
       rw [← Option.some.inj h]
       exact mF 0 hmix [aC 5 ⟨.tup [false, false, false], [[.imm r00_x4], [ic r10_x4], [ic r20_x4]]⟩, aT 10, aT 13, aT 18, (some 22, .row [ic kind_x10, sc text_x10, ic n_x10, ic scale_x10, ic at_x10]), aT 25, (some 29, .row [ic kind_x14, sc text_x14, ic n_x14, ic scale_x14, ic at_x14]), aF 32] [_, _, _, _, _, _, _, _] (by kernel_rfl) ⟨(ev8 h_x2), h_x5, h_x6, h_x7, ix_row h_x9 rfl, h_x11, ix_row h_x13 rfl, h_x15, trivial⟩
     ·
      rw [← Option.some.inj h]
      exact mF 0 hmix [aC 5 ⟨.tup [false, false, false], [[.imm r00_x4], [ic r10_x4], [ic r20_x4]]⟩, aT 10, aT 13, aT 18, (some 22, .row [ic kind_x10, sc text_x10, ic n_x10, ic scale_x10, ic at_x10]), aF 25] [_, _, _, _, _, _] (by kernel_rfl) ⟨(ev8 h_x2), h_x5, h_x6, h_x7, ix_row h_x9 rfl, h_x11, trivial⟩
    ·
     rw [← Option.some.inj h]
     exact mF 0 hmix [aC 5 ⟨.tup [false, false, false], [[.imm r00_x4], [ic r10_x4], [ic r20_x4]]⟩, aT 10, aT 13, aF 18] [_, _, _, _] (by kernel_rfl) ⟨(ev8 h_x2), h_x5, h_x6, h_x7, trivial⟩
   ·
    rw [← Option.some.inj h]
    exact mF 0 hmix [aC 5 ⟨.tup [false, false, false], [[.imm r00_x4], [ic r10_x4], [ic r20_x4]]⟩, aT 10, aF 13] [_, _, _] (by kernel_rfl) ⟨(ev8 h_x2), h_x5, h_x6, trivial⟩
  ·
   rw [← Option.some.inj h]
   exact mF 0 hmix [aC 5 ⟨.tup [false, false, false], [[.imm r00_x4], [ic r10_x4], [ic r20_x4]]⟩, aF 10] [_, _] (by kernel_rfl) ⟨(ev8 h_x2), h_x5, trivial⟩
 ·
  replace h := tup2_or h; obtain ⟨r10_x4, r20_x4, rfl, h⟩ := h
  rcases bif_or h with ⟨h_x5, h⟩ | ⟨h_x5, h⟩
  ·
   rcases bif_or h with ⟨h_x6, h⟩ | ⟨h_x6, h⟩
   ·
    rw [← Option.some.inj h]
    exact mF 0 hmix [aC 5 ⟨.tup [false, false, false], [[.nil], [ic r10_x4], [ic r20_x4]]⟩, aT 10, aT 13] [_, _, _] (by kernel_rfl) ⟨(ev8 h_x2), h_x5, h_x6, trivial⟩
   ·
    rw [← Option.some.inj h]
    exact mF 0 hmix [aC 5 ⟨.tup [false, false, false], [[.nil], [ic r10_x4], [ic r20_x4]]⟩, aT 10, aF 13] [_, _, _] (by kernel_rfl) ⟨(ev8 h_x2), h_x5, h_x6, trivial⟩
  ·
   rw [← Option.some.inj h]
   exact mF 0 hmix [aC 5 ⟨.tup [false, false, false], [[.nil], [ic r10_x4], [ic r20_x4]]⟩, aF 10] [_, _] (by kernel_rfl) ⟨(ev8 h_x2), h_x5, trivial⟩
theorem ok10 : ∀ k s r, itS step10 k s = some r → P10 s r := itS_ok fun k rec ih s r h => match s, h with
 | .e, h => t10_e_ok k rec ih r h
theorem ev10 {k : Nat} {r : R10} (h : g10 k = some r) : Ev Tryd.prog noHand 10 [] [] (res10 r) (bx10 r) := evr10 (ok10 _ _ _ h)
inductive S11 where
 | e (a0 : Rs) (b1 : Rs)
 | h0 (b1 : Rs) (t12 : Rs) (t13 : Int) (t14 : Int)
abbrev R11 := Bool
noncomputable def t11_e (k : Nat) (rec : S11 → Option R11) (a0 : Rs) (b1 : Rs) : Option R11 :=
 bif (a0.length : Int) != (b1.length : Int) then
  some false
 else
  rec (.h0 b1 a0 (a0.length : Int) 0)
noncomputable def t11_h0 (k : Nat) (rec : S11 → Option R11) (b1 : Rs) (t12 : Rs) (t13 : Int) (t14 : Int) : Option R11 :=
 bif decide (t14 < t13) then
  ixR t12 t14 fun w_x2 =>
  un_isi3 w_x2 fun kind_x4 text_x4 n_x4 scale_x4 at_x4 =>
  ixR b1 t14 fun w_x5 =>
  un_isi3 w_x5 fun kind_x7 text_x7 n_x7 scale_x7 at_x7 =>
  bif !(kind_x4 == kind_x7 && (text_x4.toList == text_x7.toList && (n_x4 == n_x7 && (scale_x4 == scale_x7 && (at_x4 == at_x7 && true))))) then
   some false
  else
   rec (.h0 b1 t12 t13 (IntKind.i64.wrap (t14 + 1)))
 else
  some true
noncomputable def step11 (k : Nat) (rec : S11 → Option R11) : S11 → Option R11
 | .e a0 b1 => t11_e k rec a0 b1
 | .h0 b1 t12 t13 t14 => t11_h0 k rec b1 t12 t13 t14
noncomputable def g11 (k : Nat) (a0 : Rs) (b1 : Rs) : Option R11 := itS step11 k (.e a0 b1)
inductive S3 where
 | e (s0 : ByteArray)
abbrev R3 := Bool
noncomputable def t3_e (k : Nat) (rec : S3 → Option R3) (s0 : ByteArray) : Option R3 :=
 (g8 k s0).bind fun v_x1 =>
 altC v_x1 (fun v_x3 => 
   tup3 v_x3 fun r00_x4 r10_x4 r20_x4 =>
   (g9 k s0).bind fun v_x5 =>
   tup3 v_x5 fun r00_x7 r10_x7 r20_x7 =>
   (g10 k).bind fun v_x8 =>
   bif v_x8 then
    (g11 k r00_x4 (immRs r00_x7)).bind fun v_x10 =>
    bif v_x10 then
     bif r10_x4 == r10_x7 then
      some (r20_x4 == r20_x7)
     else
      some false
    else
     some false
   else
    some false) (fun v_x3 => 
   tup2 v_x3 fun r10_x4 r20_x4 =>
   (g9 k s0).bind fun v_x5 =>
   tup3 v_x5 fun r00_x7 r10_x7 r20_x7 =>
   (g10 k).bind fun v_x8 =>
   bif v_x8 then
    (g11 k [] (immRs r00_x7)).bind fun v_x10 =>
    bif v_x10 then
     bif r10_x4 == r10_x7 then
      some (r20_x4 == r20_x7)
     else
      some false
    else
     some false
   else
    some false)
noncomputable def step3 (k : Nat) (rec : S3 → Option R3) : S3 → Option R3
 | .e s0 => t3_e k rec s0
noncomputable def g3 (k : Nat) (s0 : ByteArray) : Option R3 := itS step3 k (.e s0)
inductive S5 where
 | e (s0 : ByteArray)
 | h0 (s0 : ByteArray) (at4 : Int) (e5 : Int) (t23 : Bool)
 | h1 (s0 : ByteArray) (at4 : Int) (t53 : Bool)
abbrev R5 := Bool
noncomputable def t5_e (k : Nat) (rec : S5 → Option R5) (s0 : ByteArray) : Option R5 :=
 (g8 k s0).bind fun v_x1 =>
 altC v_x1 (fun v_x3 => 
   tup3 v_x3 fun r00_x4 r10_x4 r20_x4 =>
   (g10 k).bind fun v_x5 =>
   bif !v_x5 then
    rec (.h0 s0 r10_x4 r20_x4 true)
   else
    rec (.h0 s0 r10_x4 r20_x4 (r20_x4 != 12))) (fun v_x3 => 
   tup2 v_x3 fun r10_x4 r20_x4 =>
   (g10 k).bind fun v_x5 =>
   bif !v_x5 then
    rec (.h0 s0 r10_x4 r20_x4 true)
   else
    rec (.h0 s0 r10_x4 r20_x4 (r20_x4 != 12)))
noncomputable def t5_h0 (k : Nat) (rec : S5 → Option R5) (s0 : ByteArray) (at4 : Int) (e5 : Int) (t23 : Bool) : Option R5 :=
 bif t23 then
  (g10 k).bind fun v_x1 =>
  bif v_x1 then
   bif e5 == 0 then
    bif at4 == 0 then
     some true
    else
     some false
   else
    bif e5 == 2 then
     bif decide ((s0.size : Int) > 4000) then
      some (at4 == 0)
     else
      some false
    else
     some false
  else
   some false
 else
  bif decide (at4 < 0) then
   rec (.h1 s0 at4 true)
  else
   rec (.h1 s0 at4 (decide (at4 ≥ (s0.size : Int))))
noncomputable def t5_h1 (k : Nat) (rec : S5 → Option R5) (s0 : ByteArray) (at4 : Int) (t53 : Bool) : Option R5 :=
 bif t53 then
  some false
 else
  gd (decide (0 ≤ (0 : Int) ∧ (0 : Int) ≤ at4 ∧ at4 ≤ (s0.size : Int))) <|
  (g8 k (s0.extract (Int.toNat (0 : Int)) (Int.toNat at4))).bind fun v_x2 =>
  altC v_x2 (fun v_x4 => 
    tup3 v_x4 fun r00_x5 r10_x5 r20_x5 =>
    gd (decide (0 ≤ at4 ∧ at4 ≤ (s0.size : Int) ∧ (s0.size : Int) ≤ (s0.size : Int))) <|
    (g8 k (s0.extract (Int.toNat at4) (Int.toNat (s0.size : Int)))).bind fun v_x7 =>
    altC v_x7 (fun v_x9 => 
      tup3 v_x9 fun r00_x10 r10_x10 r20_x10 =>
      bif r20_x5 == 0 then
       bif r20_x10 == 12 then
        some (r10_x10 == 0)
       else
        some false
      else
       some false) (fun v_x9 => 
      tup2 v_x9 fun r10_x10 r20_x10 =>
      bif r20_x5 == 0 then
       bif r20_x10 == 12 then
        some (r10_x10 == 0)
       else
        some false
      else
       some false)) (fun v_x4 => 
    tup2 v_x4 fun r10_x5 r20_x5 =>
    gd (decide (0 ≤ at4 ∧ at4 ≤ (s0.size : Int) ∧ (s0.size : Int) ≤ (s0.size : Int))) <|
    (g8 k (s0.extract (Int.toNat at4) (Int.toNat (s0.size : Int)))).bind fun v_x7 =>
    altC v_x7 (fun v_x9 => 
      tup3 v_x9 fun r00_x10 r10_x10 r20_x10 =>
      bif r20_x5 == 0 then
       bif r20_x10 == 12 then
        some (r10_x10 == 0)
       else
        some false
      else
       some false) (fun v_x9 => 
      tup2 v_x9 fun r10_x10 r20_x10 =>
      bif r20_x5 == 0 then
       bif r20_x10 == 12 then
        some (r10_x10 == 0)
       else
        some false
      else
       some false))
noncomputable def step5 (k : Nat) (rec : S5 → Option R5) : S5 → Option R5
 | .e s0 => t5_e k rec s0
 | .h0 s0 at4 e5 t23 => t5_h0 k rec s0 at4 e5 t23
 | .h1 s0 at4 t53 => t5_h1 k rec s0 at4 t53
noncomputable def g5 (k : Nat) (s0 : ByteArray) : Option R5 := itS step5 k (.e s0)
inductive S14 where
 | e (t0_0 : Int) (t0_1 : ByteArray) (t0_2 : Int) (t0_3 : Int) (t0_4 : Int)
 | h0 (d3 : ByteArray) (loc1_0 : Int) (loc1_1 : ByteArray) (loc1_2 : Int) (loc1_3 : Int) (loc1_4 : Int)
 | h1 (d3 : ByteArray) (t32 : Bool) (loc1_0 : Int) (loc1_1 : ByteArray) (loc1_2 : Int) (loc1_3 : Int) (loc1_4 : Int)
abbrev R14 := ByteArray
def res14 : R14 → ARes
 | r => .ret (.c (sc r))
def bx14 : R14 → List (List Cell)
 | r => []
noncomputable def t14_e (k : Nat) (rec : S14 → Option R14) (t0_0 : Int) (t0_1 : ByteArray) (t0_2 : Int) (t0_3 : Int) (t0_4 : Int) : Option R14 :=
 bif t0_0 == 3 then
  (fmtX t0_2).bind fun v_x2 =>
  some v_x2
 else
  bif t0_0 == 4 then
   (fmtX t0_2).bind fun v_x3 =>
   rec (.h0 v_x3 t0_0 t0_1 t0_2 t0_3 t0_4)
  else
   bif t0_0 == 5 then
    gd (decide ((strB [39]).size + t0_1.size ≤ 1000000000)) <|
    gd (decide (((strB [39]) ++ t0_1).size + (strB [39]).size ≤ 1000000000)) <|
    some (((strB [39]) ++ t0_1) ++ (strB [39]))
   else
    some t0_1
noncomputable def t14_h0 (k : Nat) (rec : S14 → Option R14) (d3 : ByteArray) (loc1_0 : Int) (loc1_1 : ByteArray) (loc1_2 : Int) (loc1_3 : Int) (loc1_4 : Int) : Option R14 :=
 bif decide ((d3.size : Int) ≤ loc1_3) then
  gd (decide ((strB [48]).size + d3.size ≤ 1000000000)) <|
  rec (.h0 ((strB [48]) ++ d3) loc1_0 loc1_1 loc1_2 loc1_3 loc1_4)
 else
  bif decide (loc1_3 < 0) then
   rec (.h1 d3 true loc1_0 loc1_1 loc1_2 loc1_3 loc1_4)
  else
   rec (.h1 d3 (decide ((d3.size : Int) < loc1_3)) loc1_0 loc1_1 loc1_2 loc1_3 loc1_4)
noncomputable def t14_h1 (k : Nat) (rec : S14 → Option R14) (d3 : ByteArray) (t32 : Bool) (loc1_0 : Int) (loc1_1 : ByteArray) (loc1_2 : Int) (loc1_3 : Int) (loc1_4 : Int) : Option R14 :=
 bif t32 then
  some (strB [])
 else
  gd (decide (0 ≤ (0 : Int) ∧ (0 : Int) ≤ (IntKind.i64.wrap ((d3.size : Int) - loc1_3)) ∧ (IntKind.i64.wrap ((d3.size : Int) - loc1_3)) ≤ (d3.size : Int))) <|
  gd (decide ((d3.extract (Int.toNat (0 : Int)) (Int.toNat (IntKind.i64.wrap ((d3.size : Int) - loc1_3)))).size + (strB [46]).size ≤ 1000000000)) <|
  gd (decide (0 ≤ (IntKind.i64.wrap ((d3.size : Int) - loc1_3)) ∧ (IntKind.i64.wrap ((d3.size : Int) - loc1_3)) ≤ (d3.size : Int) ∧ (d3.size : Int) ≤ (d3.size : Int))) <|
  gd (decide (((d3.extract (Int.toNat (0 : Int)) (Int.toNat (IntKind.i64.wrap ((d3.size : Int) - loc1_3)))) ++ (strB [46])).size + (d3.extract (Int.toNat (IntKind.i64.wrap ((d3.size : Int) - loc1_3))) (Int.toNat (d3.size : Int))).size ≤ 1000000000)) <|
  some (((d3.extract (Int.toNat (0 : Int)) (Int.toNat (IntKind.i64.wrap ((d3.size : Int) - loc1_3)))) ++ (strB [46])) ++ (d3.extract (Int.toNat (IntKind.i64.wrap ((d3.size : Int) - loc1_3))) (Int.toNat (d3.size : Int))))
noncomputable def step14 (k : Nat) (rec : S14 → Option R14) : S14 → Option R14
 | .e t0_0 t0_1 t0_2 t0_3 t0_4 => t14_e k rec t0_0 t0_1 t0_2 t0_3 t0_4
 | .h0 d3 loc1_0 loc1_1 loc1_2 loc1_3 loc1_4 => t14_h0 k rec d3 loc1_0 loc1_1 loc1_2 loc1_3 loc1_4
 | .h1 d3 t32 loc1_0 loc1_1 loc1_2 loc1_3 loc1_4 => t14_h1 k rec d3 t32 loc1_0 loc1_1 loc1_2 loc1_3 loc1_4
noncomputable def g14 (k : Nat) (t0_0 : Int) (t0_1 : ByteArray) (t0_2 : Int) (t0_3 : Int) (t0_4 : Int) : Option R14 := itS step14 k (.e t0_0 t0_1 t0_2 t0_3 t0_4)
noncomputable def P14 : S14 → R14 → Prop
 | .e t0_0 t0_1 t0_2 t0_3 t0_4, r => Fin cx14 Tryd.f14 [.code body14] (fr0 Tryd.f14 [.ag [ic t0_0, sc t0_1, ic t0_2, ic t0_3, ic t0_4]] []) (res14 r) (bx14 r)
 | .h0 d3 loc1_0 loc1_1 loc1_2 loc1_3 loc1_4, r => Fin cx14 Tryd.f14 (kAt body14 [1, 0, 1, 0, 1, 1, 1, 0, 1, 0, 0, 4] []) ⟨[.deadv, .c (.ptr ⟨⟨.loc 1, []⟩, 0, 0⟩), .deadv, .c (sc d3)] ++ rep 53 .deadv, [(.loc 1, [ic loc1_0, sc loc1_1, ic loc1_2, ic loc1_3, ic loc1_4])]⟩ (res14 r) (bx14 r)
 | .h1 d3 t32 loc1_0 loc1_1 loc1_2 loc1_3 loc1_4, r => Fin cx14 Tryd.f14 (kAt body14 [1, 0, 1, 0, 1, 1, 1, 0, 1, 1, 0, 1, 2] []) ⟨[.deadv, .c (.ptr ⟨⟨.loc 1, []⟩, 0, 0⟩), .deadv, .c (sc d3)] ++ rep 28 .deadv ++ [.c (bc t32)] ++ rep 24 .deadv, [(.loc 1, [ic loc1_0, sc loc1_1, ic loc1_2, ic loc1_3, ic loc1_4])]⟩ (res14 r) (bx14 r)
theorem evr14 {t0_0 : Int} {t0_1 : ByteArray} {t0_2 : Int} {t0_3 : Int} {t0_4 : Int} {r : R14} (h : P14 (.e t0_0 t0_1 t0_2 t0_3 t0_4) r) : Ev Tryd.prog noHand 14 [.ag [ic t0_0, sc t0_1, ic t0_2, ic t0_3, ic t0_4]] [] (res14 r) (bx14 r) := ev_of_fin (fn := Tryd.f14) (body := body14) (by kernel_rfl) (by kernel_rfl) (by kernel_rfl) rfl h
theorem t14_e_ok (k : Nat) (rec : S14 → Option R14) (ih : ∀ s r, rec s = some r → P14 s r) (t0_0 : Int) (t0_1 : ByteArray) (t0_2 : Int) (t0_3 : Int) (t0_4 : Int) (r : R14) (h : t14_e k rec t0_0 t0_1 t0_2 t0_3 t0_4 = some r) : P14 (.e t0_0 t0_1 t0_2 t0_3 t0_4) r := by
 unfold t14_e at h
 rcases bif_or h with ⟨h_x1, h⟩ | ⟨h_x1, h⟩
 ·
  obtain ⟨v_x2, h_x3, h⟩ := bd_or h
  rw [← Option.some.inj h]
  exact mF 0 hmix [aT 7, aC 10 (.c (sc v_x2))] [_, _] (by kernel_rfl) ⟨h_x1, (fmtX_ev h_x3), trivial⟩
 ·
  rcases bif_or h with ⟨h_x2, h⟩ | ⟨h_x2, h⟩
  ·
   obtain ⟨v_x3, h_x4, h⟩ := bd_or h
   exact mA 0 hmix (ih _ _ h) 17 [aF 7, aT 12, aC 15 (.c (sc v_x3))] [_, _, _] (bm 57 144115188075855861) (by kernel_rfl) ⟨h_x1, h_x2, (fmtX_ev h_x4), trivial⟩
  ·
   rcases bif_or h with ⟨h_x3, h⟩ | ⟨h_x3, h⟩
   ·
    obtain ⟨h_x4, h⟩ := gd_or h
    obtain ⟨h_x5, h⟩ := gd_or h
    rw [← Option.some.inj h]
    exact mF 0 hmix [aF 7, aF 12, aT 50, (some 53, .scat), (some 54, .scat)] [_, _, _, _, _] (by kernel_rfl) ⟨h_x1, h_x2, h_x3, of_decide_eq_true h_x4, of_decide_eq_true h_x5, trivial⟩
   ·
    rw [← Option.some.inj h]
    exact mF 0 hmix [aF 7, aF 12, aF 50] [_, _, _] (by kernel_rfl) ⟨h_x1, h_x2, h_x3, trivial⟩
theorem t14_h0_ok (k : Nat) (rec : S14 → Option R14) (ih : ∀ s r, rec s = some r → P14 s r) (d3 : ByteArray) (loc1_0 : Int) (loc1_1 : ByteArray) (loc1_2 : Int) (loc1_3 : Int) (loc1_4 : Int) (r : R14) (h : t14_h0 k rec d3 loc1_0 loc1_1 loc1_2 loc1_3 loc1_4 = some r) : P14 (.h0 d3 loc1_0 loc1_1 loc1_2 loc1_3 loc1_4) r := by
 unfold t14_h0 at h
 rcases bif_or h with ⟨h_x1, h⟩ | ⟨h_x1, h⟩
 ·
  obtain ⟨h_x2, h⟩ := gd_or h
  exact mA 0 hmix (ih _ _ h) 9 [aT 20, (some 22, .scat)] [_, _] (bm 57 144115188075855861) (by kernel_rfl) ⟨h_x1, of_decide_eq_true h_x2, trivial⟩
 ·
  rcases bif_or h with ⟨h_x2, h⟩ | ⟨h_x2, h⟩
  ·
   exact mA 0 hmix (ih _ _ h) 9 [aF 20, aT 25] [_, _] (bm 57 144115183780888565) (by kernel_rfl) ⟨h_x1, h_x2, trivial⟩
  ·
   exact mA 0 hmix (ih _ _ h) 9 [aF 20, aF 25] [_, _] (bm 57 144115183780888565) (by kernel_rfl) ⟨h_x1, h_x2, trivial⟩
theorem t14_h1_ok (k : Nat) (rec : S14 → Option R14) (ih : ∀ s r, rec s = some r → P14 s r) (d3 : ByteArray) (t32 : Bool) (loc1_0 : Int) (loc1_1 : ByteArray) (loc1_2 : Int) (loc1_3 : Int) (loc1_4 : Int) (r : R14) (h : t14_h1 k rec d3 t32 loc1_0 loc1_1 loc1_2 loc1_3 loc1_4 = some r) : P14 (.h1 d3 t32 loc1_0 loc1_1 loc1_2 loc1_3 loc1_4) r := by
 unfold t14_h1 at h
 replace h := bif_or h; rcases h with ⟨rfl, h⟩ | ⟨rfl, h⟩
 ·
  rw [← Option.some.inj h]
  exact mF 0 hmix [] [] (by kernel_rfl) trivial
 ·
  obtain ⟨h_x1, h⟩ := gd_or h
  obtain ⟨h_x2, h⟩ := gd_or h
  obtain ⟨h_x3, h⟩ := gd_or h
  obtain ⟨h_x4, h⟩ := gd_or h
  rw [← Option.some.inj h]
  exact mF 0 hmix [aS 39, (some 40, .scat), aS 47, (some 48, .scat)] [_, _, _, _] (by kernel_rfl) ⟨of_decide_eq_true h_x1, of_decide_eq_true h_x2, of_decide_eq_true h_x3, of_decide_eq_true h_x4, trivial⟩
theorem ok14 : ∀ k s r, itS step14 k s = some r → P14 s r := itS_ok fun k rec ih s r h => match s, h with
 | .e t0_0 t0_1 t0_2 t0_3 t0_4, h => t14_e_ok k rec ih t0_0 t0_1 t0_2 t0_3 t0_4 r h
 | .h0 d3 loc1_0 loc1_1 loc1_2 loc1_3 loc1_4, h => t14_h0_ok k rec ih d3 loc1_0 loc1_1 loc1_2 loc1_3 loc1_4 r h
 | .h1 d3 t32 loc1_0 loc1_1 loc1_2 loc1_3 loc1_4, h => t14_h1_ok k rec ih d3 t32 loc1_0 loc1_1 loc1_2 loc1_3 loc1_4 r h
theorem ev14 {k : Nat} {t0_0 : Int} {t0_1 : ByteArray} {t0_2 : Int} {t0_3 : Int} {t0_4 : Int} {r : R14} (h : g14 k t0_0 t0_1 t0_2 t0_3 t0_4 = some r) : Ev Tryd.prog noHand 14 [.ag [ic t0_0, sc t0_1, ic t0_2, ic t0_3, ic t0_4]] [] (res14 r) (bx14 r) := evr14 (ok14 _ _ _ h)
inductive S21 where
 | e (n0 : Int) (scale1 : Int)
 | h0 (n0 : Int) (scale1 : Int) (ten5 : Int) (i6 : Int)
 | h1 (n0 : Int) (scale1 : Int) (ten5 : Int) (d7 : ByteArray)
abbrev R21 := ByteArray
def res21 : R21 → ARes
 | r => .ret (.c (sc r))
def bx21 : R21 → List (List Cell)
 | r => []
noncomputable def t21_e (k : Nat) (rec : S21 → Option R21) (n0 : Int) (scale1 : Int) : Option R21 :=
 rec (.h0 n0 scale1 1 0)
noncomputable def t21_h0 (k : Nat) (rec : S21 → Option R21) (n0 : Int) (scale1 : Int) (ten5 : Int) (i6 : Int) : Option R21 :=
 bif decide (i6 < scale1) then
  rec (.h0 n0 scale1 (IntKind.i64.wrap (ten5 * 10)) (IntKind.i64.wrap (i6 + 1)))
 else
  gd (decide (ten5 ≠ 0)) <|
  (g20 k (Int.tmod n0 ten5)).bind fun v_x3 =>
  rec (.h1 n0 scale1 ten5 v_x3)
noncomputable def t21_h1 (k : Nat) (rec : S21 → Option R21) (n0 : Int) (scale1 : Int) (ten5 : Int) (d7 : ByteArray) : Option R21 :=
 bif decide ((d7.size : Int) < scale1) then
  gd (decide ((strB [48]).size + d7.size ≤ 1000000000)) <|
  rec (.h1 n0 scale1 ten5 ((strB [48]) ++ d7))
 else
  gd (decide (ten5 ≠ 0)) <|
  (g20 k (IntKind.i64.wrap (Int.tdiv n0 ten5))).bind fun v_x3 =>
  gd (decide (v_x3.size + (strB [46]).size ≤ 1000000000)) <|
  gd (decide ((v_x3 ++ (strB [46])).size + d7.size ≤ 1000000000)) <|
  some ((v_x3 ++ (strB [46])) ++ d7)
noncomputable def step21 (k : Nat) (rec : S21 → Option R21) : S21 → Option R21
 | .e n0 scale1 => t21_e k rec n0 scale1
 | .h0 n0 scale1 ten5 i6 => t21_h0 k rec n0 scale1 ten5 i6
 | .h1 n0 scale1 ten5 d7 => t21_h1 k rec n0 scale1 ten5 d7
noncomputable def g21 (k : Nat) (n0 : Int) (scale1 : Int) : Option R21 := itS step21 k (.e n0 scale1)
noncomputable def P21 : S21 → R21 → Prop
 | .e n0 scale1, r => Fin cx21 Tryd.f21 [.code body21] (fr0 Tryd.f21 [.c (ic n0), .c (ic scale1)] []) (res21 r) (bx21 r)
 | .h0 n0 scale1 ten5 i6, r => Fin cx21 Tryd.f21 (kAt body21 [1, 1, 0, 1, 0, 4] []) ⟨[.c (ic n0), .c (ic scale1)] ++ rep 3 .deadv ++ [.c (ic ten5), .c (ic i6)] ++ rep 25 .deadv, []⟩ (res21 r) (bx21 r)
 | .h1 n0 scale1 ten5 d7, r => Fin cx21 Tryd.f21 (kAt body21 [1, 1, 1, 1, 0, 0, 4] []) ⟨[.c (ic n0), .c (ic scale1)] ++ rep 3 .deadv ++ [.c (ic ten5), .deadv, .c (sc d7)] ++ rep 24 .deadv, []⟩ (res21 r) (bx21 r)
theorem evr21 {n0 : Int} {scale1 : Int} {r : R21} (h : P21 (.e n0 scale1) r) : Ev Tryd.prog noHand 21 [.c (ic n0), .c (ic scale1)] [] (res21 r) (bx21 r) := ev_of_fin (fn := Tryd.f21) (body := body21) (by kernel_rfl) (by kernel_rfl) (by kernel_rfl) rfl h
theorem t21_e_ok (k : Nat) (rec : S21 → Option R21) (ih : ∀ s r, rec s = some r → P21 s r) (n0 : Int) (scale1 : Int) (r : R21) (h : t21_e k rec n0 scale1 = some r) : P21 (.e n0 scale1) r := by
 unfold t21_e at h
 exact mA 0 hmix (ih _ _ h) 9 [] [] (bm 32 4294967196) (by kernel_rfl) trivial
theorem t21_h0_ok (k : Nat) (rec : S21 → Option R21) (ih : ∀ s r, rec s = some r → P21 s r) (n0 : Int) (scale1 : Int) (ten5 : Int) (i6 : Int) (r : R21) (h : t21_h0 k rec n0 scale1 ten5 i6 = some r) : P21 (.h0 n0 scale1 ten5 i6) r := by
 unfold t21_h0 at h
 rcases bif_or h with ⟨h_x1, h⟩ | ⟨h_x1, h⟩
 ·
  exact mA 0 hmix (ih _ _ h) 11 [aT 10] [_] (bm 32 4294967196) (by kernel_rfl) ⟨h_x1, trivial⟩
 ·
  obtain ⟨h_x2, h⟩ := gd_or h
  obtain ⟨v_x3, h_x4, h⟩ := bd_or h
  exact mA 0 hmix (ih _ _ h) 11 [aF 10, (some 17, .qr), aC 18 (.c (sc v_x3))] [_, _, _] (bm 32 4294967132) (by kernel_rfl) ⟨h_x1, of_decide_eq_true h_x2, (ev20 h_x4), trivial⟩
theorem t21_h1_ok (k : Nat) (rec : S21 → Option R21) (ih : ∀ s r, rec s = some r → P21 s r) (n0 : Int) (scale1 : Int) (ten5 : Int) (d7 : ByteArray) (r : R21) (h : t21_h1 k rec n0 scale1 ten5 d7 = some r) : P21 (.h1 n0 scale1 ten5 d7) r := by
 unfold t21_h1 at h
 rcases bif_or h with ⟨h_x1, h⟩ | ⟨h_x1, h⟩
 ·
  obtain ⟨h_x2, h⟩ := gd_or h
  exact mA 0 hmix (ih _ _ h) 9 [aT 22, (some 24, .scat)] [_, _] (bm 32 4294967132) (by kernel_rfl) ⟨h_x1, of_decide_eq_true h_x2, trivial⟩
 ·
  obtain ⟨h_x2, h⟩ := gd_or h
  obtain ⟨v_x3, h_x4, h⟩ := bd_or h
  obtain ⟨h_x5, h⟩ := gd_or h
  obtain ⟨h_x6, h⟩ := gd_or h
  rw [← Option.some.inj h]
  exact mF 0 hmix [aF 22, (some 27, .qr), aC 28 (.c (sc v_x3)), (some 29, .scat), (some 31, .scat)] [_, _, _, _, _] (by kernel_rfl) ⟨h_x1, of_decide_eq_true h_x2, (ev20 h_x4), of_decide_eq_true h_x5, of_decide_eq_true h_x6, trivial⟩
theorem ok21 : ∀ k s r, itS step21 k s = some r → P21 s r := itS_ok fun k rec ih s r h => match s, h with
 | .e n0 scale1, h => t21_e_ok k rec ih n0 scale1 r h
 | .h0 n0 scale1 ten5 i6, h => t21_h0_ok k rec ih n0 scale1 ten5 i6 r h
 | .h1 n0 scale1 ten5 d7, h => t21_h1_ok k rec ih n0 scale1 ten5 d7 r h
theorem ev21 {k : Nat} {n0 : Int} {scale1 : Int} {r : R21} (h : g21 k n0 scale1 = some r) : Ev Tryd.prog noHand 21 [.c (ic n0), .c (ic scale1)] [] (res21 r) (bx21 r) := evr21 (ok21 _ _ _ h)
inductive S15 where
 | e (t0_0 : Int) (t0_1 : ByteArray) (t0_2 : Int) (t0_3 : Int) (t0_4 : Int)
abbrev R15 := ByteArray
def res15 : R15 → ARes
 | r => .ret (.c (sc r))
def bx15 : R15 → List (List Cell)
 | r => []
noncomputable def t15_e (k : Nat) (rec : S15 → Option R15) (t0_0 : Int) (t0_1 : ByteArray) (t0_2 : Int) (t0_3 : Int) (t0_4 : Int) : Option R15 :=
 bif t0_0 == 3 then
  (g20 k t0_2).bind fun v_x2 =>
  some v_x2
 else
  bif t0_0 == 4 then
   (g21 k t0_2 t0_3).bind fun v_x3 =>
   some v_x3
  else
   bif t0_0 == 5 then
    gd (decide ((strB [39]).size + t0_1.size ≤ 1000000000)) <|
    gd (decide (((strB [39]) ++ t0_1).size + (strB [39]).size ≤ 1000000000)) <|
    some (((strB [39]) ++ t0_1) ++ (strB [39]))
   else
    some t0_1
noncomputable def step15 (k : Nat) (rec : S15 → Option R15) : S15 → Option R15
 | .e t0_0 t0_1 t0_2 t0_3 t0_4 => t15_e k rec t0_0 t0_1 t0_2 t0_3 t0_4
noncomputable def g15 (k : Nat) (t0_0 : Int) (t0_1 : ByteArray) (t0_2 : Int) (t0_3 : Int) (t0_4 : Int) : Option R15 := itS step15 k (.e t0_0 t0_1 t0_2 t0_3 t0_4)
noncomputable def P15 : S15 → R15 → Prop
 | .e t0_0 t0_1 t0_2 t0_3 t0_4, r => Fin cx15 Tryd.f15 [.code body15] (fr0 Tryd.f15 [.ag [ic t0_0, sc t0_1, ic t0_2, ic t0_3, ic t0_4]] []) (res15 r) (bx15 r)
theorem evr15 {t0_0 : Int} {t0_1 : ByteArray} {t0_2 : Int} {t0_3 : Int} {t0_4 : Int} {r : R15} (h : P15 (.e t0_0 t0_1 t0_2 t0_3 t0_4) r) : Ev Tryd.prog noHand 15 [.ag [ic t0_0, sc t0_1, ic t0_2, ic t0_3, ic t0_4]] [] (res15 r) (bx15 r) := ev_of_fin (fn := Tryd.f15) (body := body15) (by kernel_rfl) (by kernel_rfl) (by kernel_rfl) rfl h
theorem t15_e_ok (k : Nat) (rec : S15 → Option R15) (ih : ∀ s r, rec s = some r → P15 s r) (t0_0 : Int) (t0_1 : ByteArray) (t0_2 : Int) (t0_3 : Int) (t0_4 : Int) (r : R15) (h : t15_e k rec t0_0 t0_1 t0_2 t0_3 t0_4 = some r) : P15 (.e t0_0 t0_1 t0_2 t0_3 t0_4) r := by
 unfold t15_e at h
 rcases bif_or h with ⟨h_x1, h⟩ | ⟨h_x1, h⟩
 ·
  obtain ⟨v_x2, h_x3, h⟩ := bd_or h
  rw [← Option.some.inj h]
  exact mF 0 hmix [aT 6, aC 9 (.c (sc v_x2))] [_, _] (by kernel_rfl) ⟨h_x1, (ev20 h_x3), trivial⟩
 ·
  rcases bif_or h with ⟨h_x2, h⟩ | ⟨h_x2, h⟩
  ·
   obtain ⟨v_x3, h_x4, h⟩ := bd_or h
   rw [← Option.some.inj h]
   exact mF 0 hmix [aF 6, aT 11, aC 16 (.c (sc v_x3))] [_, _, _] (by kernel_rfl) ⟨h_x1, h_x2, (ev21 h_x4), trivial⟩
  ·
   rcases bif_or h with ⟨h_x3, h⟩ | ⟨h_x3, h⟩
   ·
    obtain ⟨h_x4, h⟩ := gd_or h
    obtain ⟨h_x5, h⟩ := gd_or h
    rw [← Option.some.inj h]
    exact mF 0 hmix [aF 6, aF 11, aT 18, (some 21, .scat), (some 22, .scat)] [_, _, _, _, _] (by kernel_rfl) ⟨h_x1, h_x2, h_x3, of_decide_eq_true h_x4, of_decide_eq_true h_x5, trivial⟩
   ·
    rw [← Option.some.inj h]
    exact mF 0 hmix [aF 6, aF 11, aF 18] [_, _, _] (by kernel_rfl) ⟨h_x1, h_x2, h_x3, trivial⟩
theorem ok15 : ∀ k s r, itS step15 k s = some r → P15 s r := itS_ok fun k rec ih s r h => match s, h with
 | .e t0_0 t0_1 t0_2 t0_3 t0_4, h => t15_e_ok k rec ih t0_0 t0_1 t0_2 t0_3 t0_4 r h
theorem ev15 {k : Nat} {t0_0 : Int} {t0_1 : ByteArray} {t0_2 : Int} {t0_3 : Int} {t0_4 : Int} {r : R15} (h : g15 k t0_0 t0_1 t0_2 t0_3 t0_4 = some r) : Ev Tryd.prog noHand 15 [.ag [ic t0_0, sc t0_1, ic t0_2, ic t0_3, ic t0_4]] [] (res15 r) (bx15 r) := evr15 (ok15 _ _ _ h)
inductive S6 where
 | e (s0 : ByteArray)
 | h0 (s0 : ByteArray) (a3 : Rs) (b6 : Rs) (t25 : Bool)
 | h1 (s0 : ByteArray) (b6 : Rs) (t37 : Rs) (t38 : Int) (t39 : Int)
 | h2 (s0 : ByteArray) (b6 : Rs) (t37 : Rs) (t38 : Int) (t39 : Int) (t80 : Bool)
abbrev R6 := Bool
def res6 : R6 → ARes
 | r => .ret (.c (bc r))
def bx6 : R6 → List (List Cell)
 | r => []
noncomputable def t6_e (k : Nat) (rec : S6 → Option R6) (s0 : ByteArray) : Option R6 :=
 (g8 k s0).bind fun v_x1 =>
 altC v_x1 (fun v_x3 => 
   tup3 v_x3 fun r00_x4 r10_x4 r20_x4 =>
   (g9 k s0).bind fun v_x5 =>
   tup3 v_x5 fun r00_x7 r10_x7 r20_x7 =>
   rec (.h0 s0 r00_x4 r00_x7 (r20_x4 != 0))) (fun v_x3 => 
   tup2 v_x3 fun r10_x4 r20_x4 =>
   (g9 k s0).bind fun v_x5 =>
   tup3 v_x5 fun r00_x7 r10_x7 r20_x7 =>
   rec (.h0 s0 [] r00_x7 (r20_x4 != 0)))
noncomputable def t6_h0 (k : Nat) (rec : S6 → Option R6) (s0 : ByteArray) (a3 : Rs) (b6 : Rs) (t25 : Bool) : Option R6 :=
 bif t25 then
  (g10 k).bind fun v_x1 =>
  bif v_x1 then
   some ((a3.length : Int) == 0)
  else
   some false
 else
  bif (a3.length : Int) != (b6.length : Int) then
   some false
  else
   rec (.h1 s0 b6 a3 (a3.length : Int) 0)
noncomputable def t6_h1 (k : Nat) (rec : S6 → Option R6) (s0 : ByteArray) (b6 : Rs) (t37 : Rs) (t38 : Int) (t39 : Int) : Option R6 :=
 bif decide (t39 < t38) then
  ixR t37 t39 fun w_x2 =>
  un_isi3 w_x2 fun kind_x4 text_x4 n_x4 scale_x4 at_x4 =>
  (g14 k kind_x4 text_x4 n_x4 scale_x4 at_x4).bind fun v_x5 =>
  ixR b6 t39 fun w_x7 =>
  un_isi3 w_x7 fun kind_x9 text_x9 n_x9 scale_x9 at_x9 =>
  (g15 k kind_x9 text_x9 n_x9 scale_x9 at_x9).bind fun v_x10 =>
  bif !(v_x5.toList == v_x10.toList) then
   rec (.h2 s0 b6 t37 t38 t39 true)
  else
   bif decide (at_x4 < 0) then
    rec (.h2 s0 b6 t37 t38 t39 true)
   else
    bif decide (at_x4 > (IntKind.i64.wrap ((s0.size : Int) - (v_x5.size : Int)))) then
     rec (.h2 s0 b6 t37 t38 t39 true)
    else
     gd (decide (0 ≤ at_x4 ∧ at_x4 ≤ (IntKind.i64.wrap (at_x4 + (v_x5.size : Int))) ∧ (IntKind.i64.wrap (at_x4 + (v_x5.size : Int))) ≤ (s0.size : Int))) <|
     rec (.h2 s0 b6 t37 t38 t39 (!((s0.extract (Int.toNat at_x4) (Int.toNat (IntKind.i64.wrap (at_x4 + (v_x5.size : Int))))).toList == v_x5.toList)))
 else
  (g10 k).bind fun v_x2 =>
  some v_x2
noncomputable def t6_h2 (k : Nat) (rec : S6 → Option R6) (s0 : ByteArray) (b6 : Rs) (t37 : Rs) (t38 : Int) (t39 : Int) (t80 : Bool) : Option R6 :=
 bif t80 then
  some false
 else
  rec (.h1 s0 b6 t37 t38 (IntKind.i64.wrap (t39 + 1)))
noncomputable def step6 (k : Nat) (rec : S6 → Option R6) : S6 → Option R6
 | .e s0 => t6_e k rec s0
 | .h0 s0 a3 b6 t25 => t6_h0 k rec s0 a3 b6 t25
 | .h1 s0 b6 t37 t38 t39 => t6_h1 k rec s0 b6 t37 t38 t39
 | .h2 s0 b6 t37 t38 t39 t80 => t6_h2 k rec s0 b6 t37 t38 t39 t80
noncomputable def g6 (k : Nat) (s0 : ByteArray) : Option R6 := itS step6 k (.e s0)
noncomputable def P6 : S6 → R6 → Prop
 | .e s0, r => Fin cx6 Tryd.f6 [.code body6] (fr0 Tryd.f6 [.c (sc s0)] []) (res6 r) (bx6 r)
 | .h0 s0 a3 b6 t25, r => Fin cx6 Tryd.f6 (kAt body6 [1, 1, 1, 0, 1, 2] []) ⟨[.c (sc s0), .deadv, .deadv, .c (.imm a3), .deadv, .deadv, .c (.own 5 b6)] ++ rep 18 .deadv ++ [.c (bc t25)] ++ rep 57 .deadv, []⟩ (res6 r) (bx6 r)
 | .h1 s0 b6 t37 t38 t39, r => Fin cx6 Tryd.f6 (kAt body6 [1, 1, 1, 1, 1, 0, 1, 0, 4] []) ⟨[.c (sc s0)] ++ rep 5 .deadv ++ [.c (.own 5 b6)] ++ rep 30 .deadv ++ [.c (.imm t37), .c (ic t38), .c (ic t39)] ++ rep 43 .deadv, []⟩ (res6 r) (bx6 r)
 | .h2 s0 b6 t37 t38 t39 t80, r => Fin cx6 Tryd.f6 (kAt body6 [1, 1, 1, 1, 1, 0, 1, 0, 0, 1, 1, 0, 0, 1, 1, 1, 2] []) ⟨[.c (sc s0)] ++ rep 5 .deadv ++ [.c (.own 5 b6)] ++ rep 30 .deadv ++ [.c (.imm t37), .c (ic t38), .c (ic t39)] ++ rep 40 .deadv ++ [.c (bc t80), .deadv, .deadv], []⟩ (res6 r) (bx6 r)
theorem evr6 {s0 : ByteArray} {r : R6} (h : P6 (.e s0) r) : Ev Tryd.prog noHand 6 [.c (sc s0)] [] (res6 r) (bx6 r) := ev_of_fin (fn := Tryd.f6) (body := body6) (by kernel_rfl) (by kernel_rfl) (by kernel_rfl) rfl h
theorem t6_e_ok (k : Nat) (rec : S6 → Option R6) (ih : ∀ s r, rec s = some r → P6 s r) (s0 : ByteArray) (r : R6) (h : t6_e k rec s0 = some r) : P6 (.e s0) r := by
 unfold t6_e at h
 obtain ⟨v_x1, h_x2, h⟩ := bd_or h
 replace h := altC_or h; rcases h with ⟨v_x3, rfl, h⟩ | ⟨v_x3, rfl, h⟩
 ·
  replace h := tup3_or h; obtain ⟨r00_x4, r10_x4, r20_x4, rfl, h⟩ := h
  obtain ⟨v_x5, h_x6, h⟩ := bd_or h
  replace h := tup3_or h; obtain ⟨r00_x7, r10_x7, r20_x7, rfl, h⟩ := h
  exact mA 0 hmix (ih _ _ h) 9 [aC 14 ⟨.tup [false, false, false], [[.imm r00_x4], [ic r10_x4], [ic r20_x4]]⟩, aC 20 ⟨.tup [false, false, false], [[.own 5 r00_x7], [ic r10_x7], [ic r20_x7]]⟩] [_, _] (bm 83 9671406556917033364094902) (by kernel_rfl) ⟨(ev8 h_x2), (ev9 h_x6), trivial⟩
 ·
  replace h := tup2_or h; obtain ⟨r10_x4, r20_x4, rfl, h⟩ := h
  obtain ⟨v_x5, h_x6, h⟩ := bd_or h
  replace h := tup3_or h; obtain ⟨r00_x7, r10_x7, r20_x7, rfl, h⟩ := h
  exact mgo_at (nb := 0) hmix (ih _ _ h) (n := 9) (ad := [aC 14 ⟨.tup [false, false, false], [[.nil], [ic r10_x4], [ic r20_x4]]⟩, aC 20 ⟨.tup [false, false, false], [[.own 5 r00_x7], [ic r10_x7], [ic r20_x7]]⟩]) (ps := [_, _]) (m := bm 83 9671406556917033364094902) (ls := []) (cs := [(⟨⟨.slot 3, []⟩, 0, 0⟩, none)]) (by kernel_rfl) ⟨(ev8 h_x2), (ev9 h_x6), trivial⟩
theorem t6_h0_ok (k : Nat) (rec : S6 → Option R6) (ih : ∀ s r, rec s = some r → P6 s r) (s0 : ByteArray) (a3 : Rs) (b6 : Rs) (t25 : Bool) (r : R6) (h : t6_h0 k rec s0 a3 b6 t25 = some r) : P6 (.h0 s0 a3 b6 t25) r := by
 unfold t6_h0 at h
 replace h := bif_or h; rcases h with ⟨rfl, h⟩ | ⟨rfl, h⟩
 ·
  obtain ⟨v_x1, h_x2, h⟩ := bd_or h
  replace h := bif_or h; rcases h with ⟨rfl, h⟩ | ⟨rfl, h⟩
  ·
   rw [← Option.some.inj h]
   exact mF 0 hmix [aC 26 (.c (bc true))] [_] (by kernel_rfl) ⟨(ev10 h_x2), trivial⟩
  ·
   rw [← Option.some.inj h]
   exact mF 0 hmix [aC 26 (.c (bc false))] [_] (by kernel_rfl) ⟨(ev10 h_x2), trivial⟩
 ·
  rcases bif_or h with ⟨h_x1, h⟩ | ⟨h_x1, h⟩
  ·
   rw [← Option.some.inj h]
   exact mF 0 hmix [aT 36] [_] (by kernel_rfl) ⟨h_x1, trivial⟩
  ·
   exact mA 0 hmix (ih _ _ h) 12 [aF 36] [_] (bm 83 9671406556916071324975038) (by kernel_rfl) ⟨h_x1, trivial⟩
theorem t6_h1_ok (k : Nat) (rec : S6 → Option R6) (ih : ∀ s r, rec s = some r → P6 s r) (s0 : ByteArray) (b6 : Rs) (t37 : Rs) (t38 : Int) (t39 : Int) (r : R6) (h : t6_h1 k rec s0 b6 t37 t38 t39 = some r) : P6 (.h1 s0 b6 t37 t38 t39) r := by
 unfold t6_h1 at h
 rcases bif_or h with ⟨h_x1, h⟩ | ⟨h_x1, h⟩
 ·
  obtain ⟨w_x2, h_x3, h⟩ := ixR_or h
  replace h := un_isi3_or h; obtain ⟨kind_x4, text_x4, n_x4, scale_x4, at_x4, rfl, h⟩ := h
  obtain ⟨v_x5, h_x6, h⟩ := bd_or h
  obtain ⟨w_x7, h_x8, h⟩ := ixR_or h
  replace h := un_isi3_or h; obtain ⟨kind_x9, text_x9, n_x9, scale_x9, at_x9, rfl, h⟩ := h
  obtain ⟨v_x10, h_x11, h⟩ := bd_or h
  rcases bif_or h with ⟨h_x12, h⟩ | ⟨h_x12, h⟩
  ·
   exact mgo_at (nb := 0) hmix (ih _ _ h) (n := 14) (ad := [aT 40, (some 42, .row [ic kind_x4, sc text_x4, ic n_x4, ic scale_x4, ic at_x4]), aC 45 (.c (sc v_x5)), (some 49, .bnd), (some 50, .ld [ic kind_x9, sc text_x9, ic n_x9, ic scale_x9, ic at_x9]), aC 51 (.c (sc v_x10)), aT 52]) (ps := [_, _, _, _, _, _, _]) (m := bm 83 8462480737301442150268862) (ls := [10]) (cs := []) (by kernel_rfl) ⟨h_x1, ix_row h_x3 rfl, (ev14 h_x6), ix_bnd h_x8, h_x8.2, (ev15 h_x11), h_x12, trivial⟩
  ·
   rcases bif_or h with ⟨h_x13, h⟩ | ⟨h_x13, h⟩
   ·
    exact mgo_at (nb := 0) hmix (ih _ _ h) (n := 14) (ad := [aT 40, (some 42, .row [ic kind_x4, sc text_x4, ic n_x4, ic scale_x4, ic at_x4]), aC 45 (.c (sc v_x5)), (some 49, .bnd), (some 50, .ld [ic kind_x9, sc text_x9, ic n_x9, ic scale_x9, ic at_x9]), aC 51 (.c (sc v_x10)), aF 52, aT 56]) (ps := [_, _, _, _, _, _, _, _]) (m := bm 83 8462480737301442150268862) (ls := [10]) (cs := []) (by kernel_rfl) ⟨h_x1, ix_row h_x3 rfl, (ev14 h_x6), ix_bnd h_x8, h_x8.2, (ev15 h_x11), h_x12, h_x13, trivial⟩
   ·
    rcases bif_or h with ⟨h_x14, h⟩ | ⟨h_x14, h⟩
    ·
     exact mgo_at (nb := 0) hmix (ih _ _ h) (n := 14) (ad := [aT 40, (some 42, .row [ic kind_x4, sc text_x4, ic n_x4, ic scale_x4, ic at_x4]), aC 45 (.c (sc v_x5)), (some 49, .bnd), (some 50, .ld [ic kind_x9, sc text_x9, ic n_x9, ic scale_x9, ic at_x9]), aC 51 (.c (sc v_x10)), aF 52, aF 56, aT 66]) (ps := [_, _, _, _, _, _, _, _, _]) (m := bm 83 8462480737301442150268862) (ls := [10]) (cs := []) (by kernel_rfl) ⟨h_x1, ix_row h_x3 rfl, (ev14 h_x6), ix_bnd h_x8, h_x8.2, (ev15 h_x11), h_x12, h_x13, h_x14, trivial⟩
    ·
     obtain ⟨h_x15, h⟩ := gd_or h
     exact mgo_at (nb := 0) hmix (ih _ _ h) (n := 14) (ad := [aT 40, (some 42, .row [ic kind_x4, sc text_x4, ic n_x4, ic scale_x4, ic at_x4]), aC 45 (.c (sc v_x5)), (some 49, .bnd), (some 50, .ld [ic kind_x9, sc text_x9, ic n_x9, ic scale_x9, ic at_x9]), aC 51 (.c (sc v_x10)), aF 52, aF 56, aF 66, aS 77]) (ps := [_, _, _, _, _, _, _, _, _, _]) (m := bm 83 8462480737301442150268862) (ls := [10]) (cs := []) (by kernel_rfl) ⟨h_x1, ix_row h_x3 rfl, (ev14 h_x6), ix_bnd h_x8, h_x8.2, (ev15 h_x11), h_x12, h_x13, h_x14, of_decide_eq_true h_x15, trivial⟩
 ·
  obtain ⟨v_x2, h_x3, h⟩ := bd_or h
  rw [← Option.some.inj h]
  exact mF 0 hmix [aF 40, aC 82 (.c (bc v_x2))] [_, _] (by kernel_rfl) ⟨h_x1, (ev10 h_x3), trivial⟩
theorem t6_h2_ok (k : Nat) (rec : S6 → Option R6) (ih : ∀ s r, rec s = some r → P6 s r) (s0 : ByteArray) (b6 : Rs) (t37 : Rs) (t38 : Int) (t39 : Int) (t80 : Bool) (r : R6) (h : t6_h2 k rec s0 b6 t37 t38 t39 t80 = some r) : P6 (.h2 s0 b6 t37 t38 t39 t80) r := by
 unfold t6_h2 at h
 replace h := bif_or h; rcases h with ⟨rfl, h⟩ | ⟨rfl, h⟩
 ·
  rw [← Option.some.inj h]
  exact mF 0 hmix [] [] (by kernel_rfl) trivial
 ·
  exact mA 0 hmix (ih _ _ h) 4 [] [] (bm 83 9671406556916071324975038) (by kernel_rfl) trivial
theorem ok6 : ∀ k s r, itS step6 k s = some r → P6 s r := itS_ok fun k rec ih s r h => match s, h with
 | .e s0, h => t6_e_ok k rec ih s0 r h
 | .h0 s0 a3 b6 t25, h => t6_h0_ok k rec ih s0 a3 b6 t25 r h
 | .h1 s0 b6 t37 t38 t39, h => t6_h1_ok k rec ih s0 b6 t37 t38 t39 r h
 | .h2 s0 b6 t37 t38 t39 t80, h => t6_h2_ok k rec ih s0 b6 t37 t38 t39 t80 r h
theorem ev6 {k : Nat} {s0 : ByteArray} {r : R6} (h : g6 k s0 = some r) : Ev Tryd.prog noHand 6 [.c (sc s0)] [] (res6 r) (bx6 r) := evr6 (ok6 _ _ _ h)
inductive S7 where
 | e (s0 : ByteArray) (blank1 : Int)
 | h0 (blank1 : Int) (l5 : Rs) (t26 : Bool)
 | h1 (blank1 : Int) (l5 : Rs) (t8 : ByteArray) (t28 : Rs) (t29 : Int) (t30 : Int)
 | h2 (l5 : Rs) (m11 : Rs) (f13 : Int) (t55 : Bool)
 | h3 (l5 : Rs) (m11 : Rs) (t66 : Bool)
 | h4 (l5 : Rs) (m11 : Rs) (t68 : Int) (t69 : Int)
 | h5 (l5 : Rs) (m11 : Rs) (t68 : Int) (t69 : Int) (t121 : Bool)
end Ab
end Go.Proofs.YtniibdfnijeaeaaDoor
