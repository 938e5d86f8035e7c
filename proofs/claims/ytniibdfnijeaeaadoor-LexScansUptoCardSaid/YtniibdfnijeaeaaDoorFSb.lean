/-
  Functions' ways, printed by a program: what each computes, and that this is what the interpreter computes.
-/
import Derived.Test.YtniibdfnijeaeaaDoorFS
import Derived.KernelRfl
set_option linter.unusedVariables false
set_option linter.unusedSimpArgs false
set_option linter.unusedSectionVars false
namespace Go.Proofs.YtniibdfnijeaeaaDoor
namespace Ab
variable [Laid2]
-- auspice/auspiceref04.Number
inductive S41 where
  | e (s0 : ByteArray)
  | h0 (s0 : ByteArray) (d4 : ByteArray) (t16 : Bool)
  | h1 (s0 : ByteArray) (d4 : ByteArray)
  | h2 (s0 : ByteArray) (d4 : ByteArray) (n5 : Int) (i6 : Int)
  | h3 (s0 : ByteArray) (d4 : ByteArray) (n5 : Int) (i6 : Int) (t33 : Bool)
  | h4 (s0 : ByteArray) (d4 : ByteArray) (m7 : Int)
abbrev R41 := Int × Bool
def res41 : R41 → ARes
  | (r_00, r_10) => .ret ⟨.tup [false, false], [[ic r_00], [bc r_10]]⟩
def bx41 : R41 → List (List Cell)
  | (r_00, r_10) => []
noncomputable def t41_e (k : Nat) (rec : S41 → Option R41) (s0 : ByteArray) : Option R41 :=
  bif decide ((s0.size : Int) > 0) then
    sxI s0 0 fun c_x2 =>
    rec (.h0 s0 s0 (c_x2 == 45))
  else
    rec (.h0 s0 s0 false)
noncomputable def t41_h0 (k : Nat) (rec : S41 → Option R41) (s0 : ByteArray) (d4 : ByteArray) (t16 : Bool) : Option R41 :=
  bif t16 then
    gd (decide (0 ≤ (1 : Int) ∧ (1 : Int) ≤ (d4.size : Int) ∧ (d4.size : Int) ≤ (d4.size : Int))) <|
    rec (.h1 s0 (d4.extract (Int.toNat (1 : Int)) (Int.toNat (d4.size : Int))))
  else
    rec (.h1 s0 d4)
noncomputable def t41_h1 (k : Nat) (rec : S41 → Option R41) (s0 : ByteArray) (d4 : ByteArray) : Option R41 :=
  rec (.h2 s0 d4 0 0)
noncomputable def t41_h2 (k : Nat) (rec : S41 → Option R41) (s0 : ByteArray) (d4 : ByteArray) (n5 : Int) (i6 : Int) : Option R41 :=
  bif decide (i6 < (d4.size : Int)) then
    sxI d4 i6 fun c_x2 =>
    (g32 k c_x2).bind fun v_x4 =>
    bif !v_x4 then
      rec (.h3 s0 d4 n5 i6 true)
    else
      rec (.h3 s0 d4 n5 i6 (decide (i6 > 18)))
  else
    bif decide ((d4.size : Int) < (s0.size : Int)) then
      rec (.h4 s0 d4 (IntKind.i64.wrap ((0 : Int) - (IntKind.i64.wrap n5))))
    else
      rec (.h4 s0 d4 (IntKind.i64.wrap n5))
noncomputable def t41_h3 (k : Nat) (rec : S41 → Option R41) (s0 : ByteArray) (d4 : ByteArray) (n5 : Int) (i6 : Int) (t33 : Bool) : Option R41 :=
  bif t33 then
    some (0, false)
  else
    sxI d4 i6 fun c_x1 =>
    rec (.h2 s0 d4 (IntKind.u64.wrap ((IntKind.u64.wrap ((10 : Int) * n5)) + (IntKind.u64.wrap (IntKind.u8.wrap (c_x1 - 48))))) (IntKind.i64.wrap (i6 + 1)))
noncomputable def t41_h4 (k : Nat) (rec : S41 → Option R41) (s0 : ByteArray) (d4 : ByteArray) (m7 : Int) : Option R41 :=
  bif decide ((d4.size : Int) > 0) then
    (g20 k m7).bind fun v_x2 =>
    some (m7, v_x2.toList == s0.toList)
  else
    some (m7, false)
noncomputable def step41 (k : Nat) (rec : S41 → Option R41) : S41 → Option R41
  | .e s0 => t41_e k rec s0
  | .h0 s0 d4 t16 => t41_h0 k rec s0 d4 t16
  | .h1 s0 d4 => t41_h1 k rec s0 d4
  | .h2 s0 d4 n5 i6 => t41_h2 k rec s0 d4 n5 i6
  | .h3 s0 d4 n5 i6 t33 => t41_h3 k rec s0 d4 n5 i6 t33
  | .h4 s0 d4 m7 => t41_h4 k rec s0 d4 m7
noncomputable def g41 (k : Nat) (s0 : ByteArray) : Option R41 := itS step41 k (.e s0)
noncomputable def P41 : S41 → R41 → Prop
  | .e s0, r => Fin cx41 Tryd.f41 [.code body41] (fr0 Tryd.f41 [.c (sc s0)] []) (res41 r) (bx41 r)
  | .h0 s0 d4 t16, r => Fin cx41 Tryd.f41 (kAt body41 [1, 1, 0, 1, 2] []) ⟨[.c (sc s0)] ++ rep 3 .deadv ++ [.c (sc d4)] ++ rep 11 .deadv ++ [.c (bc t16)] ++ rep 44 .deadv, []⟩ (res41 r) (bx41 r)
  | .h1 s0 d4, r => Fin cx41 Tryd.f41 (kAt body41 [1, 1, 1, 2] []) ⟨[.c (sc s0)] ++ rep 3 .deadv ++ [.c (sc d4)] ++ rep 56 .deadv, []⟩ (res41 r) (bx41 r)
  | .h2 s0 d4 n5 i6, r => Fin cx41 Tryd.f41 (kAt body41 [1, 1, 1, 1, 0, 1, 0, 4] []) ⟨[.c (sc s0)] ++ rep 3 .deadv ++ [.c (sc d4), .c (.val (.int .u64 n5)), .c (ic i6)] ++ rep 54 .deadv, []⟩ (res41 r) (bx41 r)
  | .h3 s0 d4 n5 i6 t33, r => Fin cx41 Tryd.f41 (kAt body41 [1, 1, 1, 1, 0, 1, 0, 0, 1, 0, 0, 0, 1, 2] []) ⟨[.c (sc s0)] ++ rep 3 .deadv ++ [.c (sc d4), .c (.val (.int .u64 n5)), .c (ic i6)] ++ rep 26 .deadv ++ [.c (bc t33)] ++ rep 27 .deadv, []⟩ (res41 r) (bx41 r)
  | .h4 s0 d4 m7, r => Fin cx41 Tryd.f41 (kAt body41 [1, 1, 1, 1, 1, 1, 1, 2] []) ⟨[.c (sc s0)] ++ rep 3 .deadv ++ [.c (sc d4), .deadv, .deadv, .c (ic m7)] ++ rep 53 .deadv, []⟩ (res41 r) (bx41 r)
theorem evr41 {s0 : ByteArray} {r : R41} (h : P41 (.e s0) r) : Ev Tryd.prog noHand 41 [.c (sc s0)] [] (res41 r) (bx41 r) := ev_of_fin (fn := Tryd.f41) (body := body41) (by kernel_rfl) (by kernel_rfl) (by kernel_rfl) rfl h
theorem t41_e_ok (k : Nat) (rec : S41 → Option R41) (ih : ∀ s r, rec s = some r → P41 s r) (s0 : ByteArray) (r : R41) (h : t41_e k rec s0 = some r) : P41 (.e s0) r := by
  unfold t41_e at h
  rcases bif_or h with ⟨h_x1, h⟩ | ⟨h_x1, h⟩
  ·
    obtain ⟨c_x2, h_x3, h⟩ := sxI_or h
    exact mgo_at (nb := 0) hmix (ih _ _ h) (n := 7) (ad := [(some 11, .test true), (some 14, .sidx c_x2)]) (ps := [_, _]) (m := bm 61 2305843009213628398) (ls := []) (cs := []) (by kernel_rfl) ⟨h_x1, h_x3, trivial⟩
  ·
    exact mgo_at (nb := 0) hmix (ih _ _ h) (n := 7) (ad := [(some 11, .test false)]) (ps := [_]) (m := bm 61 2305843009213628398) (ls := []) (cs := []) (by kernel_rfl) ⟨h_x1, trivial⟩
theorem t41_h0_ok (k : Nat) (rec : S41 → Option R41) (ih : ∀ s r, rec s = some r → P41 s r) (s0 : ByteArray) (d4 : ByteArray) (t16 : Bool) (r : R41) (h : t41_h0 k rec s0 d4 t16 = some r) : P41 (.h0 s0 d4 t16) r := by
  unfold t41_h0 at h
  rcases bif_or h with ⟨hq, h1'⟩ | ⟨hq, h1'⟩
  · clear h; subst hq; have h := h1'; clear h1'
    obtain ⟨h_x1, h⟩ := gd_or h
    exact mgo_at (nb := 0) hmix (ih _ _ h) (n := 2) (ad := [(some 18, .ssl)]) (ps := [_]) (m := bm 61 2305843009213693934) (ls := []) (cs := []) (by kernel_rfl) ⟨of_decide_eq_true h_x1, trivial⟩
  · clear h; subst hq; have h := h1'; clear h1'
    exact mgo_at (nb := 0) hmix (ih _ _ h) (n := 2) (ad := []) (ps := []) (m := bm 61 2305843009213693934) (ls := []) (cs := []) (by kernel_rfl) trivial
theorem t41_h1_ok (k : Nat) (rec : S41 → Option R41) (ih : ∀ s r, rec s = some r → P41 s r) (s0 : ByteArray) (d4 : ByteArray) (r : R41) (h : t41_h1 k rec s0 d4 = some r) : P41 (.h1 s0 d4) r := by
  unfold t41_h1 at h
  exact mgo_at (nb := 0) hmix (ih _ _ h) (n := 7) (ad := []) (ps := []) (m := bm 61 2305843009213693838) (ls := []) (cs := []) (by kernel_rfl) trivial
theorem t41_h2_ok (k : Nat) (rec : S41 → Option R41) (ih : ∀ s r, rec s = some r → P41 s r) (s0 : ByteArray) (d4 : ByteArray) (n5 : Int) (i6 : Int) (r : R41) (h : t41_h2 k rec s0 d4 n5 i6 = some r) : P41 (.h2 s0 d4 n5 i6) r := by
  unfold t41_h2 at h
  rcases bif_or h with ⟨h_x1, h⟩ | ⟨h_x1, h⟩
  ·
    obtain ⟨c_x2, h_x3, h⟩ := sxI_or h
    obtain ⟨v_x4, h_x5, h⟩ := bd_or h
    rcases bif_or h with ⟨h_x6, h⟩ | ⟨h_x6, h⟩
    ·
      exact mgo_at (nb := 0) hmix (ih _ _ h) (n := 11) (ad := [(some 22, .test true), (some 27, .sidx c_x2), (some 28, .call (.ret (.c (bc v_x4))) [] false), (some 29, .test true)]) (ps := [_, _, _, _]) (m := bm 61 2305843000623759246) (ls := []) (cs := []) (by kernel_rfl) ⟨h_x1, h_x3, (ev32 h_x5), h_x6, trivial⟩
    ·
      exact mgo_at (nb := 0) hmix (ih _ _ h) (n := 11) (ad := [(some 22, .test true), (some 27, .sidx c_x2), (some 28, .call (.ret (.c (bc v_x4))) [] false), (some 29, .test false)]) (ps := [_, _, _, _]) (m := bm 61 2305843000623759246) (ls := []) (cs := []) (by kernel_rfl) ⟨h_x1, h_x3, (ev32 h_x5), h_x6, trivial⟩
  ·
    rcases bif_or h with ⟨h_x2, h⟩ | ⟨h_x2, h⟩
    ·
      exact mgo_at (nb := 0) hmix (ih _ _ h) (n := 13) (ad := [(some 22, .test false), (some 48, .test true)]) (ps := [_, _]) (m := bm 61 2305843009213693806) (ls := []) (cs := []) (by kernel_rfl) ⟨h_x1, h_x2, trivial⟩
    ·
      exact mgo_at (nb := 0) hmix (ih _ _ h) (n := 13) (ad := [(some 22, .test false), (some 48, .test false)]) (ps := [_, _]) (m := bm 61 2305843009213693806) (ls := []) (cs := []) (by kernel_rfl) ⟨h_x1, h_x2, trivial⟩
theorem t41_h3_ok (k : Nat) (rec : S41 → Option R41) (ih : ∀ s r, rec s = some r → P41 s r) (s0 : ByteArray) (d4 : ByteArray) (n5 : Int) (i6 : Int) (t33 : Bool) (r : R41) (h : t41_h3 k rec s0 d4 n5 i6 t33 = some r) : P41 (.h3 s0 d4 n5 i6 t33) r := by
  unfold t41_h3 at h
  rcases bif_or h with ⟨hq, h1'⟩ | ⟨hq, h1'⟩
  · clear h; subst hq; have h := h1'; clear h1'
    rw [← Option.some.inj h]
    exact mgo_fin (nb := 0) hmix (n := 2000) (ad := []) (ps := []) (by kernel_rfl) trivial
  · clear h; subst hq; have h := h1'; clear h1'
    obtain ⟨c_x1, h_x2, h⟩ := sxI_or h
    exact mgo_at (nb := 0) hmix (ih _ _ h) (n := 5) (ad := [(some 38, .sidx c_x1)]) (ps := [_]) (m := bm 61 2305843009213693838) (ls := []) (cs := []) (by kernel_rfl) ⟨h_x2, trivial⟩
theorem t41_h4_ok (k : Nat) (rec : S41 → Option R41) (ih : ∀ s r, rec s = some r → P41 s r) (s0 : ByteArray) (d4 : ByteArray) (m7 : Int) (r : R41) (h : t41_h4 k rec s0 d4 m7 = some r) : P41 (.h4 s0 d4 m7) r := by
  unfold t41_h4 at h
  rcases bif_or h with ⟨h_x1, h⟩ | ⟨h_x1, h⟩
  ·
    obtain ⟨v_x2, h_x3, h⟩ := bd_or h
    rw [← Option.some.inj h]
    exact mgo_fin (nb := 0) hmix (n := 2000) (ad := [(some 54, .test true), (some 57, .call (.ret (.c (sc v_x2))) [] false)]) (ps := [_, _]) (by kernel_rfl) ⟨h_x1, (ev20 h_x3), trivial⟩
  ·
    rw [← Option.some.inj h]
    exact mgo_fin (nb := 0) hmix (n := 2000) (ad := [(some 54, .test false)]) (ps := [_]) (by kernel_rfl) ⟨h_x1, trivial⟩
theorem ok41 : ∀ k s r, itS step41 k s = some r → P41 s r := itS_ok fun k rec ih s r h => match s, h with
  | .e s0, h => t41_e_ok k rec ih s0 r h
  | .h0 s0 d4 t16, h => t41_h0_ok k rec ih s0 d4 t16 r h
  | .h1 s0 d4, h => t41_h1_ok k rec ih s0 d4 r h
  | .h2 s0 d4 n5 i6, h => t41_h2_ok k rec ih s0 d4 n5 i6 r h
  | .h3 s0 d4 n5 i6 t33, h => t41_h3_ok k rec ih s0 d4 n5 i6 t33 r h
  | .h4 s0 d4 m7, h => t41_h4_ok k rec ih s0 d4 m7 r h
theorem ev41 {k : Nat} {s0 : ByteArray} {r : R41} (h : g41 k s0 = some r) : Ev Tryd.prog noHand 41 [.c (sc s0)] [] (res41 r) (bx41 r) := evr41 (ok41 _ _ _ h)
-- auspice/auspiceref05.number
inductive S33 where
  | e (s0 : ByteArray) (at1 : Int)
  | h0 (s0 : ByteArray) (at1 : Int) (n6 : Int) (d7 : ByteArray) (m8 : Int) (t36 : Bool) (loc4_0 : Int) (loc4_1 : ByteArray) (loc4_2 : Int) (loc4_3 : Int) (loc4_4 : Int)
  | h1 (s0 : ByteArray) (at1 : Int) (n6 : Int) (d7 : ByteArray) (m8 : Int) (loc4_0 : Int) (loc4_1 : ByteArray) (loc4_2 : Int) (loc4_3 : Int) (loc4_4 : Int)
  | h2 (s0 : ByteArray) (at1 : Int) (n6 : Int) (d7 : ByteArray) (m8 : Int) (t67 : Bool) (loc4_0 : Int) (loc4_1 : ByteArray) (loc4_2 : Int) (loc4_3 : Int) (loc4_4 : Int)
  | h3 (n6 : Int) (m8 : Int) (x11 : Int) (t96 : Rs) (t97 : Int) (t98 : Int) (loc4_0 : Int) (loc4_1 : ByteArray) (loc4_2 : Int) (loc4_3 : Int) (loc4_4 : Int)
abbrev R33 := Int × ByteArray × Int × Int × Int × Int
def res33 : R33 → ARes
  | (r_00, r_01, r_02, r_03, r_04, r_10) => .ret ⟨.tup [true, false], [[ic r_00, sc r_01, ic r_02, ic r_03, ic r_04], [ic r_10]]⟩
def bx33 : R33 → List (List Cell)
  | (r_00, r_01, r_02, r_03, r_04, r_10) => []
noncomputable def t33_e (k : Nat) (rec : S33 → Option R33) (s0 : ByteArray) (at1 : Int) : Option R33 :=
  (g29 k s0 at1 false).bind fun v_x1 =>
  gd (decide (0 ≤ at1 ∧ at1 ≤ (IntKind.i64.wrap (at1 + v_x1)) ∧ (IntKind.i64.wrap (at1 + v_x1)) ≤ (s0.size : Int))) <|
  bif decide ((IntKind.i64.wrap (at1 + v_x1)) < (s0.size : Int)) then
    sxI s0 (IntKind.i64.wrap (at1 + v_x1)) fun c_x5 =>
    rec (.h0 s0 at1 v_x1 (s0.extract (Int.toNat at1) (Int.toNat (IntKind.i64.wrap (at1 + v_x1)))) 0 (c_x5 == 46) 0 (strB []) 0 0 0)
  else
    rec (.h0 s0 at1 v_x1 (s0.extract (Int.toNat at1) (Int.toNat (IntKind.i64.wrap (at1 + v_x1)))) 0 false 0 (strB []) 0 0 0)
noncomputable def t33_h0 (k : Nat) (rec : S33 → Option R33) (s0 : ByteArray) (at1 : Int) (n6 : Int) (d7 : ByteArray) (m8 : Int) (t36 : Bool) (loc4_0 : Int) (loc4_1 : ByteArray) (loc4_2 : Int) (loc4_3 : Int) (loc4_4 : Int) : Option R33 :=
  bif t36 then
    (g29 k s0 (IntKind.i64.wrap ((IntKind.i64.wrap (at1 + n6)) + 1)) false).bind fun v_x1 =>
    rec (.h1 s0 at1 n6 d7 v_x1 loc4_0 loc4_1 loc4_2 loc4_3 loc4_4)
  else
    rec (.h1 s0 at1 n6 d7 m8 loc4_0 loc4_1 loc4_2 loc4_3 loc4_4)
noncomputable def t33_h1 (k : Nat) (rec : S33 → Option R33) (s0 : ByteArray) (at1 : Int) (n6 : Int) (d7 : ByteArray) (m8 : Int) (loc4_0 : Int) (loc4_1 : ByteArray) (loc4_2 : Int) (loc4_3 : Int) (loc4_4 : Int) : Option R33 :=
  bif decide (n6 > 1) then
    sxI d7 0 fun c_x2 =>
    bif c_x2 == 48 then
      rec (.h2 s0 at1 n6 d7 m8 true loc4_0 loc4_1 loc4_2 loc4_3 loc4_4)
    else
      bif m8 == 0 then
        bif decide (n6 > 19) then
          rec (.h2 s0 at1 n6 d7 m8 true loc4_0 loc4_1 loc4_2 loc4_3 loc4_4)
        else
          rec (.h2 s0 at1 n6 d7 m8 false loc4_0 loc4_1 loc4_2 loc4_3 loc4_4)
      else
        bif decide (m8 > 0) then
          rec (.h2 s0 at1 n6 d7 m8 (decide ((IntKind.i64.wrap (n6 + m8)) > 15)) loc4_0 loc4_1 loc4_2 loc4_3 loc4_4)
        else
          rec (.h2 s0 at1 n6 d7 m8 false loc4_0 loc4_1 loc4_2 loc4_3 loc4_4)
  else
    bif m8 == 0 then
      bif decide (n6 > 19) then
        rec (.h2 s0 at1 n6 d7 m8 true loc4_0 loc4_1 loc4_2 loc4_3 loc4_4)
      else
        rec (.h2 s0 at1 n6 d7 m8 false loc4_0 loc4_1 loc4_2 loc4_3 loc4_4)
    else
      bif decide (m8 > 0) then
        rec (.h2 s0 at1 n6 d7 m8 (decide ((IntKind.i64.wrap (n6 + m8)) > 15)) loc4_0 loc4_1 loc4_2 loc4_3 loc4_4)
      else
        rec (.h2 s0 at1 n6 d7 m8 false loc4_0 loc4_1 loc4_2 loc4_3 loc4_4)
noncomputable def t33_h2 (k : Nat) (rec : S33 → Option R33) (s0 : ByteArray) (at1 : Int) (n6 : Int) (d7 : ByteArray) (m8 : Int) (t67 : Bool) (loc4_0 : Int) (loc4_1 : ByteArray) (loc4_2 : Int) (loc4_3 : Int) (loc4_4 : Int) : Option R33 :=
  bif t67 then
    some (0, strB [], 0, 0, 0, 0)
  else
    bif m8 == 0 then
      (g41 k d7).bind fun v_x2 =>
      tup2 v_x2 fun r00_x4 r10_x4 =>
      bif !r10_x4 then
        some (0, strB [], 0, 0, 0, 0)
      else
        some (3, strB [], r00_x4, 0, 0, n6)
    else
      gd (decide (0 ≤ (IntKind.i64.wrap ((IntKind.i64.wrap (at1 + n6)) + 1)) ∧ (IntKind.i64.wrap ((IntKind.i64.wrap (at1 + n6)) + 1)) ≤ (IntKind.i64.wrap ((IntKind.i64.wrap ((IntKind.i64.wrap (at1 + n6)) + 1)) + m8)) ∧ (IntKind.i64.wrap ((IntKind.i64.wrap ((IntKind.i64.wrap (at1 + n6)) + 1)) + m8)) ≤ (s0.size : Int))) <|
      gd (decide (d7.size + (s0.extract (Int.toNat (IntKind.i64.wrap ((IntKind.i64.wrap (at1 + n6)) + 1))) (Int.toNat (IntKind.i64.wrap ((IntKind.i64.wrap ((IntKind.i64.wrap (at1 + n6)) + 1)) + m8)))).size ≤ 1000000000)) <|
      rec (.h3 n6 m8 0 (byteRows (d7 ++ (s0.extract (Int.toNat (IntKind.i64.wrap ((IntKind.i64.wrap (at1 + n6)) + 1))) (Int.toNat (IntKind.i64.wrap ((IntKind.i64.wrap ((IntKind.i64.wrap (at1 + n6)) + 1)) + m8)))))) ((byteRows (d7 ++ (s0.extract (Int.toNat (IntKind.i64.wrap ((IntKind.i64.wrap (at1 + n6)) + 1))) (Int.toNat (IntKind.i64.wrap ((IntKind.i64.wrap ((IntKind.i64.wrap (at1 + n6)) + 1)) + m8)))))).length : Int) 0 loc4_0 loc4_1 loc4_2 loc4_3 loc4_4)
noncomputable def t33_h3 (k : Nat) (rec : S33 → Option R33) (n6 : Int) (m8 : Int) (x11 : Int) (t96 : Rs) (t97 : Int) (t98 : Int) (loc4_0 : Int) (loc4_1 : ByteArray) (loc4_2 : Int) (loc4_3 : Int) (loc4_4 : Int) : Option R33 :=
  bif decide (t98 < t97) then
    ixR t96 t98 fun w_x2 =>
    un_y w_x2 fun x_x4 =>
    rec (.h3 n6 m8 (IntKind.i64.wrap ((IntKind.i64.wrap ((10 : Int) * x11)) + (IntKind.i64.wrap (IntKind.u8.wrap (x_x4 - 48))))) t96 t97 (IntKind.i64.wrap (t98 + 1)) loc4_0 loc4_1 loc4_2 loc4_3 loc4_4)
  else
    some (4, strB [], x11, m8, 0, IntKind.i64.wrap ((IntKind.i64.wrap (n6 + 1)) + m8))
noncomputable def step33 (k : Nat) (rec : S33 → Option R33) : S33 → Option R33
  | .e s0 at1 => t33_e k rec s0 at1
  | .h0 s0 at1 n6 d7 m8 t36 loc4_0 loc4_1 loc4_2 loc4_3 loc4_4 => t33_h0 k rec s0 at1 n6 d7 m8 t36 loc4_0 loc4_1 loc4_2 loc4_3 loc4_4
  | .h1 s0 at1 n6 d7 m8 loc4_0 loc4_1 loc4_2 loc4_3 loc4_4 => t33_h1 k rec s0 at1 n6 d7 m8 loc4_0 loc4_1 loc4_2 loc4_3 loc4_4
  | .h2 s0 at1 n6 d7 m8 t67 loc4_0 loc4_1 loc4_2 loc4_3 loc4_4 => t33_h2 k rec s0 at1 n6 d7 m8 t67 loc4_0 loc4_1 loc4_2 loc4_3 loc4_4
  | .h3 n6 m8 x11 t96 t97 t98 loc4_0 loc4_1 loc4_2 loc4_3 loc4_4 => t33_h3 k rec n6 m8 x11 t96 t97 t98 loc4_0 loc4_1 loc4_2 loc4_3 loc4_4
noncomputable def g33 (k : Nat) (s0 : ByteArray) (at1 : Int) : Option R33 := itS step33 k (.e s0 at1)
noncomputable def P33 : S33 → R33 → Prop
  | .e s0 at1, r => Fin cx33 Tryd.f33 [.code body33] (fr0 Tryd.f33 [.c (sc s0), .c (ic at1)] []) (res33 r) (bx33 r)
  | .h0 s0 at1 n6 d7 m8 t36 loc4_0 loc4_1 loc4_2 loc4_3 loc4_4, r => Fin cx33 Tryd.f33 (kAt body33 [1, 1, 1, 1, 0, 1, 2] []) ⟨[.c (sc s0), .c (ic at1), .deadv, .deadv, .c (.ptr ⟨⟨.loc 4, []⟩, 0, 0⟩), .deadv, .c (ic n6), .c (sc d7), .c (ic m8)] ++ rep 27 .deadv ++ [.c (bc t36)] ++ rep 79 .deadv, [(.loc 4, [ic loc4_0, sc loc4_1, ic loc4_2, ic loc4_3, ic loc4_4])]⟩ (res33 r) (bx33 r)
  | .h1 s0 at1 n6 d7 m8 loc4_0 loc4_1 loc4_2 loc4_3 loc4_4, r => Fin cx33 Tryd.f33 (kAt body33 [1, 1, 1, 1, 1, 2] []) ⟨[.c (sc s0), .c (ic at1), .deadv, .deadv, .c (.ptr ⟨⟨.loc 4, []⟩, 0, 0⟩), .deadv, .c (ic n6), .c (sc d7), .c (ic m8)] ++ rep 107 .deadv, [(.loc 4, [ic loc4_0, sc loc4_1, ic loc4_2, ic loc4_3, ic loc4_4])]⟩ (res33 r) (bx33 r)
  | .h2 s0 at1 n6 d7 m8 t67 loc4_0 loc4_1 loc4_2 loc4_3 loc4_4, r => Fin cx33 Tryd.f33 (kAt body33 [1, 1, 1, 1, 1, 0, 1, 2] []) ⟨[.c (sc s0), .c (ic at1), .deadv, .deadv, .c (.ptr ⟨⟨.loc 4, []⟩, 0, 0⟩), .deadv, .c (ic n6), .c (sc d7), .c (ic m8)] ++ rep 58 .deadv ++ [.c (bc t67)] ++ rep 48 .deadv, [(.loc 4, [ic loc4_0, sc loc4_1, ic loc4_2, ic loc4_3, ic loc4_4])]⟩ (res33 r) (bx33 r)
  | .h3 n6 m8 x11 t96 t97 t98 loc4_0 loc4_1 loc4_2 loc4_3 loc4_4, r => Fin cx33 Tryd.f33 (kAt body33 [1, 1, 1, 1, 1, 1, 1, 1, 0, 1, 0, 4] []) ⟨rep 4 .deadv ++ [.c (.ptr ⟨⟨.loc 4, []⟩, 0, 0⟩), .deadv, .c (ic n6), .deadv, .c (ic m8), .deadv, .deadv, .c (ic x11)] ++ rep 84 .deadv ++ [.c (.imm t96), .c (ic t97), .c (ic t98)] ++ rep 17 .deadv, [(.loc 4, [ic loc4_0, sc loc4_1, ic loc4_2, ic loc4_3, ic loc4_4])]⟩ (res33 r) (bx33 r)
theorem evr33 {s0 : ByteArray} {at1 : Int} {r : R33} (h : P33 (.e s0 at1) r) : Ev Tryd.prog noHand 33 [.c (sc s0), .c (ic at1)] [] (res33 r) (bx33 r) := ev_of_fin (fn := Tryd.f33) (body := body33) (by kernel_rfl) (by kernel_rfl) (by kernel_rfl) rfl h
theorem t33_e_ok (k : Nat) (rec : S33 → Option R33) (ih : ∀ s r, rec s = some r → P33 s r) (s0 : ByteArray) (at1 : Int) (r : R33) (h : t33_e k rec s0 at1 = some r) : P33 (.e s0 at1) r := by
  unfold t33_e at h
  obtain ⟨v_x1, h_x2, h⟩ := bd_or h
  obtain ⟨h_x3, h⟩ := gd_or h
  rcases bif_or h with ⟨h_x4, h⟩ | ⟨h_x4, h⟩
  ·
    obtain ⟨c_x5, h_x6, h⟩ := sxI_or h
    exact mgo_at (nb := 0) hmix (ih _ _ h) (n := 11) (ad := [(some 16, .call (.ret (.c (ic v_x1))) [] false), (some 22, .ssl), (some 28, .test true), (some 34, .sidx c_x5)]) (ps := [_, _, _, _]) (m := bm 116 83076749736557242056487872548044332) (ls := []) (cs := []) (by kernel_rfl) ⟨(ev29 h_x2), of_decide_eq_true h_x3, h_x4, h_x6, trivial⟩
  ·
    exact mgo_at (nb := 0) hmix (ih _ _ h) (n := 11) (ad := [(some 16, .call (.ret (.c (ic v_x1))) [] false), (some 22, .ssl), (some 28, .test false)]) (ps := [_, _, _]) (m := bm 116 83076749736557242056487872548044332) (ls := []) (cs := []) (by kernel_rfl) ⟨(ev29 h_x2), of_decide_eq_true h_x3, h_x4, trivial⟩
theorem t33_h0_ok (k : Nat) (rec : S33 → Option R33) (ih : ∀ s r, rec s = some r → P33 s r) (s0 : ByteArray) (at1 : Int) (n6 : Int) (d7 : ByteArray) (m8 : Int) (t36 : Bool) (loc4_0 : Int) (loc4_1 : ByteArray) (loc4_2 : Int) (loc4_3 : Int) (loc4_4 : Int) (r : R33) (h : t33_h0 k rec s0 at1 n6 d7 m8 t36 loc4_0 loc4_1 loc4_2 loc4_3 loc4_4 = some r) : P33 (.h0 s0 at1 n6 d7 m8 t36 loc4_0 loc4_1 loc4_2 loc4_3 loc4_4) r := by
  unfold t33_h0 at h
  rcases bif_or h with ⟨hq, h1'⟩ | ⟨hq, h1'⟩
  · clear h; subst hq; have h := h1'; clear h1'
    obtain ⟨v_x1, h_x2, h⟩ := bd_or h
    exact mgo_at (nb := 0) hmix (ih _ _ h) (n := 2) (ad := [(some 42, .call (.ret (.c (ic v_x1))) [] false)]) (ps := [_]) (m := bm 116 83076749736557242056487941267521068) (ls := []) (cs := []) (by kernel_rfl) ⟨(ev29 h_x2), trivial⟩
  · clear h; subst hq; have h := h1'; clear h1'
    exact mgo_at (nb := 0) hmix (ih _ _ h) (n := 2) (ad := []) (ps := []) (m := bm 116 83076749736557242056487941267521068) (ls := []) (cs := []) (by kernel_rfl) trivial
theorem t33_h1_ok (k : Nat) (rec : S33 → Option R33) (ih : ∀ s r, rec s = some r → P33 s r) (s0 : ByteArray) (at1 : Int) (n6 : Int) (d7 : ByteArray) (m8 : Int) (loc4_0 : Int) (loc4_1 : ByteArray) (loc4_2 : Int) (loc4_3 : Int) (loc4_4 : Int) (r : R33) (h : t33_h1 k rec s0 at1 n6 d7 m8 loc4_0 loc4_1 loc4_2 loc4_3 loc4_4 = some r) : P33 (.h1 s0 at1 n6 d7 m8 loc4_0 loc4_1 loc4_2 loc4_3 loc4_4) r := by
  unfold t33_h1 at h
  rcases bif_or h with ⟨h_x1, h⟩ | ⟨h_x1, h⟩
  ·
    obtain ⟨c_x2, h_x3, h⟩ := sxI_or h
    rcases bif_or h with ⟨h_x4, h⟩ | ⟨h_x4, h⟩
    ·
      exact mgo_at (nb := 0) hmix (ih _ _ h) (n := 3) (ad := [(some 44, .test true), (some 47, .sidx c_x2), (some 48, .test true)]) (ps := [_, _, _]) (m := bm 116 83076749736557094482535351591108140) (ls := []) (cs := []) (by kernel_rfl) ⟨h_x1, h_x3, h_x4, trivial⟩
    ·
      rcases bif_or h with ⟨h_x5, h⟩ | ⟨h_x5, h⟩
      ·
        rcases bif_or h with ⟨h_x6, h⟩ | ⟨h_x6, h⟩
        ·
          exact mgo_at (nb := 0) hmix (ih _ _ h) (n := 3) (ad := [(some 44, .test true), (some 47, .sidx c_x2), (some 48, .test false), (some 52, .test true), (some 55, .test true)]) (ps := [_, _, _, _, _]) (m := bm 116 83076749736557094482535351591108140) (ls := []) (cs := []) (by kernel_rfl) ⟨h_x1, h_x3, h_x4, h_x5, h_x6, trivial⟩
        ·
          exact mgo_at (nb := 0) hmix (ih _ _ h) (n := 3) (ad := [(some 44, .test true), (some 47, .sidx c_x2), (some 48, .test false), (some 52, .test true), (some 55, .test false), (some 60, .test false)]) (ps := [_, _, _, _, _, _]) (m := bm 116 83076749736557094482535351591108140) (ls := []) (cs := []) (by kernel_rfl) ⟨h_x1, h_x3, h_x4, h_x5, h_x6, (show (decide (m8 > 0)) = false from by rw [eq_of_beq h_x5]; rfl), trivial⟩
      ·
        rcases bif_or h with ⟨h_x6, h⟩ | ⟨h_x6, h⟩
        ·
          exact mgo_at (nb := 0) hmix (ih _ _ h) (n := 3) (ad := [(some 44, .test true), (some 47, .sidx c_x2), (some 48, .test false), (some 52, .test false), (some 60, .test true)]) (ps := [_, _, _, _, _]) (m := bm 116 83076749736557094482535351591108140) (ls := []) (cs := []) (by kernel_rfl) ⟨h_x1, h_x3, h_x4, h_x5, h_x6, trivial⟩
        ·
          exact mgo_at (nb := 0) hmix (ih _ _ h) (n := 3) (ad := [(some 44, .test true), (some 47, .sidx c_x2), (some 48, .test false), (some 52, .test false), (some 60, .test false)]) (ps := [_, _, _, _, _]) (m := bm 116 83076749736557094482535351591108140) (ls := []) (cs := []) (by kernel_rfl) ⟨h_x1, h_x3, h_x4, h_x5, h_x6, trivial⟩
  ·
    rcases bif_or h with ⟨h_x2, h⟩ | ⟨h_x2, h⟩
    ·
      rcases bif_or h with ⟨h_x3, h⟩ | ⟨h_x3, h⟩
      ·
        exact mgo_at (nb := 0) hmix (ih _ _ h) (n := 3) (ad := [(some 44, .test false), (some 52, .test true), (some 55, .test true)]) (ps := [_, _, _]) (m := bm 116 83076749736557094482535351591108140) (ls := []) (cs := []) (by kernel_rfl) ⟨h_x1, h_x2, h_x3, trivial⟩
      ·
        exact mgo_at (nb := 0) hmix (ih _ _ h) (n := 3) (ad := [(some 44, .test false), (some 52, .test true), (some 55, .test false), (some 60, .test false)]) (ps := [_, _, _, _]) (m := bm 116 83076749736557094482535351591108140) (ls := []) (cs := []) (by kernel_rfl) ⟨h_x1, h_x2, h_x3, (show (decide (m8 > 0)) = false from by rw [eq_of_beq h_x2]; rfl), trivial⟩
    ·
      rcases bif_or h with ⟨h_x3, h⟩ | ⟨h_x3, h⟩
      ·
        exact mgo_at (nb := 0) hmix (ih _ _ h) (n := 3) (ad := [(some 44, .test false), (some 52, .test false), (some 60, .test true)]) (ps := [_, _, _]) (m := bm 116 83076749736557094482535351591108140) (ls := []) (cs := []) (by kernel_rfl) ⟨h_x1, h_x2, h_x3, trivial⟩
      ·
        exact mgo_at (nb := 0) hmix (ih _ _ h) (n := 3) (ad := [(some 44, .test false), (some 52, .test false), (some 60, .test false)]) (ps := [_, _, _]) (m := bm 116 83076749736557094482535351591108140) (ls := []) (cs := []) (by kernel_rfl) ⟨h_x1, h_x2, h_x3, trivial⟩
theorem t33_h2_ok (k : Nat) (rec : S33 → Option R33) (ih : ∀ s r, rec s = some r → P33 s r) (s0 : ByteArray) (at1 : Int) (n6 : Int) (d7 : ByteArray) (m8 : Int) (t67 : Bool) (loc4_0 : Int) (loc4_1 : ByteArray) (loc4_2 : Int) (loc4_3 : Int) (loc4_4 : Int) (r : R33) (h : t33_h2 k rec s0 at1 n6 d7 m8 t67 loc4_0 loc4_1 loc4_2 loc4_3 loc4_4 = some r) : P33 (.h2 s0 at1 n6 d7 m8 t67 loc4_0 loc4_1 loc4_2 loc4_3 loc4_4) r := by
  unfold t33_h2 at h
  rcases bif_or h with ⟨hq, h1'⟩ | ⟨hq, h1'⟩
  · clear h; subst hq; have h := h1'; clear h1'
    rw [← Option.some.inj h]
    exact mgo_fin (nb := 0) hmix (n := 2000) (ad := []) (ps := []) (by kernel_rfl) trivial
  · clear h; subst hq; have h := h1'; clear h1'
    rcases bif_or h with ⟨h_x1, h⟩ | ⟨h_x1, h⟩
    ·
      obtain ⟨v_x2, h_x3, h⟩ := bd_or h
      obtain ⟨r00_x4, r10_x4, hq, h1'⟩ := tup2_or h
      clear h; subst hq; have h := h1'; clear h1'
      rcases bif_or h with ⟨h_x5, h⟩ | ⟨h_x5, h⟩
      ·
        rw [← Option.some.inj h]
        exact mgo_fin (nb := 0) hmix (n := 2000) (ad := [(some 70, .test true), (some 73, .call (.ret ⟨.tup [false, false], [[ic r00_x4], [bc r10_x4]]⟩) [] false), (some 77, .test true)]) (ps := [_, _, _]) (by kernel_rfl) ⟨h_x1, (ev41 h_x3), h_x5, trivial⟩
      ·
        rw [← Option.some.inj h]
        exact mgo_fin (nb := 0) hmix (n := 2000) (ad := [(some 70, .test true), (some 73, .call (.ret ⟨.tup [false, false], [[ic r00_x4], [bc r10_x4]]⟩) [] false), (some 77, .test false)]) (ps := [_, _, _]) (by kernel_rfl) ⟨h_x1, (ev41 h_x3), h_x5, trivial⟩
    ·
      obtain ⟨h_x2, h⟩ := gd_or h
      obtain ⟨h_x3, h⟩ := gd_or h
      exact mgo_at (nb := 0) hmix (ih _ _ h) (n := 14) (ad := [(some 70, .test false), (some 94, .ssl), (some 95, .scat)]) (ps := [_, _, _]) (m := bm 116 83076195139419642206124786459866799) (ls := []) (cs := []) (by kernel_rfl) ⟨h_x1, of_decide_eq_true h_x2, of_decide_eq_true h_x3, trivial⟩
theorem t33_h3_ok (k : Nat) (rec : S33 → Option R33) (ih : ∀ s r, rec s = some r → P33 s r) (n6 : Int) (m8 : Int) (x11 : Int) (t96 : Rs) (t97 : Int) (t98 : Int) (loc4_0 : Int) (loc4_1 : ByteArray) (loc4_2 : Int) (loc4_3 : Int) (loc4_4 : Int) (r : R33) (h : t33_h3 k rec n6 m8 x11 t96 t97 t98 loc4_0 loc4_1 loc4_2 loc4_3 loc4_4 = some r) : P33 (.h3 n6 m8 x11 t96 t97 t98 loc4_0 loc4_1 loc4_2 loc4_3 loc4_4) r := by
  unfold t33_h3 at h
  rcases bif_or h with ⟨h_x1, h⟩ | ⟨h_x1, h⟩
  ·
    obtain ⟨w_x2, h_x3, h⟩ := ixR_or h
    obtain ⟨x_x4, hq, h1'⟩ := un_y_or h
    clear h; subst hq; have h := h1'; clear h1'
    exact mgo_at (nb := 0) hmix (ih _ _ h) (n := 13) (ad := [(some 99, .test true), (some 100, .row [.val (.int .u8 x_x4)])]) (ps := [_, _]) (m := bm 116 83076195139419642206124786459866799) (ls := []) (cs := []) (by kernel_rfl) ⟨h_x1, ix_row h_x3 rfl, trivial⟩
  ·
    rw [← Option.some.inj h]
    exact mgo_fin (nb := 0) hmix (n := 2000) (ad := [(some 99, .test false)]) (ps := [_]) (by kernel_rfl) ⟨h_x1, trivial⟩
theorem ok33 : ∀ k s r, itS step33 k s = some r → P33 s r := itS_ok fun k rec ih s r h => match s, h with
  | .e s0 at1, h => t33_e_ok k rec ih s0 at1 r h
  | .h0 s0 at1 n6 d7 m8 t36 loc4_0 loc4_1 loc4_2 loc4_3 loc4_4, h => t33_h0_ok k rec ih s0 at1 n6 d7 m8 t36 loc4_0 loc4_1 loc4_2 loc4_3 loc4_4 r h
  | .h1 s0 at1 n6 d7 m8 loc4_0 loc4_1 loc4_2 loc4_3 loc4_4, h => t33_h1_ok k rec ih s0 at1 n6 d7 m8 loc4_0 loc4_1 loc4_2 loc4_3 loc4_4 r h
  | .h2 s0 at1 n6 d7 m8 t67 loc4_0 loc4_1 loc4_2 loc4_3 loc4_4, h => t33_h2_ok k rec ih s0 at1 n6 d7 m8 t67 loc4_0 loc4_1 loc4_2 loc4_3 loc4_4 r h
  | .h3 n6 m8 x11 t96 t97 t98 loc4_0 loc4_1 loc4_2 loc4_3 loc4_4, h => t33_h3_ok k rec ih n6 m8 x11 t96 t97 t98 loc4_0 loc4_1 loc4_2 loc4_3 loc4_4 r h
theorem ev33 {k : Nat} {s0 : ByteArray} {at1 : Int} {r : R33} (h : g33 k s0 at1 = some r) : Ev Tryd.prog noHand 33 [.c (sc s0), .c (ic at1)] [] (res33 r) (bx33 r) := evr33 (ok33 _ _ _ h)
-- auspice/auspiceref05.one
inductive S18 where
  | e (s0 : ByteArray) (at1 : Int)
  | h0 (n9 : Int) (w10 : ByteArray) (t79 : Bool) (loc4_0 : Int) (loc4_1 : ByteArray) (loc4_2 : Int) (loc4_3 : Int) (loc4_4 : Int)
  | h1 (s0 : ByteArray) (at1 : Int) (t85 : Rs) (t86 : Int) (t87 : Int) (loc4_0 : Int) (loc4_1 : ByteArray) (loc4_2 : Int) (loc4_3 : Int) (loc4_4 : Int)
  | h2 (s0 : ByteArray) (at1 : Int) (w12 : ByteArray) (t85 : Rs) (t86 : Int) (t87 : Int) (t108 : Bool) (loc4_0 : Int) (loc4_1 : ByteArray) (loc4_2 : Int) (loc4_3 : Int) (loc4_4 : Int)
abbrev R18 := Int × ByteArray × Int × Int × Int × Int
def res18 : R18 → ARes
  | (r_00, r_01, r_02, r_03, r_04, r_10) => .ret ⟨.tup [true, false], [[ic r_00, sc r_01, ic r_02, ic r_03, ic r_04], [ic r_10]]⟩
def bx18 : R18 → List (List Cell)
  | (r_00, r_01, r_02, r_03, r_04, r_10) => []
noncomputable def t18_e (k : Nat) (rec : S18 → Option R18) (s0 : ByteArray) (at1 : Int) : Option R18 :=
  sxI s0 at1 fun c_x1 =>
  (g28 k c_x1).bind fun v_x3 =>
  bif v_x3 then
    (g29 k s0 at1 true).bind fun v_x5 =>
    gd (decide (0 ≤ at1 ∧ at1 ≤ (IntKind.i64.wrap (at1 + v_x5)) ∧ (IntKind.i64.wrap (at1 + v_x5)) ≤ (s0.size : Int))) <|
    (g30 k (s0.extract (Int.toNat at1) (Int.toNat (IntKind.i64.wrap (at1 + v_x5))))).bind fun v_x8 =>
    bif v_x8 then
      some (1, (s0.extract (Int.toNat at1) (Int.toNat (IntKind.i64.wrap (at1 + v_x5)))), 0, 0, 0, v_x5)
    else
      (g31 k (s0.extract (Int.toNat at1) (Int.toNat (IntKind.i64.wrap (at1 + v_x5))))).bind fun v_x10 =>
      bif v_x10 then
        some (2, (s0.extract (Int.toNat at1) (Int.toNat (IntKind.i64.wrap (at1 + v_x5)))), 0, 0, 0, v_x5)
      else
        some (0, strB [], 0, 0, 0, 0)
  else
    (g32 k c_x1).bind fun v_x5 =>
    bif v_x5 then
      (g33 k s0 at1).bind fun v_x7 =>
      tup6 v_x7 fun r00_x9 r01_x9 r02_x9 r03_x9 r04_x9 r10_x9 =>
      some (r00_x9, r01_x9, r02_x9, r03_x9, r04_x9, r10_x9)
    else
      bif c_x1 == 39 then
        (g29 k s0 (IntKind.i64.wrap (at1 + 1)) true).bind fun v_x8 =>
        gd (decide (0 ≤ (IntKind.i64.wrap (at1 + 1)) ∧ (IntKind.i64.wrap (at1 + 1)) ≤ (IntKind.i64.wrap ((IntKind.i64.wrap (at1 + 1)) + v_x8)) ∧ (IntKind.i64.wrap ((IntKind.i64.wrap (at1 + 1)) + v_x8)) ≤ (s0.size : Int))) <|
        (g31 k (s0.extract (Int.toNat (IntKind.i64.wrap (at1 + 1))) (Int.toNat (IntKind.i64.wrap ((IntKind.i64.wrap (at1 + 1)) + v_x8))))).bind fun v_x11 =>
        bif !v_x11 then
          rec (.h0 v_x8 (s0.extract (Int.toNat (IntKind.i64.wrap (at1 + 1))) (Int.toNat (IntKind.i64.wrap ((IntKind.i64.wrap (at1 + 1)) + v_x8)))) true 0 (strB []) 0 0 0)
        else
          bif decide ((IntKind.i64.wrap ((IntKind.i64.wrap (at1 + 1)) + v_x8)) ≥ (s0.size : Int)) then
            rec (.h0 v_x8 (s0.extract (Int.toNat (IntKind.i64.wrap (at1 + 1))) (Int.toNat (IntKind.i64.wrap ((IntKind.i64.wrap (at1 + 1)) + v_x8)))) true 0 (strB []) 0 0 0)
          else
            sxI s0 (IntKind.i64.wrap ((IntKind.i64.wrap (at1 + 1)) + v_x8)) fun c_x15 =>
            rec (.h0 v_x8 (s0.extract (Int.toNat (IntKind.i64.wrap (at1 + 1))) (Int.toNat (IntKind.i64.wrap ((IntKind.i64.wrap (at1 + 1)) + v_x8)))) (c_x15 != 39) 0 (strB []) 0 0 0)
      else
        rec (.h1 s0 at1 [[sc (strB [33, 61])], [sc (strB [60, 61])], [sc (strB [62, 61])], [sc (strB [40])], [sc (strB [41])], [sc (strB [44])], [sc (strB [46])], [sc (strB [43])], [sc (strB [45])], [sc (strB [42])], [sc (strB [47])], [sc (strB [37])], [sc (strB [61])], [sc (strB [60])], [sc (strB [62])], [sc (strB [33])], [sc (strB [124])]] 17 0 0 (strB []) 0 0 0)
noncomputable def t18_h0 (k : Nat) (rec : S18 → Option R18) (n9 : Int) (w10 : ByteArray) (t79 : Bool) (loc4_0 : Int) (loc4_1 : ByteArray) (loc4_2 : Int) (loc4_3 : Int) (loc4_4 : Int) : Option R18 :=
  bif t79 then
    some (0, strB [], 0, 0, 0, 0)
  else
    some (5, w10, 0, 0, 0, IntKind.i64.wrap (n9 + 2))
noncomputable def t18_h1 (k : Nat) (rec : S18 → Option R18) (s0 : ByteArray) (at1 : Int) (t85 : Rs) (t86 : Int) (t87 : Int) (loc4_0 : Int) (loc4_1 : ByteArray) (loc4_2 : Int) (loc4_3 : Int) (loc4_4 : Int) : Option R18 :=
  bif decide (t87 < t86) then
    ixR t85 t87 fun w_x2 =>
    un_s w_x2 fun x_x4 =>
    bif decide ((IntKind.i64.wrap (at1 + (x_x4.size : Int))) ≤ (s0.size : Int)) then
      gd (decide (0 ≤ at1 ∧ at1 ≤ (IntKind.i64.wrap (at1 + (x_x4.size : Int))) ∧ (IntKind.i64.wrap (at1 + (x_x4.size : Int))) ≤ (s0.size : Int))) <|
      rec (.h2 s0 at1 x_x4 t85 t86 t87 ((s0.extract (Int.toNat at1) (Int.toNat (IntKind.i64.wrap (at1 + (x_x4.size : Int))))).toList == x_x4.toList) loc4_0 loc4_1 loc4_2 loc4_3 loc4_4)
    else
      rec (.h2 s0 at1 x_x4 t85 t86 t87 false loc4_0 loc4_1 loc4_2 loc4_3 loc4_4)
  else
    some (0, strB [], 0, 0, 0, 0)
noncomputable def t18_h2 (k : Nat) (rec : S18 → Option R18) (s0 : ByteArray) (at1 : Int) (w12 : ByteArray) (t85 : Rs) (t86 : Int) (t87 : Int) (t108 : Bool) (loc4_0 : Int) (loc4_1 : ByteArray) (loc4_2 : Int) (loc4_3 : Int) (loc4_4 : Int) : Option R18 :=
  bif t108 then
    some (6, w12, 0, 0, 0, (w12.size : Int))
  else
    rec (.h1 s0 at1 t85 t86 (IntKind.i64.wrap (t87 + 1)) loc4_0 loc4_1 loc4_2 loc4_3 loc4_4)
noncomputable def step18 (k : Nat) (rec : S18 → Option R18) : S18 → Option R18
  | .e s0 at1 => t18_e k rec s0 at1
  | .h0 n9 w10 t79 loc4_0 loc4_1 loc4_2 loc4_3 loc4_4 => t18_h0 k rec n9 w10 t79 loc4_0 loc4_1 loc4_2 loc4_3 loc4_4
  | .h1 s0 at1 t85 t86 t87 loc4_0 loc4_1 loc4_2 loc4_3 loc4_4 => t18_h1 k rec s0 at1 t85 t86 t87 loc4_0 loc4_1 loc4_2 loc4_3 loc4_4
  | .h2 s0 at1 w12 t85 t86 t87 t108 loc4_0 loc4_1 loc4_2 loc4_3 loc4_4 => t18_h2 k rec s0 at1 w12 t85 t86 t87 t108 loc4_0 loc4_1 loc4_2 loc4_3 loc4_4
noncomputable def g18 (k : Nat) (s0 : ByteArray) (at1 : Int) : Option R18 := itS step18 k (.e s0 at1)
noncomputable def P18 : S18 → R18 → Prop
  | .e s0 at1, r => Fin cx18 Tryd.f18 [.code body18] (fr0 Tryd.f18 [.c (sc s0), .c (ic at1)] []) (res18 r) (bx18 r)
  | .h0 n9 w10 t79 loc4_0 loc4_1 loc4_2 loc4_3 loc4_4, r => Fin cx18 Tryd.f18 (kAt body18 [1, 1, 1, 1, 0, 1, 0, 1, 1, 0, 1, 2] []) ⟨rep 4 .deadv ++ [.c (.ptr ⟨⟨.loc 4, []⟩, 0, 0⟩)] ++ rep 4 .deadv ++ [.c (ic n9), .c (sc w10)] ++ rep 68 .deadv ++ [.c (bc t79)] ++ rep 35 .deadv, [(.loc 4, [ic loc4_0, sc loc4_1, ic loc4_2, ic loc4_3, ic loc4_4])]⟩ (res18 r) (bx18 r)
  | .h1 s0 at1 t85 t86 t87 loc4_0 loc4_1 loc4_2 loc4_3 loc4_4, r => Fin cx18 Tryd.f18 (kAt body18 [1, 1, 1, 1, 1, 0, 1, 0, 4] []) ⟨[.c (sc s0), .c (ic at1), .deadv, .deadv, .c (.ptr ⟨⟨.loc 4, []⟩, 0, 0⟩)] ++ rep 80 .deadv ++ [.c (.own 1 t85), .c (ic t86), .c (ic t87)] ++ rep 27 .deadv, [(.loc 4, [ic loc4_0, sc loc4_1, ic loc4_2, ic loc4_3, ic loc4_4])]⟩ (res18 r) (bx18 r)
  | .h2 s0 at1 w12 t85 t86 t87 t108 loc4_0 loc4_1 loc4_2 loc4_3 loc4_4, r => Fin cx18 Tryd.f18 (kAt body18 [1, 1, 1, 1, 1, 0, 1, 0, 0, 1, 1, 0, 0, 1, 1, 2] []) ⟨[.c (sc s0), .c (ic at1), .deadv, .deadv, .c (.ptr ⟨⟨.loc 4, []⟩, 0, 0⟩)] ++ rep 7 .deadv ++ [.c (sc w12)] ++ rep 72 .deadv ++ [.c (.own 1 t85), .c (ic t86), .c (ic t87)] ++ rep 20 .deadv ++ [.c (bc t108)] ++ rep 6 .deadv, [(.loc 4, [ic loc4_0, sc loc4_1, ic loc4_2, ic loc4_3, ic loc4_4])]⟩ (res18 r) (bx18 r)
theorem evr18 {s0 : ByteArray} {at1 : Int} {r : R18} (h : P18 (.e s0 at1) r) : Ev Tryd.prog noHand 18 [.c (sc s0), .c (ic at1)] [] (res18 r) (bx18 r) := ev_of_fin (fn := Tryd.f18) (body := body18) (by kernel_rfl) (by kernel_rfl) (by kernel_rfl) rfl h
theorem t18_e_ok (k : Nat) (rec : S18 → Option R18) (ih : ∀ s r, rec s = some r → P18 s r) (s0 : ByteArray) (at1 : Int) (r : R18) (h : t18_e k rec s0 at1 = some r) : P18 (.e s0 at1) r := by
  unfold t18_e at h
  obtain ⟨c_x1, h_x2, h⟩ := sxI_or h
  obtain ⟨v_x3, h_x4, h⟩ := bd_or h
  rcases bif_or h with ⟨hq, h1'⟩ | ⟨hq, h1'⟩
  · clear h; subst hq; have h := h1'; clear h1'
    obtain ⟨v_x5, h_x6, h⟩ := bd_or h
    obtain ⟨h_x7, h⟩ := gd_or h
    obtain ⟨v_x8, h_x9, h⟩ := bd_or h
    rcases bif_or h with ⟨hq, h1'⟩ | ⟨hq, h1'⟩
    · clear h; subst hq; have h := h1'; clear h1'
      rw [← Option.some.inj h]
      exact mgo_fin (nb := 0) hmix (n := 2000) (ad := [(some 15, .sidx c_x1), (some 17, .call (.ret (.c (bc true))) [] false), (some 20, .call (.ret (.c (ic v_x5))) [] false), (some 26, .ssl), (some 28, .call (.ret (.c (bc true))) [] false)]) (ps := [_, _, _, _, _]) (by kernel_rfl) ⟨h_x2, (ev28 h_x4), (ev29 h_x6), of_decide_eq_true h_x7, (ev30 h_x9), trivial⟩
    · clear h; subst hq; have h := h1'; clear h1'
      obtain ⟨v_x10, h_x11, h⟩ := bd_or h
      rcases bif_or h with ⟨hq, h1'⟩ | ⟨hq, h1'⟩
      · clear h; subst hq; have h := h1'; clear h1'
        rw [← Option.some.inj h]
        exact mgo_fin (nb := 0) hmix (n := 2000) (ad := [(some 15, .sidx c_x1), (some 17, .call (.ret (.c (bc true))) [] false), (some 20, .call (.ret (.c (ic v_x5))) [] false), (some 26, .ssl), (some 28, .call (.ret (.c (bc false))) [] false), (some 33, .call (.ret (.c (bc true))) [] false)]) (ps := [_, _, _, _, _, _]) (by kernel_rfl) ⟨h_x2, (ev28 h_x4), (ev29 h_x6), of_decide_eq_true h_x7, (ev30 h_x9), (ev31 h_x11), trivial⟩
      · clear h; subst hq; have h := h1'; clear h1'
        rw [← Option.some.inj h]
        exact mgo_fin (nb := 0) hmix (n := 2000) (ad := [(some 15, .sidx c_x1), (some 17, .call (.ret (.c (bc true))) [] false), (some 20, .call (.ret (.c (ic v_x5))) [] false), (some 26, .ssl), (some 28, .call (.ret (.c (bc false))) [] false), (some 33, .call (.ret (.c (bc false))) [] false)]) (ps := [_, _, _, _, _, _]) (by kernel_rfl) ⟨h_x2, (ev28 h_x4), (ev29 h_x6), of_decide_eq_true h_x7, (ev30 h_x9), (ev31 h_x11), trivial⟩
  · clear h; subst hq; have h := h1'; clear h1'
    obtain ⟨v_x5, h_x6, h⟩ := bd_or h
    rcases bif_or h with ⟨hq, h1'⟩ | ⟨hq, h1'⟩
    · clear h; subst hq; have h := h1'; clear h1'
      obtain ⟨v_x7, h_x8, h⟩ := bd_or h
      obtain ⟨r00_x9, r01_x9, r02_x9, r03_x9, r04_x9, r10_x9, hq, h1'⟩ := tup6_or h
      clear h; subst hq; have h := h1'; clear h1'
      rw [← Option.some.inj h]
      exact mgo_fin (nb := 0) hmix (n := 2000) (ad := [(some 15, .sidx c_x1), (some 17, .call (.ret (.c (bc false))) [] false), (some 39, .call (.ret (.c (bc true))) [] false), (some 42, .call (.ret ⟨.tup [true, false], [[ic r00_x9, sc r01_x9, ic r02_x9, ic r03_x9, ic r04_x9], [ic r10_x9]]⟩) [] false)]) (ps := [_, _, _, _]) (by kernel_rfl) ⟨h_x2, (ev28 h_x4), (ev32 h_x6), (ev33 h_x8), trivial⟩
    · clear h; subst hq; have h := h1'; clear h1'
      rcases bif_or h with ⟨h_x7, h⟩ | ⟨h_x7, h⟩
      ·
        obtain ⟨v_x8, h_x9, h⟩ := bd_or h
        obtain ⟨h_x10, h⟩ := gd_or h
        obtain ⟨v_x11, h_x12, h⟩ := bd_or h
        rcases bif_or h with ⟨h_x13, h⟩ | ⟨h_x13, h⟩
        ·
          exact mgo_at (nb := 0) hmix (ih _ _ h) (n := 25) (ad := [(some 15, .sidx c_x1), (some 17, .call (.ret (.c (bc false))) [] false), (some 39, .call (.ret (.c (bc false))) [] false), (some 46, .test true), (some 50, .call (.ret (.c (ic v_x8))) [] false), (some 58, .ssl), (some 60, .call (.ret (.c (bc v_x11))) [] false), (some 61, .test true)]) (ps := [_, _, _, _, _, _, _, _]) (m := bm 115 41538374867674158118436656046406127) (ls := []) (cs := []) (by kernel_rfl) ⟨h_x2, (ev28 h_x4), (ev32 h_x6), h_x7, (ev29 h_x9), of_decide_eq_true h_x10, (ev31 h_x12), h_x13, trivial⟩
        ·
          rcases bif_or h with ⟨h_x14, h⟩ | ⟨h_x14, h⟩
          ·
            exact mgo_at (nb := 0) hmix (ih _ _ h) (n := 25) (ad := [(some 15, .sidx c_x1), (some 17, .call (.ret (.c (bc false))) [] false), (some 39, .call (.ret (.c (bc false))) [] false), (some 46, .test true), (some 50, .call (.ret (.c (ic v_x8))) [] false), (some 58, .ssl), (some 60, .call (.ret (.c (bc v_x11))) [] false), (some 61, .test false), (some 69, .test true)]) (ps := [_, _, _, _, _, _, _, _, _]) (m := bm 115 41538374867674158118436656046406127) (ls := []) (cs := []) (by kernel_rfl) ⟨h_x2, (ev28 h_x4), (ev32 h_x6), h_x7, (ev29 h_x9), of_decide_eq_true h_x10, (ev31 h_x12), h_x13, h_x14, trivial⟩
          ·
            obtain ⟨c_x15, h_x16, h⟩ := sxI_or h
            exact mgo_at (nb := 0) hmix (ih _ _ h) (n := 25) (ad := [(some 15, .sidx c_x1), (some 17, .call (.ret (.c (bc false))) [] false), (some 39, .call (.ret (.c (bc false))) [] false), (some 46, .test true), (some 50, .call (.ret (.c (ic v_x8))) [] false), (some 58, .ssl), (some 60, .call (.ret (.c (bc v_x11))) [] false), (some 61, .test false), (some 69, .test false), (some 77, .sidx c_x15)]) (ps := [_, _, _, _, _, _, _, _, _, _]) (m := bm 115 41538374867674158118436656046406127) (ls := []) (cs := []) (by kernel_rfl) ⟨h_x2, (ev28 h_x4), (ev32 h_x6), h_x7, (ev29 h_x9), of_decide_eq_true h_x10, (ev31 h_x12), h_x13, h_x14, h_x16, trivial⟩
      ·
        exact mgo_at (nb := 0) hmix (ih _ _ h) (n := 24) (ad := [(some 15, .sidx c_x1), (some 17, .call (.ret (.c (bc false))) [] false), (some 39, .call (.ret (.c (bc false))) [] false), (some 46, .test false)]) (ps := [_, _, _, _]) (m := bm 115 41538374597479237434567035499577324) (ls := []) (cs := []) (by kernel_rfl) ⟨h_x2, (ev28 h_x4), (ev32 h_x6), h_x7, trivial⟩
theorem t18_h0_ok (k : Nat) (rec : S18 → Option R18) (ih : ∀ s r, rec s = some r → P18 s r) (n9 : Int) (w10 : ByteArray) (t79 : Bool) (loc4_0 : Int) (loc4_1 : ByteArray) (loc4_2 : Int) (loc4_3 : Int) (loc4_4 : Int) (r : R18) (h : t18_h0 k rec n9 w10 t79 loc4_0 loc4_1 loc4_2 loc4_3 loc4_4 = some r) : P18 (.h0 n9 w10 t79 loc4_0 loc4_1 loc4_2 loc4_3 loc4_4) r := by
  unfold t18_h0 at h
  rcases bif_or h with ⟨hq, h1'⟩ | ⟨hq, h1'⟩
  · clear h; subst hq; have h := h1'; clear h1'
    rw [← Option.some.inj h]
    exact mgo_fin (nb := 0) hmix (n := 2000) (ad := []) (ps := []) (by kernel_rfl) trivial
  · clear h; subst hq; have h := h1'; clear h1'
    rw [← Option.some.inj h]
    exact mgo_fin (nb := 0) hmix (n := 2000) (ad := []) (ps := []) (by kernel_rfl) trivial
theorem t18_h1_ok (k : Nat) (rec : S18 → Option R18) (ih : ∀ s r, rec s = some r → P18 s r) (s0 : ByteArray) (at1 : Int) (t85 : Rs) (t86 : Int) (t87 : Int) (loc4_0 : Int) (loc4_1 : ByteArray) (loc4_2 : Int) (loc4_3 : Int) (loc4_4 : Int) (r : R18) (h : t18_h1 k rec s0 at1 t85 t86 t87 loc4_0 loc4_1 loc4_2 loc4_3 loc4_4 = some r) : P18 (.h1 s0 at1 t85 t86 t87 loc4_0 loc4_1 loc4_2 loc4_3 loc4_4) r := by
  unfold t18_h1 at h
  rcases bif_or h with ⟨h_x1, h⟩ | ⟨h_x1, h⟩
  ·
    obtain ⟨w_x2, h_x3, h⟩ := ixR_or h
    obtain ⟨x_x4, hq, h1'⟩ := un_s_or h
    clear h; subst hq; have h := h1'; clear h1'
    rcases bif_or h with ⟨h_x5, h⟩ | ⟨h_x5, h⟩
    ·
      obtain ⟨h_x6, h⟩ := gd_or h
      exact mgo_at (nb := 0) hmix (ih _ _ h) (n := 12) (ad := [(some 88, .test true), (some 89, .bnd), (some 90, .ld [sc x_x4]), (some 97, .test true), (some 105, .ssl)]) (ps := [_, _, _, _, _]) (m := bm 115 41213856043820810707783879478996972) (ls := []) (cs := []) (by kernel_rfl) ⟨h_x1, ix_bnd h_x3, h_x3.2, h_x5, of_decide_eq_true h_x6, trivial⟩
    ·
      exact mgo_at (nb := 0) hmix (ih _ _ h) (n := 12) (ad := [(some 88, .test true), (some 89, .bnd), (some 90, .ld [sc x_x4]), (some 97, .test false)]) (ps := [_, _, _, _]) (m := bm 115 41213856043820810707783879478996972) (ls := []) (cs := []) (by kernel_rfl) ⟨h_x1, ix_bnd h_x3, h_x3.2, h_x5, trivial⟩
  ·
    rw [← Option.some.inj h]
    exact mgo_fin (nb := 0) hmix (n := 2000) (ad := [(some 88, .test false)]) (ps := [_]) (by kernel_rfl) ⟨h_x1, trivial⟩
theorem t18_h2_ok (k : Nat) (rec : S18 → Option R18) (ih : ∀ s r, rec s = some r → P18 s r) (s0 : ByteArray) (at1 : Int) (w12 : ByteArray) (t85 : Rs) (t86 : Int) (t87 : Int) (t108 : Bool) (loc4_0 : Int) (loc4_1 : ByteArray) (loc4_2 : Int) (loc4_3 : Int) (loc4_4 : Int) (r : R18) (h : t18_h2 k rec s0 at1 w12 t85 t86 t87 t108 loc4_0 loc4_1 loc4_2 loc4_3 loc4_4 = some r) : P18 (.h2 s0 at1 w12 t85 t86 t87 t108 loc4_0 loc4_1 loc4_2 loc4_3 loc4_4) r := by
  unfold t18_h2 at h
  rcases bif_or h with ⟨hq, h1'⟩ | ⟨hq, h1'⟩
  · clear h; subst hq; have h := h1'; clear h1'
    rw [← Option.some.inj h]
    exact mgo_fin (nb := 0) hmix (n := 2000) (ad := []) (ps := []) (by kernel_rfl) trivial
  · clear h; subst hq; have h := h1'; clear h1'
    exact mgo_at (nb := 0) hmix (ih _ _ h) (n := 4) (ad := []) (ps := []) (m := bm 115 41538374597479237434567035499577324) (ls := []) (cs := []) (by kernel_rfl) trivial
theorem ok18 : ∀ k s r, itS step18 k s = some r → P18 s r := itS_ok fun k rec ih s r h => match s, h with
  | .e s0 at1, h => t18_e_ok k rec ih s0 at1 r h
  | .h0 n9 w10 t79 loc4_0 loc4_1 loc4_2 loc4_3 loc4_4, h => t18_h0_ok k rec ih n9 w10 t79 loc4_0 loc4_1 loc4_2 loc4_3 loc4_4 r h
  | .h1 s0 at1 t85 t86 t87 loc4_0 loc4_1 loc4_2 loc4_3 loc4_4, h => t18_h1_ok k rec ih s0 at1 t85 t86 t87 loc4_0 loc4_1 loc4_2 loc4_3 loc4_4 r h
  | .h2 s0 at1 w12 t85 t86 t87 t108 loc4_0 loc4_1 loc4_2 loc4_3 loc4_4, h => t18_h2_ok k rec ih s0 at1 w12 t85 t86 t87 t108 loc4_0 loc4_1 loc4_2 loc4_3 loc4_4 r h
theorem ev18 {k : Nat} {s0 : ByteArray} {at1 : Int} {r : R18} (h : g18 k s0 at1 = some r) : Ev Tryd.prog noHand 18 [.c (sc s0), .c (ic at1)] [] (res18 r) (bx18 r) := evr18 (ok18 _ _ _ h)
-- auspice/auspiceref05.Scan
inductive S9 where
  | e (s0 : ByteArray)
  | h0 (t2 : Rs) (t3 : Int) (t4 : Int)
  | h1 (s0 : ByteArray) (l5 : Rs) (at6 : Int)
  | h2 (s0 : ByteArray) (l5 : Rs) (at6 : Int)
  | h3 (s0 : ByteArray) (l5 : Rs) (at6 : Int) (t21 : Bool)
  | h4 (t2 : Rs) (t3 : Int) (t4 : Int)
  | h5 (t2 : Rs) (t3 : Int) (t4 : Int)
abbrev R9 := Rs × Int × Int
def res9 : R9 → ARes
  | (r_00, r_10, r_20) => .ret ⟨.tup [false, false, false], [[.own 5 r_00], [ic r_10], [ic r_20]]⟩
def bx9 : R9 → List (List Cell)
  | (r_00, r_10, r_20) => []
noncomputable def t9_e (k : Nat) (rec : S9 → Option R9) (s0 : ByteArray) : Option R9 :=
  bif decide ((s0.size : Int) > 4000) then
    rec (.h0 [] 0 2)
  else
    rec (.h1 s0 [] 0)
noncomputable def t9_h0 (k : Nat) (rec : S9 → Option R9) (t2 : Rs) (t3 : Int) (t4 : Int) : Option R9 :=
  some (t2, t3, t4)
noncomputable def t9_h1 (k : Nat) (rec : S9 → Option R9) (s0 : ByteArray) (l5 : Rs) (at6 : Int) : Option R9 :=
  rec (.h2 s0 l5 at6)
noncomputable def t9_h2 (k : Nat) (rec : S9 → Option R9) (s0 : ByteArray) (l5 : Rs) (at6 : Int) : Option R9 :=
  bif decide (at6 < (s0.size : Int)) then
    sxI s0 at6 fun c_x2 =>
    (g13 k c_x2).bind fun v_x4 =>
    rec (.h3 s0 l5 at6 v_x4)
  else
    rec (.h3 s0 l5 at6 false)
noncomputable def t9_h3 (k : Nat) (rec : S9 → Option R9) (s0 : ByteArray) (l5 : Rs) (at6 : Int) (t21 : Bool) : Option R9 :=
  bif t21 then
    rec (.h2 s0 l5 (IntKind.i64.wrap (at6 + 1)))
  else
    bif at6 == (s0.size : Int) then
      gd (apOk 48 5 l5 [[ic 0, sc (strB []), ic 0, ic 0, ic at6]]) <|
      rec (.h4 (l5 ++ [[ic 0, sc (strB []), ic 0, ic 0, ic at6]]) 0 0)
    else
      (g18 k s0 at6).bind fun v_x2 =>
      tup6 v_x2 fun r00_x4 r01_x4 r02_x4 r03_x4 r04_x4 r10_x4 =>
      bif r10_x4 == 0 then
        rec (.h5 [] at6 12)
      else
        gd (apOk 48 5 l5 [[ic r00_x4, sc r01_x4, ic r02_x4, ic r03_x4, ic at6]]) <|
        rec (.h1 s0 (l5 ++ [[ic r00_x4, sc r01_x4, ic r02_x4, ic r03_x4, ic at6]]) (IntKind.i64.wrap (at6 + r10_x4)))
noncomputable def t9_h4 (k : Nat) (rec : S9 → Option R9) (t2 : Rs) (t3 : Int) (t4 : Int) : Option R9 :=
  some (t2, t3, t4)
noncomputable def t9_h5 (k : Nat) (rec : S9 → Option R9) (t2 : Rs) (t3 : Int) (t4 : Int) : Option R9 :=
  some (t2, t3, t4)
noncomputable def step9 (k : Nat) (rec : S9 → Option R9) : S9 → Option R9
  | .e s0 => t9_e k rec s0
  | .h0 t2 t3 t4 => t9_h0 k rec t2 t3 t4
  | .h1 s0 l5 at6 => t9_h1 k rec s0 l5 at6
  | .h2 s0 l5 at6 => t9_h2 k rec s0 l5 at6
  | .h3 s0 l5 at6 t21 => t9_h3 k rec s0 l5 at6 t21
  | .h4 t2 t3 t4 => t9_h4 k rec t2 t3 t4
  | .h5 t2 t3 t4 => t9_h5 k rec t2 t3 t4
noncomputable def g9 (k : Nat) (s0 : ByteArray) : Option R9 := itS step9 k (.e s0)
noncomputable def P9 : S9 → R9 → Prop
  | .e s0, r => Fin cx9 Tryd.f9 [.code body9] (fr0 Tryd.f9 [.c (sc s0)] []) (res9 r) (bx9 r)
  | .h0 t2 t3 t4, r => Fin cx9 Tryd.f9 (kAt body9 [1, 0, 1, 0, 1, 2] []) ⟨[.deadv, .deadv, .c (.own 5 t2), .c (ic t3), .c (ic t4)] ++ rep 46 .deadv, []⟩ (res9 r) (bx9 r)
  | .h1 s0 l5 at6, r => Fin cx9 Tryd.f9 (kAt body9 [1, 1, 1, 1, 0, 4] []) ⟨[.c (sc s0)] ++ rep 4 .deadv ++ [.c (.own 5 l5), .c (ic at6)] ++ rep 44 .deadv, []⟩ (res9 r) (bx9 r)
  | .h2 s0 l5 at6, r => Fin cx9 Tryd.f9 (kAt body9 [1, 1, 1, 1, 0, 0, 0, 0, 0, 4] []) ⟨[.c (sc s0)] ++ rep 4 .deadv ++ [.c (.own 5 l5), .c (ic at6)] ++ rep 44 .deadv, []⟩ (res9 r) (bx9 r)
  | .h3 s0 l5 at6 t21, r => Fin cx9 Tryd.f9 (kAt body9 [1, 1, 1, 1, 0, 0, 0, 0, 0, 0, 0, 1, 2] []) ⟨[.c (sc s0)] ++ rep 4 .deadv ++ [.c (.own 5 l5), .c (ic at6)] ++ rep 14 .deadv ++ [.c (bc t21)] ++ rep 29 .deadv, []⟩ (res9 r) (bx9 r)
  | .h4 t2 t3 t4, r => Fin cx9 Tryd.f9 (kAt body9 [1, 1, 1, 1, 0, 0, 0, 1, 0, 1, 0, 1, 2] []) ⟨[.deadv, .deadv, .c (.own 5 t2), .c (ic t3), .c (ic t4)] ++ rep 46 .deadv, []⟩ (res9 r) (bx9 r)
  | .h5 t2 t3 t4, r => Fin cx9 Tryd.f9 (kAt body9 [1, 1, 1, 1, 0, 0, 0, 1, 1, 1, 0, 1, 0, 1, 2] []) ⟨[.deadv, .deadv, .c (.own 5 t2), .c (ic t3), .c (ic t4)] ++ rep 46 .deadv, []⟩ (res9 r) (bx9 r)
theorem evr9 {s0 : ByteArray} {r : R9} (h : P9 (.e s0) r) : Ev Tryd.prog noHand 9 [.c (sc s0)] [] (res9 r) (bx9 r) := ev_of_fin (fn := Tryd.f9) (body := body9) (by kernel_rfl) (by kernel_rfl) (by kernel_rfl) rfl h
theorem t9_e_ok (k : Nat) (rec : S9 → Option R9) (ih : ∀ s r, rec s = some r → P9 s r) (s0 : ByteArray) (r : R9) (h : t9_e k rec s0 = some r) : P9 (.e s0) r := by
  unfold t9_e at h
  rcases bif_or h with ⟨h_x1, h⟩ | ⟨h_x1, h⟩
  ·
    exact mgo_at (nb := 0) hmix (ih _ _ h) (n := 8) (ad := [(some 11, .test true)]) (ps := [_]) (m := bm 51 2251799813685219) (ls := []) (cs := [(⟨⟨.slot 2, []⟩, 0, 0⟩, some 5)]) (by kernel_rfl) ⟨h_x1, trivial⟩
  ·
    exact mgo_at (nb := 0) hmix (ih _ _ h) (n := 13) (ad := [(some 11, .test false)]) (ps := [_]) (m := bm 51 2251799813685150) (ls := []) (cs := [(⟨⟨.slot 5, []⟩, 0, 0⟩, some 5)]) (by kernel_rfl) ⟨h_x1, trivial⟩
theorem t9_h0_ok (k : Nat) (rec : S9 → Option R9) (ih : ∀ s r, rec s = some r → P9 s r) (t2 : Rs) (t3 : Int) (t4 : Int) (r : R9) (h : t9_h0 k rec t2 t3 t4 = some r) : P9 (.h0 t2 t3 t4) r := by
  unfold t9_h0 at h
  rw [← Option.some.inj h]
  exact mgo_fin (nb := 0) hmix (n := 2000) (ad := []) (ps := []) (by kernel_rfl) trivial
theorem t9_h1_ok (k : Nat) (rec : S9 → Option R9) (ih : ∀ s r, rec s = some r → P9 s r) (s0 : ByteArray) (l5 : Rs) (at6 : Int) (r : R9) (h : t9_h1 k rec s0 l5 at6 = some r) : P9 (.h1 s0 l5 at6) r := by
  unfold t9_h1 at h
  exact mgo_at (nb := 0) hmix (ih _ _ h) (n := 5) (ad := []) (ps := []) (m := bm 51 2251799813685150) (ls := []) (cs := []) (by kernel_rfl) trivial
theorem t9_h2_ok (k : Nat) (rec : S9 → Option R9) (ih : ∀ s r, rec s = some r → P9 s r) (s0 : ByteArray) (l5 : Rs) (at6 : Int) (r : R9) (h : t9_h2 k rec s0 l5 at6 = some r) : P9 (.h2 s0 l5 at6) r := by
  unfold t9_h2 at h
  rcases bif_or h with ⟨h_x1, h⟩ | ⟨h_x1, h⟩
  ·
    obtain ⟨c_x2, h_x3, h⟩ := sxI_or h
    obtain ⟨v_x4, h_x5, h⟩ := bd_or h
    exact mgo_at (nb := 0) hmix (ih _ _ h) (n := 4) (ad := [(some 15, .test true), (some 19, .sidx c_x2), (some 20, .call (.ret (.c (bc v_x4))) [] false)]) (ps := [_, _, _]) (m := bm 51 2251799811587998) (ls := []) (cs := []) (by kernel_rfl) ⟨h_x1, h_x3, (ev13 h_x5), trivial⟩
  ·
    exact mgo_at (nb := 0) hmix (ih _ _ h) (n := 4) (ad := [(some 15, .test false)]) (ps := [_]) (m := bm 51 2251799811587998) (ls := []) (cs := []) (by kernel_rfl) ⟨h_x1, trivial⟩
theorem t9_h3_ok (k : Nat) (rec : S9 → Option R9) (ih : ∀ s r, rec s = some r → P9 s r) (s0 : ByteArray) (l5 : Rs) (at6 : Int) (t21 : Bool) (r : R9) (h : t9_h3 k rec s0 l5 at6 t21 = some r) : P9 (.h3 s0 l5 at6 t21) r := by
  unfold t9_h3 at h
  rcases bif_or h with ⟨hq, h1'⟩ | ⟨hq, h1'⟩
  · clear h; subst hq; have h := h1'; clear h1'
    exact mgo_at (nb := 0) hmix (ih _ _ h) (n := 5) (ad := []) (ps := []) (m := bm 51 2251799813685150) (ls := []) (cs := []) (by kernel_rfl) trivial
  · clear h; subst hq; have h := h1'; clear h1'
    rcases bif_or h with ⟨h_x1, h⟩ | ⟨h_x1, h⟩
    ·
      obtain ⟨h_x2, h⟩ := gd_or h
      exact mgo_at (nb := 0) hmix (ih _ _ h) (n := 8) (ad := [(some 27, .test true), (some 32, .okE false)]) (ps := [_, _]) (m := bm 51 2251799813685219) (ls := []) (cs := []) (by kernel_rfl) ⟨h_x1, okF [[ic 0, sc (strB []), ic 0, ic 0, ic at6]] h_x2, trivial⟩
    ·
      obtain ⟨v_x2, h_x3, h⟩ := bd_or h
      obtain ⟨r00_x4, r01_x4, r02_x4, r03_x4, r04_x4, r10_x4, hq, h1'⟩ := tup6_or h
      clear h; subst hq; have h := h1'; clear h1'
      rcases bif_or h with ⟨h_x5, h⟩ | ⟨h_x5, h⟩
      ·
        exact mgo_at (nb := 0) hmix (ih _ _ h) (n := 15) (ad := [(some 27, .test false), (some 36, .call (.ret ⟨.tup [true, false], [[ic r00_x4, sc r01_x4, ic r02_x4, ic r03_x4, ic r04_x4], [ic r10_x4]]⟩) [] false), (some 40, .test true)]) (ps := [_, _, _]) (m := bm 51 2251799813685219) (ls := [7]) (cs := [(⟨⟨.slot 2, []⟩, 0, 0⟩, some 5)]) (by kernel_rfl) ⟨h_x1, (ev18 h_x3), h_x5, trivial⟩
      ·
        obtain ⟨h_x6, h⟩ := gd_or h
        exact mgo_at (nb := 0) hmix (ih _ _ h) (n := 20) (ad := [(some 27, .test false), (some 36, .call (.ret ⟨.tup [true, false], [[ic r00_x4, sc r01_x4, ic r02_x4, ic r03_x4, ic r04_x4], [ic r10_x4]]⟩) [] false), (some 40, .test false), (some 47, .okE false)]) (ps := [_, _, _, _]) (m := bm 51 2251799813685150) (ls := [7]) (cs := []) (by kernel_rfl) ⟨h_x1, (ev18 h_x3), h_x5, okF [[ic r00_x4, sc r01_x4, ic r02_x4, ic r03_x4, ic at6]] h_x6, trivial⟩
theorem t9_h4_ok (k : Nat) (rec : S9 → Option R9) (ih : ∀ s r, rec s = some r → P9 s r) (t2 : Rs) (t3 : Int) (t4 : Int) (r : R9) (h : t9_h4 k rec t2 t3 t4 = some r) : P9 (.h4 t2 t3 t4) r := by
  unfold t9_h4 at h
  rw [← Option.some.inj h]
  exact mgo_fin (nb := 0) hmix (n := 2000) (ad := []) (ps := []) (by kernel_rfl) trivial
theorem t9_h5_ok (k : Nat) (rec : S9 → Option R9) (ih : ∀ s r, rec s = some r → P9 s r) (t2 : Rs) (t3 : Int) (t4 : Int) (r : R9) (h : t9_h5 k rec t2 t3 t4 = some r) : P9 (.h5 t2 t3 t4) r := by
  unfold t9_h5 at h
  rw [← Option.some.inj h]
  exact mgo_fin (nb := 0) hmix (n := 2000) (ad := []) (ps := []) (by kernel_rfl) trivial
theorem ok9 : ∀ k s r, itS step9 k s = some r → P9 s r := itS_ok fun k rec ih s r h => match s, h with
  | .e s0, h => t9_e_ok k rec ih s0 r h
  | .h0 t2 t3 t4, h => t9_h0_ok k rec ih t2 t3 t4 r h
  | .h1 s0 l5 at6, h => t9_h1_ok k rec ih s0 l5 at6 r h
  | .h2 s0 l5 at6, h => t9_h2_ok k rec ih s0 l5 at6 r h
  | .h3 s0 l5 at6 t21, h => t9_h3_ok k rec ih s0 l5 at6 t21 r h
  | .h4 t2 t3 t4, h => t9_h4_ok k rec ih t2 t3 t4 r h
  | .h5 t2 t3 t4, h => t9_h5_ok k rec ih t2 t3 t4 r h
theorem ev9 {k : Nat} {s0 : ByteArray} {r : R9} (h : g9 k s0 = some r) : Ev Tryd.prog noHand 9 [.c (sc s0)] [] (res9 r) (bx9 r) := evr9 (ok9 _ _ _ h)
-- auspice/auspicelaw05.awake
inductive S10 where
  | e
abbrev R10 := Bool
def res10 : R10 → ARes
  | r => .ret (.c (bc r))
def bx10 : R10 → List (List Cell)
  | r => []
noncomputable def t10_e (k : Nat) (rec : S10 → Option R10) : Option R10 :=
  (g8 k (strB [97, 60, 61, 49, 46, 53, 48])).bind fun v_x1 =>
  altC v_x1 (fun v_x3 => 
      tup3 v_x3 fun r00_x4 r10_x4 r20_x4 =>
      bif r20_x4 == 0 then
        bif r10_x4 == 0 then
          bif (r00_x4.length : Int) == 4 then
            ixR r00_x4 1 fun w_x8 =>
            un_isi3 w_x8 fun kind_x10 text_x10 n_x10 scale_x10 at_x10 =>
            bif text_x10.toList == (strB [60, 61]).toList then
              ixR r00_x4 2 fun w_x12 =>
              un_isi3 w_x12 fun kind_x14 text_x14 n_x14 scale_x14 at_x14 =>
              bif n_x14 == 150 then
                bif scale_x14 == 2 then
                  ixR r00_x4 3 fun w_x17 =>
                  un_isi3 w_x17 fun kind_x19 text_x19 n_x19 scale_x19 at_x19 =>
                  some (at_x19 == 7)
                else
                  some false
              else
                some false
            else
              some false
          else
            some false
        else
          some false
      else
        some false) (fun v_x3 => 
      tup2 v_x3 fun r10_x4 r20_x4 =>
      bif r20_x4 == 0 then
        bif r10_x4 == 0 then
          some false
        else
          some false
      else
        some false)
noncomputable def step10 (k : Nat) (rec : S10 → Option R10) : S10 → Option R10
  | .e => t10_e k rec
noncomputable def g10 (k : Nat) : Option R10 := itS step10 k (.e)
noncomputable def P10 : S10 → R10 → Prop
  | .e, r => Fin cx10 Tryd.f10 [.code body10] (fr0 Tryd.f10 [] []) (res10 r) (bx10 r)
theorem evr10 {r : R10} (h : P10 (.e) r) : Ev Tryd.prog noHand 10 [] [] (res10 r) (bx10 r) := ev_of_fin (fn := Tryd.f10) (body := body10) (by kernel_rfl) (by kernel_rfl) (by kernel_rfl) rfl h
theorem t10_e_ok (k : Nat) (rec : S10 → Option R10) (ih : ∀ s r, rec s = some r → P10 s r) (r : R10) (h : t10_e k rec = some r) : P10 (.e) r := by
  unfold t10_e at h
  obtain ⟨v_x1, h_x2, h⟩ := bd_or h
  rcases altC_or h with ⟨v_x3, hq, h1'⟩ | ⟨v_x3, hq, h1'⟩
  · clear h; subst hq; have h := h1'; clear h1'
    obtain ⟨r00_x4, r10_x4, r20_x4, hq, h1'⟩ := tup3_or h
    clear h; subst hq; have h := h1'; clear h1'
    rcases bif_or h with ⟨h_x5, h⟩ | ⟨h_x5, h⟩
    ·
      rcases bif_or h with ⟨h_x6, h⟩ | ⟨h_x6, h⟩
      ·
        rcases bif_or h with ⟨h_x7, h⟩ | ⟨h_x7, h⟩
        ·
          obtain ⟨w_x8, h_x9, h⟩ := ixR_or h
          obtain ⟨kind_x10, text_x10, n_x10, scale_x10, at_x10, hq, h1'⟩ := un_isi3_or h
          clear h; subst hq; have h := h1'; clear h1'
          rcases bif_or h with ⟨h_x11, h⟩ | ⟨h_x11, h⟩
          ·
            obtain ⟨w_x12, h_x13, h⟩ := ixR_or h
            obtain ⟨kind_x14, text_x14, n_x14, scale_x14, at_x14, hq, h1'⟩ := un_isi3_or h
            clear h; subst hq; have h := h1'; clear h1'
            rcases bif_or h with ⟨h_x15, h⟩ | ⟨h_x15, h⟩
            ·
              rcases bif_or h with ⟨h_x16, h⟩ | ⟨h_x16, h⟩
              ·
                obtain ⟨w_x17, h_x18, h⟩ := ixR_or h
                obtain ⟨kind_x19, text_x19, n_x19, scale_x19, at_x19, hq, h1'⟩ := un_isi3_or h
                clear h; subst hq; have h := h1'; clear h1'
                rw [← Option.some.inj h]
                exact mgo_fin (nb := 0) hmix (n := 2000) (ad := [(some 5, .call (.ret ⟨.tup [false, false, false], [[.imm r00_x4], [ic r10_x4], [ic r20_x4]]⟩) [] false), (some 10, .test true), (some 13, .test true), (some 18, .test true), (some 22, .row [ic kind_x10, sc text_x10, ic n_x10, ic scale_x10, ic at_x10]), (some 25, .test true), (some 29, .row [ic kind_x14, sc text_x14, ic n_x14, ic scale_x14, ic at_x14]), (some 32, .test true), (some 36, .row [ic kind_x14, sc text_x14, ic n_x14, ic scale_x14, ic at_x14]), (some 39, .test true), (some 43, .row [ic kind_x19, sc text_x19, ic n_x19, ic scale_x19, ic at_x19])]) (ps := [_, _, _, _, _, _, _, _, _, _, _]) (by kernel_rfl) ⟨(ev8 h_x2), h_x5, h_x6, h_x7, ix_row h_x9 rfl, h_x11, ix_row h_x13 rfl, h_x15, ix_row h_x13 rfl, h_x16, ix_row h_x18 rfl, trivial⟩
              ·
                rw [← Option.some.inj h]
                exact mgo_fin (nb := 0) hmix (n := 2000) (ad := [(some 5, .call (.ret ⟨.tup [false, false, false], [[.imm r00_x4], [ic r10_x4], [ic r20_x4]]⟩) [] false), (some 10, .test true), (some 13, .test true), (some 18, .test true), (some 22, .row [ic kind_x10, sc text_x10, ic n_x10, ic scale_x10, ic at_x10]), (some 25, .test true), (some 29, .row [ic kind_x14, sc text_x14, ic n_x14, ic scale_x14, ic at_x14]), (some 32, .test true), (some 36, .row [ic kind_x14, sc text_x14, ic n_x14, ic scale_x14, ic at_x14]), (some 39, .test false)]) (ps := [_, _, _, _, _, _, _, _, _, _]) (by kernel_rfl) ⟨(ev8 h_x2), h_x5, h_x6, h_x7, ix_row h_x9 rfl, h_x11, ix_row h_x13 rfl, h_x15, ix_row h_x13 rfl, h_x16, trivial⟩
            ·
              rw [← Option.some.inj h]
              exact mgo_fin (nb := 0) hmix (n := 2000) (ad := [(some 5, .call (.ret ⟨.tup [false, false, false], [[.imm r00_x4], [ic r10_x4], [ic r20_x4]]⟩) [] false), (some 10, .test true), (some 13, .test true), (some 18, .test true), (some 22, .row [ic kind_x10, sc text_x10, ic n_x10, ic scale_x10, ic at_x10]), (some 25, .test true), (some 29, .row [ic kind_x14, sc text_x14, ic n_x14, ic scale_x14, ic at_x14]), (some 32, .test false)]) (ps := [_, _, _, _, _, _, _, _]) (by kernel_rfl) ⟨(ev8 h_x2), h_x5, h_x6, h_x7, ix_row h_x9 rfl, h_x11, ix_row h_x13 rfl, h_x15, trivial⟩
          ·
            rw [← Option.some.inj h]
            exact mgo_fin (nb := 0) hmix (n := 2000) (ad := [(some 5, .call (.ret ⟨.tup [false, false, false], [[.imm r00_x4], [ic r10_x4], [ic r20_x4]]⟩) [] false), (some 10, .test true), (some 13, .test true), (some 18, .test true), (some 22, .row [ic kind_x10, sc text_x10, ic n_x10, ic scale_x10, ic at_x10]), (some 25, .test false)]) (ps := [_, _, _, _, _, _]) (by kernel_rfl) ⟨(ev8 h_x2), h_x5, h_x6, h_x7, ix_row h_x9 rfl, h_x11, trivial⟩
        ·
          rw [← Option.some.inj h]
          exact mgo_fin (nb := 0) hmix (n := 2000) (ad := [(some 5, .call (.ret ⟨.tup [false, false, false], [[.imm r00_x4], [ic r10_x4], [ic r20_x4]]⟩) [] false), (some 10, .test true), (some 13, .test true), (some 18, .test false)]) (ps := [_, _, _, _]) (by kernel_rfl) ⟨(ev8 h_x2), h_x5, h_x6, h_x7, trivial⟩
      ·
        rw [← Option.some.inj h]
        exact mgo_fin (nb := 0) hmix (n := 2000) (ad := [(some 5, .call (.ret ⟨.tup [false, false, false], [[.imm r00_x4], [ic r10_x4], [ic r20_x4]]⟩) [] false), (some 10, .test true), (some 13, .test false)]) (ps := [_, _, _]) (by kernel_rfl) ⟨(ev8 h_x2), h_x5, h_x6, trivial⟩
    ·
      rw [← Option.some.inj h]
      exact mgo_fin (nb := 0) hmix (n := 2000) (ad := [(some 5, .call (.ret ⟨.tup [false, false, false], [[.imm r00_x4], [ic r10_x4], [ic r20_x4]]⟩) [] false), (some 10, .test false)]) (ps := [_, _]) (by kernel_rfl) ⟨(ev8 h_x2), h_x5, trivial⟩
  · clear h; subst hq; have h := h1'; clear h1'
    obtain ⟨r10_x4, r20_x4, hq, h1'⟩ := tup2_or h
    clear h; subst hq; have h := h1'; clear h1'
    rcases bif_or h with ⟨h_x5, h⟩ | ⟨h_x5, h⟩
    ·
      rcases bif_or h with ⟨h_x6, h⟩ | ⟨h_x6, h⟩
      ·
        rw [← Option.some.inj h]
        exact mgo_fin (nb := 0) hmix (n := 2000) (ad := [(some 5, .call (.ret ⟨.tup [false, false, false], [[.nil], [ic r10_x4], [ic r20_x4]]⟩) [] false), (some 10, .test true), (some 13, .test true)]) (ps := [_, _, _]) (by kernel_rfl) ⟨(ev8 h_x2), h_x5, h_x6, trivial⟩
      ·
        rw [← Option.some.inj h]
        exact mgo_fin (nb := 0) hmix (n := 2000) (ad := [(some 5, .call (.ret ⟨.tup [false, false, false], [[.nil], [ic r10_x4], [ic r20_x4]]⟩) [] false), (some 10, .test true), (some 13, .test false)]) (ps := [_, _, _]) (by kernel_rfl) ⟨(ev8 h_x2), h_x5, h_x6, trivial⟩
    ·
      rw [← Option.some.inj h]
      exact mgo_fin (nb := 0) hmix (n := 2000) (ad := [(some 5, .call (.ret ⟨.tup [false, false, false], [[.nil], [ic r10_x4], [ic r20_x4]]⟩) [] false), (some 10, .test false)]) (ps := [_, _]) (by kernel_rfl) ⟨(ev8 h_x2), h_x5, trivial⟩
theorem ok10 : ∀ k s r, itS step10 k s = some r → P10 s r := itS_ok fun k rec ih s r h => match s, h with
  | .e, h => t10_e_ok k rec ih r h
theorem ev10 {k : Nat} {r : R10} (h : g10 k = some r) : Ev Tryd.prog noHand 10 [] [] (res10 r) (bx10 r) := evr10 (ok10 _ _ _ h)
-- auspice/auspicelaw05.same
inductive S11 where
  | e (a0 : Rs) (b1 : Rs)
  | h0 (b1 : Rs) (t12 : Rs) (t13 : Int) (t14 : Int)
abbrev R11 := Bool
def res11 : R11 → ARes
  | r => .ret (.c (bc r))
def bx11 : R11 → List (List Cell)
  | r => []
noncomputable def t11_e (k : Nat) (rec : S11 → Option R11) (a0 : Rs) (b1 : Rs) : Option R11 :=
  bif (a0.length : Int) != (b1.length : Int) then
    some false
  else
    rec (.h0 b1 a0 (a0.length : Int) 0)
noncomputable def t11_h0 (k : Nat) (rec : S11 → Option R11) (b1 : Rs) (t12 : Rs) (t13 : Int) (t14 : Int) : Option R11 :=
  bif decide (t14 < t13) then
    ixR t12 t14 fun w_x2 =>
    un_isi3 w_x2 fun kind_x4 text_x4 n_x4 scale_x4 at_x4 =>
    ixR b1 t14 fun w_x5 =>
    un_isi3 w_x5 fun kind_x7 text_x7 n_x7 scale_x7 at_x7 =>
    bif !(kind_x4 == kind_x7 && (text_x4.toList == text_x7.toList && (n_x4 == n_x7 && (scale_x4 == scale_x7 && (at_x4 == at_x7 && true))))) then
      some false
    else
      rec (.h0 b1 t12 t13 (IntKind.i64.wrap (t14 + 1)))
  else
    some true
noncomputable def step11 (k : Nat) (rec : S11 → Option R11) : S11 → Option R11
  | .e a0 b1 => t11_e k rec a0 b1
  | .h0 b1 t12 t13 t14 => t11_h0 k rec b1 t12 t13 t14
noncomputable def g11 (k : Nat) (a0 : Rs) (b1 : Rs) : Option R11 := itS step11 k (.e a0 b1)
noncomputable def P11 : S11 → R11 → Prop
  | .e a0 b1, r => Fin cx11 Tryd.f11 [.code body11] (fr0 Tryd.f11 [.c (.imm a0), .c (.imm b1)] []) (res11 r) (bx11 r)
  | .h0 b1 t12 t13 t14, r => Fin cx11 Tryd.f11 (kAt body11 [1, 1, 0, 1, 0, 4] []) ⟨[.deadv, .c (.imm b1)] ++ rep 10 .deadv ++ [.c (.imm t12), .c (ic t13), .c (ic t14)] ++ rep 21 .deadv, []⟩ (res11 r) (bx11 r)
theorem evr11 {a0 : Rs} {b1 : Rs} {r : R11} (h : P11 (.e a0 b1) r) : Ev Tryd.prog noHand 11 [.c (.imm a0), .c (.imm b1)] [] (res11 r) (bx11 r) := ev_of_fin (fn := Tryd.f11) (body := body11) (by kernel_rfl) (by kernel_rfl) (by kernel_rfl) rfl h
theorem t11_e_ok (k : Nat) (rec : S11 → Option R11) (ih : ∀ s r, rec s = some r → P11 s r) (a0 : Rs) (b1 : Rs) (r : R11) (h : t11_e k rec a0 b1 = some r) : P11 (.e a0 b1) r := by
  unfold t11_e at h
  rcases bif_or h with ⟨h_x1, h⟩ | ⟨h_x1, h⟩
  ·
    rw [← Option.some.inj h]
    exact mgo_fin (nb := 0) hmix (n := 2000) (ad := [(some 11, .test true)]) (ps := [_]) (by kernel_rfl) ⟨h_x1, trivial⟩
  ·
    exact mgo_at (nb := 0) hmix (ih _ _ h) (n := 12) (ad := [(some 11, .test false)]) (ps := [_]) (m := bm 36 68719448061) (ls := []) (cs := []) (by kernel_rfl) ⟨h_x1, trivial⟩
theorem t11_h0_ok (k : Nat) (rec : S11 → Option R11) (ih : ∀ s r, rec s = some r → P11 s r) (b1 : Rs) (t12 : Rs) (t13 : Int) (t14 : Int) (r : R11) (h : t11_h0 k rec b1 t12 t13 t14 = some r) : P11 (.h0 b1 t12 t13 t14) r := by
  unfold t11_h0 at h
  rcases bif_or h with ⟨h_x1, h⟩ | ⟨h_x1, h⟩
  ·
    obtain ⟨w_x2, h_x3, h⟩ := ixR_or h
    obtain ⟨kind_x4, text_x4, n_x4, scale_x4, at_x4, hq, h1'⟩ := un_isi3_or h
    clear h; subst hq; have h := h1'; clear h1'
    obtain ⟨w_x5, h_x6, h⟩ := ixR_or h
    obtain ⟨kind_x7, text_x7, n_x7, scale_x7, at_x7, hq, h1'⟩ := un_isi3_or h
    clear h; subst hq; have h := h1'; clear h1'
    rcases bif_or h with ⟨h_x8, h⟩ | ⟨h_x8, h⟩
    ·
      rw [← Option.some.inj h]
      exact mgo_fin (nb := 0) hmix (n := 2000) (ad := [(some 15, .test true), (some 17, .row [ic kind_x4, sc text_x4, ic n_x4, ic scale_x4, ic at_x4]), (some 32, .row [ic kind_x7, sc text_x7, ic n_x7, ic scale_x7, ic at_x7]), (some 34, .test true)]) (ps := [_, _, _, _]) (by kernel_rfl) ⟨h_x1, ix_row h_x3 rfl, ix_row h_x6 rfl, h_x8, trivial⟩
    ·
      exact mgo_at (nb := 0) hmix (ih _ _ h) (n := 16) (ad := [(some 15, .test true), (some 17, .row [ic kind_x4, sc text_x4, ic n_x4, ic scale_x4, ic at_x4]), (some 32, .row [ic kind_x7, sc text_x7, ic n_x7, ic scale_x7, ic at_x7]), (some 34, .test false)]) (ps := [_, _, _, _]) (m := bm 36 68719448061) (ls := [6]) (cs := []) (by kernel_rfl) ⟨h_x1, ix_row h_x3 rfl, ix_row h_x6 rfl, h_x8, trivial⟩
  ·
    rw [← Option.some.inj h]
    exact mgo_fin (nb := 0) hmix (n := 2000) (ad := [(some 15, .test false)]) (ps := [_]) (by kernel_rfl) ⟨h_x1, trivial⟩
theorem ok11 : ∀ k s r, itS step11 k s = some r → P11 s r := itS_ok fun k rec ih s r h => match s, h with
  | .e a0 b1, h => t11_e_ok k rec ih a0 b1 r h
  | .h0 b1 t12 t13 t14, h => t11_h0_ok k rec ih b1 t12 t13 t14 r h
theorem ev11 {k : Nat} {a0 : Rs} {b1 : Rs} {r : R11} (h : g11 k a0 b1 = some r) : Ev Tryd.prog noHand 11 [.c (.imm a0), .c (.imm b1)] [] (res11 r) (bx11 r) := evr11 (ok11 _ _ _ h)
-- auspice/auspicelaw05.LexScans
inductive S3 where
  | e (s0 : ByteArray)
abbrev R3 := Bool
def res3 : R3 → ARes
  | r => .ret (.c (bc r))
def bx3 : R3 → List (List Cell)
  | r => []
noncomputable def t3_e (k : Nat) (rec : S3 → Option R3) (s0 : ByteArray) : Option R3 :=
  (g8 k s0).bind fun v_x1 =>
  altC v_x1 (fun v_x3 => 
      tup3 v_x3 fun r00_x4 r10_x4 r20_x4 =>
      (g9 k s0).bind fun v_x5 =>
      tup3 v_x5 fun r00_x7 r10_x7 r20_x7 =>
      (g10 k).bind fun v_x8 =>
      bif v_x8 then
        (g11 k r00_x4 (immRs r00_x7)).bind fun v_x10 =>
        bif v_x10 then
          bif r10_x4 == r10_x7 then
            some (r20_x4 == r20_x7)
          else
            some false
        else
          some false
      else
        some false) (fun v_x3 => 
      tup2 v_x3 fun r10_x4 r20_x4 =>
      (g9 k s0).bind fun v_x5 =>
      tup3 v_x5 fun r00_x7 r10_x7 r20_x7 =>
      (g10 k).bind fun v_x8 =>
      bif v_x8 then
        (g11 k [] (immRs r00_x7)).bind fun v_x10 =>
        bif v_x10 then
          bif r10_x4 == r10_x7 then
            some (r20_x4 == r20_x7)
          else
            some false
        else
          some false
      else
        some false)
noncomputable def step3 (k : Nat) (rec : S3 → Option R3) : S3 → Option R3
  | .e s0 => t3_e k rec s0
noncomputable def g3 (k : Nat) (s0 : ByteArray) : Option R3 := itS step3 k (.e s0)
noncomputable def P3 : S3 → R3 → Prop
  | .e s0, r => Fin cx3 Tryd.f3 [.code body3] (fr0 Tryd.f3 [.c (sc s0)] []) (res3 r) (bx3 r)
theorem evr3 {s0 : ByteArray} {r : R3} (h : P3 (.e s0) r) : Ev Tryd.prog noHand 3 [.c (sc s0)] [] (res3 r) (bx3 r) := ev_of_fin (fn := Tryd.f3) (body := body3) (by kernel_rfl) (by kernel_rfl) (by kernel_rfl) rfl h
theorem t3_e_ok (k : Nat) (rec : S3 → Option R3) (ih : ∀ s r, rec s = some r → P3 s r) (s0 : ByteArray) (r : R3) (h : t3_e k rec s0 = some r) : P3 (.e s0) r := by
  unfold t3_e at h
  obtain ⟨v_x1, h_x2, h⟩ := bd_or h
  rcases altC_or h with ⟨v_x3, hq, h1'⟩ | ⟨v_x3, hq, h1'⟩
  · clear h; subst hq; have h := h1'; clear h1'
    obtain ⟨r00_x4, r10_x4, r20_x4, hq, h1'⟩ := tup3_or h
    clear h; subst hq; have h := h1'; clear h1'
    obtain ⟨v_x5, h_x6, h⟩ := bd_or h
    obtain ⟨r00_x7, r10_x7, r20_x7, hq, h1'⟩ := tup3_or h
    clear h; subst hq; have h := h1'; clear h1'
    obtain ⟨v_x8, h_x9, h⟩ := bd_or h
    rcases bif_or h with ⟨hq, h1'⟩ | ⟨hq, h1'⟩
    · clear h; subst hq; have h := h1'; clear h1'
      obtain ⟨v_x10, h_x11, h⟩ := bd_or h
      rcases bif_or h with ⟨hq, h1'⟩ | ⟨hq, h1'⟩
      · clear h; subst hq; have h := h1'; clear h1'
        rcases bif_or h with ⟨h_x12, h⟩ | ⟨h_x12, h⟩
        ·
          rw [← Option.some.inj h]
          exact mgo_fin (nb := 0) hmix (n := 2000) (ad := [(some 11, .call (.ret ⟨.tup [false, false, false], [[.imm r00_x4], [ic r10_x4], [ic r20_x4]]⟩) [] false), (some 17, .call (.ret ⟨.tup [false, false, false], [[.own 5 r00_x7], [ic r10_x7], [ic r20_x7]]⟩) [] false), (some 21, .call (.ret (.c (bc true))) [] false), (some 25, .call (.ret (.c (bc true))) [] true), (some 30, .test true)]) (ps := [_, _, _, _, _, _]) (by kernel_rfl) ⟨(ev8 h_x2), (ev9 h_x6), (ev10 h_x9), (ev11 h_x11), (rfl : true = true), h_x12, trivial⟩
        ·
          rw [← Option.some.inj h]
          exact mgo_fin (nb := 0) hmix (n := 2000) (ad := [(some 11, .call (.ret ⟨.tup [false, false, false], [[.imm r00_x4], [ic r10_x4], [ic r20_x4]]⟩) [] false), (some 17, .call (.ret ⟨.tup [false, false, false], [[.own 5 r00_x7], [ic r10_x7], [ic r20_x7]]⟩) [] false), (some 21, .call (.ret (.c (bc true))) [] false), (some 25, .call (.ret (.c (bc true))) [] true), (some 30, .test false)]) (ps := [_, _, _, _, _, _]) (by kernel_rfl) ⟨(ev8 h_x2), (ev9 h_x6), (ev10 h_x9), (ev11 h_x11), (rfl : true = true), h_x12, trivial⟩
      · clear h; subst hq; have h := h1'; clear h1'
        rw [← Option.some.inj h]
        exact mgo_fin (nb := 0) hmix (n := 2000) (ad := [(some 11, .call (.ret ⟨.tup [false, false, false], [[.imm r00_x4], [ic r10_x4], [ic r20_x4]]⟩) [] false), (some 17, .call (.ret ⟨.tup [false, false, false], [[.own 5 r00_x7], [ic r10_x7], [ic r20_x7]]⟩) [] false), (some 21, .call (.ret (.c (bc true))) [] false), (some 25, .call (.ret (.c (bc false))) [] true)]) (ps := [_, _, _, _, _]) (by kernel_rfl) ⟨(ev8 h_x2), (ev9 h_x6), (ev10 h_x9), (ev11 h_x11), (rfl : true = true), trivial⟩
    · clear h; subst hq; have h := h1'; clear h1'
      rw [← Option.some.inj h]
      exact mgo_fin (nb := 0) hmix (n := 2000) (ad := [(some 11, .call (.ret ⟨.tup [false, false, false], [[.imm r00_x4], [ic r10_x4], [ic r20_x4]]⟩) [] false), (some 17, .call (.ret ⟨.tup [false, false, false], [[.own 5 r00_x7], [ic r10_x7], [ic r20_x7]]⟩) [] false), (some 21, .call (.ret (.c (bc false))) [] false)]) (ps := [_, _, _]) (by kernel_rfl) ⟨(ev8 h_x2), (ev9 h_x6), (ev10 h_x9), trivial⟩
  · clear h; subst hq; have h := h1'; clear h1'
    obtain ⟨r10_x4, r20_x4, hq, h1'⟩ := tup2_or h
    clear h; subst hq; have h := h1'; clear h1'
    obtain ⟨v_x5, h_x6, h⟩ := bd_or h
    obtain ⟨r00_x7, r10_x7, r20_x7, hq, h1'⟩ := tup3_or h
    clear h; subst hq; have h := h1'; clear h1'
    obtain ⟨v_x8, h_x9, h⟩ := bd_or h
    rcases bif_or h with ⟨hq, h1'⟩ | ⟨hq, h1'⟩
    · clear h; subst hq; have h := h1'; clear h1'
      obtain ⟨v_x10, h_x11, h⟩ := bd_or h
      rcases bif_or h with ⟨hq, h1'⟩ | ⟨hq, h1'⟩
      · clear h; subst hq; have h := h1'; clear h1'
        rcases bif_or h with ⟨h_x12, h⟩ | ⟨h_x12, h⟩
        ·
          rw [← Option.some.inj h]
          exact mgo_fin (nb := 0) hmix (n := 2000) (ad := [(some 11, .call (.ret ⟨.tup [false, false, false], [[.nil], [ic r10_x4], [ic r20_x4]]⟩) [] false), (some 17, .call (.ret ⟨.tup [false, false, false], [[.own 5 r00_x7], [ic r10_x7], [ic r20_x7]]⟩) [] false), (some 21, .call (.ret (.c (bc true))) [] false), (some 25, .call (.ret (.c (bc true))) [] true), (some 30, .test true)]) (ps := [_, _, _, _, _, _]) (by kernel_rfl) ⟨(ev8 h_x2), (ev9 h_x6), (ev10 h_x9), (ev11 h_x11), (rfl : true = true), h_x12, trivial⟩
        ·
          rw [← Option.some.inj h]
          exact mgo_fin (nb := 0) hmix (n := 2000) (ad := [(some 11, .call (.ret ⟨.tup [false, false, false], [[.nil], [ic r10_x4], [ic r20_x4]]⟩) [] false), (some 17, .call (.ret ⟨.tup [false, false, false], [[.own 5 r00_x7], [ic r10_x7], [ic r20_x7]]⟩) [] false), (some 21, .call (.ret (.c (bc true))) [] false), (some 25, .call (.ret (.c (bc true))) [] true), (some 30, .test false)]) (ps := [_, _, _, _, _, _]) (by kernel_rfl) ⟨(ev8 h_x2), (ev9 h_x6), (ev10 h_x9), (ev11 h_x11), (rfl : true = true), h_x12, trivial⟩
      · clear h; subst hq; have h := h1'; clear h1'
        rw [← Option.some.inj h]
        exact mgo_fin (nb := 0) hmix (n := 2000) (ad := [(some 11, .call (.ret ⟨.tup [false, false, false], [[.nil], [ic r10_x4], [ic r20_x4]]⟩) [] false), (some 17, .call (.ret ⟨.tup [false, false, false], [[.own 5 r00_x7], [ic r10_x7], [ic r20_x7]]⟩) [] false), (some 21, .call (.ret (.c (bc true))) [] false), (some 25, .call (.ret (.c (bc false))) [] true)]) (ps := [_, _, _, _, _]) (by kernel_rfl) ⟨(ev8 h_x2), (ev9 h_x6), (ev10 h_x9), (ev11 h_x11), (rfl : true = true), trivial⟩
    · clear h; subst hq; have h := h1'; clear h1'
      rw [← Option.some.inj h]
      exact mgo_fin (nb := 0) hmix (n := 2000) (ad := [(some 11, .call (.ret ⟨.tup [false, false, false], [[.nil], [ic r10_x4], [ic r20_x4]]⟩) [] false), (some 17, .call (.ret ⟨.tup [false, false, false], [[.own 5 r00_x7], [ic r10_x7], [ic r20_x7]]⟩) [] false), (some 21, .call (.ret (.c (bc false))) [] false)]) (ps := [_, _, _]) (by kernel_rfl) ⟨(ev8 h_x2), (ev9 h_x6), (ev10 h_x9), trivial⟩
theorem ok3 : ∀ k s r, itS step3 k s = some r → P3 s r := itS_ok fun k rec ih s r h => match s, h with
  | .e s0, h => t3_e_ok k rec ih s0 r h
theorem ev3 {k : Nat} {s0 : ByteArray} {r : R3} (h : g3 k s0 = some r) : Ev Tryd.prog noHand 3 [.c (sc s0)] [] (res3 r) (bx3 r) := evr3 (ok3 _ _ _ h)
end Ab
end Go.Proofs.YtniibdfnijeaeaaDoor
