/-
 Functions' ways, printed by a program: what each computes, and that this is what the interpreter computes.
-/
import Derived.Test.YtfekohpjaafnhaaDoorSfq
import Derived.KernelRfl
set_option linter.unusedVariables false
set_option linter.unusedSimpArgs false
set_option linter.unusedSectionVars false
set_option maxRecDepth 10000
namespace Go.Proofs.YtfekohpjaafnhaaDoor
namespace Ab
variable [Laid3]
def un_imiissi {α : Type} (row : List Cell) (k : Int → Rs → Int → Int → ByteArray → ByteArray → Int → Option α) : Option α := match row with
 | [.val (.int .i64 x0), .imm x1, .val (.int .i64 x2), .val (.int .i64 x3), .val (.string x4), .val (.string x5), .val (.int .i64 x6)] => k x0 x1 x2 x3 x4 x5 x6
 | _ => none
theorem un_imiissi_or {α : Type} {row : List Cell} {k : Int → Rs → Int → Int → ByteArray → ByteArray → Int → Option α} {r : α} (h : un_imiissi row k = some r) : ∃ x0 x1 x2 x3 x4 x5 x6, row = [.val (.int .i64 x0), .imm x1, .val (.int .i64 x2), .val (.int .i64 x3), .val (.string x4), .val (.string x5), .val (.int .i64 x6)] ∧ k x0 x1 x2 x3 x4 x5 x6 = some r := by
 unfold un_imiissi at h
 split at h
 ·
  exact ⟨_, _, _, _, _, _, _, rfl, h⟩
 ·
  cases h
def un_isi3 {α : Type} (row : List Cell) (k : Int → ByteArray → Int → Int → Int → Option α) : Option α := match row with
 | [.val (.int .i64 x0), .val (.string x1), .val (.int .i64 x2), .val (.int .i64 x3), .val (.int .i64 x4)] => k x0 x1 x2 x3 x4
 | _ => none
theorem un_isi3_or {α : Type} {row : List Cell} {k : Int → ByteArray → Int → Int → Int → Option α} {r : α} (h : un_isi3 row k = some r) : ∃ x0 x1 x2 x3 x4, row = [.val (.int .i64 x0), .val (.string x1), .val (.int .i64 x2), .val (.int .i64 x3), .val (.int .i64 x4)] ∧ k x0 x1 x2 x3 x4 = some r := by
 unfold un_isi3 at h
 split at h
 ·
  exact ⟨_, _, _, _, _, rfl, h⟩
 ·
  cases h
def un_s {α : Type} (row : List Cell) (k : ByteArray → Option α) : Option α := match row with
 | [.val (.string x0)] => k x0
 | _ => none
theorem un_s_or {α : Type} {row : List Cell} {k : ByteArray → Option α} {r : α} (h : un_s row k = some r) : ∃ x0, row = [.val (.string x0)] ∧ k x0 = some r := by
 unfold un_s at h
 split at h
 ·
  exact ⟨_, rfl, h⟩
 ·
  cases h
inductive S29 where
 | e (c0 : Int)
abbrev R29 := Bool
def res29 : R29 → ARes
 | r => .ret (.c (bc r))
def bx29 : R29 → List (List Cell)
 | r => []
noncomputable def t29_e (k : Nat) (rec : S29 → Option R29) (c0 : Int) : Option R29 :=
 bif c0 == 32 then
  some true
 else
  bif c0 == 9 then
   some true
  else
   bif c0 == 10 then
    some true
   else
    some (c0 == 13)
noncomputable def step29 (k : Nat) (rec : S29 → Option R29) : S29 → Option R29
 | .e c0 => t29_e k rec c0
noncomputable def g29 (k : Nat) (c0 : Int) : Option R29 := itS step29 k (.e c0)
noncomputable def P29 : S29 → R29 → Prop
 | .e c0, r => Fin cx29 Tryd.f29 [.code body29] (fr0 Tryd.f29 [.c (.val (.int .u8 c0))] []) (res29 r) (bx29 r)
theorem evr29 {c0 : Int} {r : R29} (h : P29 (.e c0) r) : Ev Tryd.prog noHand 29 [.c (.val (.int .u8 c0))] [] (res29 r) (bx29 r) := ev_of_fin (fn := Tryd.f29) (body := body29) (by kernel_rfl) (by kernel_rfl) (by kernel_rfl) rfl h
theorem t29_e_ok (k) {rec} (ih : ∀ s r, rec s = some r → P29 s r) {c0 r} (h : t29_e k rec c0 = some r) : P29 (.e c0) r := by
 unfold t29_e at h
 rcases bif_or h with ⟨h_x1, h⟩ | ⟨h_x1, h⟩
 ·
  rw [← Option.some.inj h]
  exact mF 0 hmix [aT 4] [_] (by kernel_rfl) ⟨h_x1, trivial⟩
 ·
  rcases bif_or h with ⟨h_x2, h⟩ | ⟨h_x2, h⟩
  ·
   rw [← Option.some.inj h]
   exact mF 0 hmix [aF 4, aT 7] [_, _] (by kernel_rfl) ⟨h_x1, h_x2, trivial⟩
  ·
   rcases bif_or h with ⟨h_x3, h⟩ | ⟨h_x3, h⟩
   ·
    rw [← Option.some.inj h]
    exact mF 0 hmix [aF 4, aF 7, aT 11] [_, _, _] (by kernel_rfl) ⟨h_x1, h_x2, h_x3, trivial⟩
   ·
    rw [← Option.some.inj h]
    exact mF 0 hmix [aF 4, aF 7, aF 11] [_, _, _] (by kernel_rfl) ⟨h_x1, h_x2, h_x3, trivial⟩
theorem ok29 : ∀ k s r, itS step29 k s = some r → P29 s r := itS_ok fun k rec ih s r h => match s, h with
 | .e c0, h => t29_e_ok k ih h
theorem ev29 {k : Nat} {c0 : Int} {r : R29} (h : g29 k c0 = some r) : Ev Tryd.prog noHand 29 [.c (.val (.int .u8 c0))] [] (res29 r) (bx29 r) := evr29 (ok29 _ _ _ h)
inductive S30 where
 | e (c0 : Int)
abbrev R30 := Bool
def res30 : R30 → ARes
 | r => .ret (.c (bc r))
def bx30 : R30 → List (List Cell)
 | r => []
noncomputable def t30_e (k : Nat) (rec : S30 → Option R30) (c0 : Int) : Option R30 :=
 bif decide (c0 ≥ 97) then
  bif decide (c0 ≤ 122) then
   some true
  else
   bif decide (c0 ≥ 65) then
    some (decide (c0 ≤ 90))
   else
    some false
 else
  bif decide (c0 ≥ 65) then
   some (decide (c0 ≤ 90))
  else
   some false
noncomputable def step30 (k : Nat) (rec : S30 → Option R30) : S30 → Option R30
 | .e c0 => t30_e k rec c0
noncomputable def g30 (k : Nat) (c0 : Int) : Option R30 := itS step30 k (.e c0)
noncomputable def P30 : S30 → R30 → Prop
 | .e c0, r => Fin cx30 Tryd.f30 [.code body30] (fr0 Tryd.f30 [.c (.val (.int .u8 c0))] []) (res30 r) (bx30 r)
theorem evr30 {c0 : Int} {r : R30} (h : P30 (.e c0) r) : Ev Tryd.prog noHand 30 [.c (.val (.int .u8 c0))] [] (res30 r) (bx30 r) := ev_of_fin (fn := Tryd.f30) (body := body30) (by kernel_rfl) (by kernel_rfl) (by kernel_rfl) rfl h
theorem t30_e_ok (k) {rec} (ih : ∀ s r, rec s = some r → P30 s r) {c0 r} (h : t30_e k rec c0 = some r) : P30 (.e c0) r := by
 unfold t30_e at h
 rcases bif_or h with ⟨h_x1, h⟩ | ⟨h_x1, h⟩
 ·
  rcases bif_or h with ⟨h_x2, h⟩ | ⟨h_x2, h⟩
  ·
   rw [← Option.some.inj h]
   exact mF 0 hmix [aT 4, aT 7] [_, _] (by kernel_rfl) ⟨h_x1, h_x2, trivial⟩
  ·
   rcases bif_or h with ⟨h_x3, h⟩ | ⟨h_x3, h⟩
   ·
    rw [← Option.some.inj h]
    exact mF 0 hmix [aT 4, aF 7, aT 11] [_, _, _] (by kernel_rfl) ⟨h_x1, h_x2, h_x3, trivial⟩
   ·
    rw [← Option.some.inj h]
    exact mF 0 hmix [aT 4, aF 7, aF 11] [_, _, _] (by kernel_rfl) ⟨h_x1, h_x2, h_x3, trivial⟩
 ·
  rcases bif_or h with ⟨h_x2, h⟩ | ⟨h_x2, h⟩
  ·
   rw [← Option.some.inj h]
   exact mF 0 hmix [aF 4, aT 11] [_, _] (by kernel_rfl) ⟨h_x1, h_x2, trivial⟩
  ·
   rw [← Option.some.inj h]
   exact mF 0 hmix [aF 4, aF 11] [_, _] (by kernel_rfl) ⟨h_x1, h_x2, trivial⟩
theorem ok30 : ∀ k s r, itS step30 k s = some r → P30 s r := itS_ok fun k rec ih s r h => match s, h with
 | .e c0, h => t30_e_ok k ih h
theorem ev30 {k : Nat} {c0 : Int} {r : R30} (h : g30 k c0 = some r) : Ev Tryd.prog noHand 30 [.c (.val (.int .u8 c0))] [] (res30 r) (bx30 r) := evr30 (ok30 _ _ _ h)
inductive S32 where
 | e (c0 : Int)
abbrev R32 := Bool
def res32 : R32 → ARes
 | r => .ret (.c (bc r))
def bx32 : R32 → List (List Cell)
 | r => []
noncomputable def t32_e (k : Nat) (rec : S32 → Option R32) (c0 : Int) : Option R32 :=
 bif decide (c0 ≥ 48) then
  some (decide (c0 ≤ 57))
 else
  some false
noncomputable def step32 (k : Nat) (rec : S32 → Option R32) : S32 → Option R32
 | .e c0 => t32_e k rec c0
noncomputable def g32 (k : Nat) (c0 : Int) : Option R32 := itS step32 k (.e c0)
noncomputable def P32 : S32 → R32 → Prop
 | .e c0, r => Fin cx32 Tryd.f32 [.code body32] (fr0 Tryd.f32 [.c (.val (.int .u8 c0))] []) (res32 r) (bx32 r)
theorem evr32 {c0 : Int} {r : R32} (h : P32 (.e c0) r) : Ev Tryd.prog noHand 32 [.c (.val (.int .u8 c0))] [] (res32 r) (bx32 r) := ev_of_fin (fn := Tryd.f32) (body := body32) (by kernel_rfl) (by kernel_rfl) (by kernel_rfl) rfl h
theorem t32_e_ok (k) {rec} (ih : ∀ s r, rec s = some r → P32 s r) {c0 r} (h : t32_e k rec c0 = some r) : P32 (.e c0) r := by
 unfold t32_e at h
 rcases bif_or h with ⟨h_x1, h⟩ | ⟨h_x1, h⟩
 ·
  rw [← Option.some.inj h]
  exact mF 0 hmix [aT 4] [_] (by kernel_rfl) ⟨h_x1, trivial⟩
 ·
  rw [← Option.some.inj h]
  exact mF 0 hmix [aF 4] [_] (by kernel_rfl) ⟨h_x1, trivial⟩
theorem ok32 : ∀ k s r, itS step32 k s = some r → P32 s r := itS_ok fun k rec ih s r h => match s, h with
 | .e c0, h => t32_e_ok k ih h
theorem ev32 {k : Nat} {c0 : Int} {r : R32} (h : g32 k c0 = some r) : Ev Tryd.prog noHand 32 [.c (.val (.int .u8 c0))] [] (res32 r) (bx32 r) := evr32 (ok32 _ _ _ h)
inductive S41 where
 | e (from1 : Int) (b0_0 : ByteArray) (b0_1 : Int)
 | h0 (from1 to5 : Int) (p0_0 : ByteArray) (p0_1 : Int)
 | h1 (from1 to5 : Int) (t40 : Bool) (p0_0 : ByteArray) (p0_1 : Int)
abbrev R41 := ByteArray
def res41 : R41 → ARes
 | r => .ret (.c (sc r))
def bx41 (b0_0 : ByteArray) (b0_1 : Int) : R41 → List (List Cell)
 | r => [[sc b0_0, ic b0_1]]
noncomputable def t41_e (k : Nat) (rec : S41 → Option R41) (from1 : Int) (b0_0 : ByteArray) (b0_1 : Int) : Option R41 :=
 rec (.h0 from1 from1 b0_0 b0_1)
noncomputable def t41_h0 (k : Nat) (rec : S41 → Option R41) (from1 to5 : Int) (p0_0 : ByteArray) (p0_1 : Int) : Option R41 :=
 bif decide (to5 < (p0_0.size : Int)) then
  sxI p0_0 to5 fun c_x2 =>
  (g30 k c_x2).bind fun v_x4 =>
  bif v_x4 then
   rec (.h1 from1 to5 true p0_0 p0_1)
  else
   (g32 k c_x2).bind fun v_x6 =>
   bif v_x6 then
    rec (.h1 from1 to5 true p0_0 p0_1)
   else
    rec (.h1 from1 to5 (c_x2 == 95) p0_0 p0_1)
 else
  rec (.h1 from1 to5 false p0_0 p0_1)
noncomputable def t41_h1 (k : Nat) (rec : S41 → Option R41) (from1 to5 : Int) (t40 : Bool) (p0_0 : ByteArray) (p0_1 : Int) : Option R41 :=
 bif t40 then
  rec (.h0 from1 (IntKind.i64.wrap (to5 + 1)) p0_0 p0_1)
 else
  gd (decide (0 ≤ from1 ∧ from1 ≤ to5 ∧ to5 ≤ (p0_0.size : Int))) <|
  some (p0_0.extract (Int.toNat from1) (Int.toNat to5))
noncomputable def step41 (k : Nat) (rec : S41 → Option R41) : S41 → Option R41
 | .e from1 b0_0 b0_1 => t41_e k rec from1 b0_0 b0_1
 | .h0 from1 to5 p0_0 p0_1 => t41_h0 k rec from1 to5 p0_0 p0_1
 | .h1 from1 to5 t40 p0_0 p0_1 => t41_h1 k rec from1 to5 t40 p0_0 p0_1
noncomputable def g41 (k : Nat) (from1 : Int) (b0_0 : ByteArray) (b0_1 : Int) : Option R41 := itS step41 k (.e from1 b0_0 b0_1)
noncomputable def P41 : S41 → R41 → Prop
 | .e from1 b0_0 b0_1, r => Fin cx41 Tryd.f41 [.code body41] (fr0 Tryd.f41 [pP 0, .c (ic from1)] [[sc b0_0, ic b0_1]]) (res41 r) (bx41 b0_0 b0_1 r)
 | .h0 from1 to5 p0_0 p0_1, r => Fin cx41 Tryd.f41 (kAt body41 [1, 1, 0, 0, 4] []) ⟨[pP 0, .c (ic from1)] ++ rep 3 .deadv ++ [.c (ic to5)] ++ rep 44 .deadv, [(.par 0, [sc p0_0, ic p0_1])]⟩ (res41 r) (bx41 p0_0 p0_1 r)
 | .h1 from1 to5 t40 p0_0 p0_1, r => Fin cx41 Tryd.f41 (kAt body41 [1, 1, 0, 0, 0, 0, 1, 2] []) ⟨[pP 0, .c (ic from1)] ++ rep 3 .deadv ++ [.c (ic to5)] ++ rep 34 .deadv ++ [.c (bc t40)] ++ rep 9 .deadv, [(.par 0, [sc p0_0, ic p0_1])]⟩ (res41 r) (bx41 p0_0 p0_1 r)
theorem evr41 {from1 : Int} {b0_0 : ByteArray} {b0_1 : Int} {r : R41} (h : P41 (.e from1 b0_0 b0_1) r) : Ev Tryd.prog noHand 41 [pP 0, .c (ic from1)] [[sc b0_0, ic b0_1]] (res41 r) (bx41 b0_0 b0_1 r) := ev_of_fin (fn := Tryd.f41) (body := body41) (by kernel_rfl) (by kernel_rfl) (by kernel_rfl) rfl h
theorem t41_e_ok (k) {rec} (ih : ∀ s r, rec s = some r → P41 s r) {from1 b0_0 b0_1 r} (h : t41_e k rec from1 b0_0 b0_1 = some r) : P41 (.e from1 b0_0 b0_1) r := by
 unfold t41_e at h
 exact mA 1 hmix (ih _ _ h) 7 [] [] (bm 50 1125899906842588) (by kernel_rfl) trivial
theorem t41_h0_ok (k) {rec} (ih : ∀ s r, rec s = some r → P41 s r) {from1 to5 p0_0 p0_1 r} (h : t41_h0 k rec from1 to5 p0_0 p0_1 = some r) : P41 (.h0 from1 to5 p0_0 p0_1) r := by
 unfold t41_h0 at h
 rcases bif_or h with ⟨h_x1, h⟩ | ⟨h_x1, h⟩
 ·
  obtain ⟨c_x2, h_x3, h⟩ := sxI_or h
  obtain ⟨v_x4, h_x5, h⟩ := bd_or h
  replace h := bif_or h; rcases h with ⟨rfl, h⟩ | ⟨rfl, h⟩
  ·
   exact mA 1 hmix (ih _ _ h) 4 [aT 13, (some 20, .sidx c_x2), aC 21 (.c (bc true))] [_, _, _] (bm 50 1124800395214812) (by kernel_rfl) ⟨h_x1, h_x3, (ev30 h_x5), trivial⟩
  ·
   obtain ⟨v_x6, h_x7, h⟩ := bd_or h
   replace h := bif_or h; rcases h with ⟨rfl, h⟩ | ⟨rfl, h⟩
   ·
    exact mA 1 hmix (ih _ _ h) 4 [aT 13, (some 20, .sidx c_x2), aC 21 (.c (bc false)), (some 28, .sidx c_x2), aC 29 (.c (bc true))] [_, _, _, _, _] (bm 50 1124800395214812) (by kernel_rfl) ⟨h_x1, h_x3, (ev30 h_x5), h_x3, (ev32 h_x7), trivial⟩
   ·
    exact mA 1 hmix (ih _ _ h) 4 [aT 13, (some 20, .sidx c_x2), aC 21 (.c (bc false)), (some 28, .sidx c_x2), aC 29 (.c (bc false)), (some 37, .sidx c_x2)] [_, _, _, _, _, _] (bm 50 1124800395214812) (by kernel_rfl) ⟨h_x1, h_x3, (ev30 h_x5), h_x3, (ev32 h_x7), h_x3, trivial⟩
 ·
  exact mA 1 hmix (ih _ _ h) 4 [aF 13] [_] (bm 50 1124800395214812) (by kernel_rfl) ⟨h_x1, trivial⟩
theorem t41_h1_ok (k) {rec} (ih : ∀ s r, rec s = some r → P41 s r) {from1 to5 t40 p0_0 p0_1 r} (h : t41_h1 k rec from1 to5 t40 p0_0 p0_1 = some r) : P41 (.h1 from1 to5 t40 p0_0 p0_1) r := by
 unfold t41_h1 at h
 replace h := bif_or h; rcases h with ⟨rfl, h⟩ | ⟨rfl, h⟩
 ·
  exact mA 1 hmix (ih _ _ h) 5 [] [] (bm 50 1125899906842588) (by kernel_rfl) trivial
 ·
  obtain ⟨h_x1, h⟩ := gd_or h
  rw [← Option.some.inj h]
  exact mF 1 hmix [aS 49] [_] (by kernel_rfl) ⟨of_decide_eq_true h_x1, trivial⟩
theorem ok41 : ∀ k s r, itS step41 k s = some r → P41 s r := itS_ok fun k rec ih s r h => match s, h with
 | .e from1 b0_0 b0_1, h => t41_e_ok k ih h
 | .h0 from1 to5 p0_0 p0_1, h => t41_h0_ok k ih h
 | .h1 from1 to5 t40 p0_0 p0_1, h => t41_h1_ok k ih h
theorem ev41 {k : Nat} {from1 : Int} {b0_0 : ByteArray} {b0_1 : Int} {r : R41} (h : g41 k from1 b0_0 b0_1 = some r) : Ev Tryd.prog noHand 41 [pP 0, .c (ic from1)] [[sc b0_0, ic b0_1]] (res41 r) (bx41 b0_0 b0_1 r) := evr41 (ok41 _ _ _ h)
inductive S42 where
 | e (s0 : ByteArray)
 | h0 (t4 : Bool)
abbrev R42 := Bool
def res42 : R42 → ARes
 | r => .ret (.c (bc r))
def bx42 : R42 → List (List Cell)
 | r => []
noncomputable def t42_e (k : Nat) (rec : S42 → Option R42) (s0 : ByteArray) : Option R42 :=
 bif s0.toList == (strB [80, 65, 84, 84, 69, 82, 78]).toList then
  rec (.h0 true)
 else
  bif s0.toList == (strB [83, 69, 81]).toList then
   rec (.h0 true)
  else
   bif s0.toList == (strB [87, 72, 69, 82, 69]).toList then
    rec (.h0 true)
   else
    bif s0.toList == (strB [83, 84, 82, 65, 84, 69, 71, 89]).toList then
     rec (.h0 true)
    else
     bif s0.toList == (strB [87, 73, 84, 72, 73, 78]).toList then
      rec (.h0 true)
     else
      bif s0.toList == (strB [80, 65, 82, 84, 73, 84, 73, 79, 78]).toList then
       rec (.h0 true)
      else
       bif s0.toList == (strB [66, 89]).toList then
        rec (.h0 true)
       else
        bif s0.toList == (strB [83, 84, 82, 73, 67, 84]).toList then
         rec (.h0 true)
        else
         bif s0.toList == (strB [78, 69, 88, 84]).toList then
          rec (.h0 true)
         else
          bif s0.toList == (strB [65, 78, 89]).toList then
           rec (.h0 true)
          else
           bif s0.toList == (strB [65, 78, 68]).toList then
            rec (.h0 true)
           else
            bif s0.toList == (strB [79, 82]).toList then
             rec (.h0 true)
            else
             bif s0.toList == (strB [78, 79, 84]).toList then
              rec (.h0 true)
             else
              bif s0.toList == (strB [84, 82, 85, 69]).toList then
               rec (.h0 true)
              else
               bif s0.toList == (strB [70, 65, 76, 83, 69]).toList then
                rec (.h0 true)
               else
                bif s0.toList == (strB [84, 73, 77, 69]).toList then
                 rec (.h0 true)
                else
                 bif s0.toList == (strB [82, 69, 65, 76]).toList then
                  rec (.h0 true)
                 else
                  bif s0.toList == (strB [73, 83, 78, 65, 78]).toList then
                   rec (.h0 true)
                  else
                   bif s0.toList == (strB [67, 79, 85, 78, 84]).toList then
                    rec (.h0 true)
                   else
                    bif s0.toList == (strB [70, 73, 82, 83, 84]).toList then
                     rec (.h0 true)
                    else
                     bif s0.toList == (strB [76, 65, 83, 84]).toList then
                      rec (.h0 true)
                     else
                      bif s0.toList == (strB [83, 85, 77]).toList then
                       rec (.h0 true)
                      else
                       bif s0.toList == (strB [77, 73, 78]).toList then
                        rec (.h0 true)
                       else
                        bif s0.toList == (strB [77, 65, 88]).toList then
                         rec (.h0 true)
                        else
                         rec (.h0 (s0.toList == (strB [77, 69, 65, 78]).toList))
noncomputable def t42_h0 (k : Nat) (rec : S42 → Option R42) (t4 : Bool) : Option R42 :=
 bif t4 then
  some true
 else
  some false
noncomputable def step42 (k : Nat) (rec : S42 → Option R42) : S42 → Option R42
 | .e s0 => t42_e k rec s0
 | .h0 t4 => t42_h0 k rec t4
noncomputable def g42 (k : Nat) (s0 : ByteArray) : Option R42 := itS step42 k (.e s0)
noncomputable def P42 : S42 → R42 → Prop
 | .e s0, r => Fin cx42 Tryd.f42 [.code body42] (fr0 Tryd.f42 [.c (sc s0)] []) (res42 r) (bx42 r)
 | .h0 t4, r => Fin cx42 Tryd.f42 (kAt body42 [1, 0, 1, 0, 1, 2] []) ⟨rep 4 .deadv ++ [.c (bc t4)] ++ rep 25 .deadv, []⟩ (res42 r) (bx42 r)
theorem evr42 {s0 : ByteArray} {r : R42} (h : P42 (.e s0) r) : Ev Tryd.prog noHand 42 [.c (sc s0)] [] (res42 r) (bx42 r) := ev_of_fin (fn := Tryd.f42) (body := body42) (by kernel_rfl) (by kernel_rfl) (by kernel_rfl) rfl h
theorem t42_e_ok (k) {rec} (ih : ∀ s r, rec s = some r → P42 s r) {s0 r} (h : t42_e k rec s0 = some r) : P42 (.e s0) r := by
 unfold t42_e at h
 rcases bif_or h with ⟨h_x1, h⟩ | ⟨h_x1, h⟩
 ·
  exact mA 0 hmix (ih _ _ h) 11 [aT 5] [_] (bm 30 1073741807) (by kernel_rfl) ⟨h_x1, trivial⟩
 ·
  rcases bif_or h with ⟨h_x2, h⟩ | ⟨h_x2, h⟩
  ·
   exact mA 0 hmix (ih _ _ h) 14 [aF 5, aT 6] [_, _] (bm 30 1073741807) (by kernel_rfl) ⟨h_x1, h_x2, trivial⟩
  ·
   rcases bif_or h with ⟨h_x3, h⟩ | ⟨h_x3, h⟩
   ·
    exact mA 0 hmix (ih _ _ h) 17 [aF 5, aF 6, aT 7] [_, _, _] (bm 30 1073741807) (by kernel_rfl) ⟨h_x1, h_x2, h_x3, trivial⟩
   ·
    rcases bif_or h with ⟨h_x4, h⟩ | ⟨h_x4, h⟩
    ·
     exact mA 0 hmix (ih _ _ h) 20 [aF 5, aF 6, aF 7, aT 8] [_, _, _, _] (bm 30 1073741807) (by kernel_rfl) ⟨h_x1, h_x2, h_x3, h_x4, trivial⟩
    ·
     rcases bif_or h with ⟨h_x5, h⟩ | ⟨h_x5, h⟩
     ·
      exact mA 0 hmix (ih _ _ h) 23 [aF 5, aF 6, aF 7, aF 8, aT 9] [_, _, _, _, _] (bm 30 1073741807) (by kernel_rfl) ⟨h_x1, h_x2, h_x3, h_x4, h_x5, trivial⟩
     ·
      rcases bif_or h with ⟨h_x6, h⟩ | ⟨h_x6, h⟩
      ·
       exact mA 0 hmix (ih _ _ h) 26 [aF 5, aF 6, aF 7, aF 8, aF 9, aT 10] [_, _, _, _, _, _] (bm 30 1073741807) (by kernel_rfl) ⟨h_x1, h_x2, h_x3, h_x4, h_x5, h_x6, trivial⟩
      ·
       rcases bif_or h with ⟨h_x7, h⟩ | ⟨h_x7, h⟩
       ·
        exact mA 0 hmix (ih _ _ h) 29 [aF 5, aF 6, aF 7, aF 8, aF 9, aF 10, aT 11] [_, _, _, _, _, _, _] (bm 30 1073741807) (by kernel_rfl) ⟨h_x1, h_x2, h_x3, h_x4, h_x5, h_x6, h_x7, trivial⟩
       ·
        rcases bif_or h with ⟨h_x8, h⟩ | ⟨h_x8, h⟩
        ·
         exact mA 0 hmix (ih _ _ h) 32 [aF 5, aF 6, aF 7, aF 8, aF 9, aF 10, aF 11, aT 12] [_, _, _, _, _, _, _, _] (bm 30 1073741807) (by kernel_rfl) ⟨h_x1, h_x2, h_x3, h_x4, h_x5, h_x6, h_x7, h_x8, trivial⟩
        ·
         rcases bif_or h with ⟨h_x9, h⟩ | ⟨h_x9, h⟩
         ·
          exact mA 0 hmix (ih _ _ h) 35 [aF 5, aF 6, aF 7, aF 8, aF 9, aF 10, aF 11, aF 12, aT 13] [_, _, _, _, _, _, _, _, _] (bm 30 1073741807) (by kernel_rfl) ⟨h_x1, h_x2, h_x3, h_x4, h_x5, h_x6, h_x7, h_x8, h_x9, trivial⟩
         ·
          rcases bif_or h with ⟨h_x10, h⟩ | ⟨h_x10, h⟩
          ·
           exact mA 0 hmix (ih _ _ h) 38 [aF 5, aF 6, aF 7, aF 8, aF 9, aF 10, aF 11, aF 12, aF 13, aT 14] [_, _, _, _, _, _, _, _, _, _] (bm 30 1073741807) (by kernel_rfl) ⟨h_x1, h_x2, h_x3, h_x4, h_x5, h_x6, h_x7, h_x8, h_x9, h_x10, trivial⟩
          ·
           rcases bif_or h with ⟨h_x11, h⟩ | ⟨h_x11, h⟩
           ·
            exact mA 0 hmix (ih _ _ h) 41 [aF 5, aF 6, aF 7, aF 8, aF 9, aF 10, aF 11, aF 12, aF 13, aF 14, aT 15] [_, _, _, _, _, _, _, _, _, _, _] (bm 30 1073741807) (by kernel_rfl) ⟨h_x1, h_x2, h_x3, h_x4, h_x5, h_x6, h_x7, h_x8, h_x9, h_x10, h_x11, trivial⟩
           ·
            rcases bif_or h with ⟨h_x12, h⟩ | ⟨h_x12, h⟩
            ·
             exact mA 0 hmix (ih _ _ h) 44 [aF 5, aF 6, aF 7, aF 8, aF 9, aF 10, aF 11, aF 12, aF 13, aF 14, aF 15, aT 16] [_, _, _, _, _, _, _, _, _, _, _, _] (bm 30 1073741807) (by kernel_rfl) ⟨h_x1, h_x2, h_x3, h_x4, h_x5, h_x6, h_x7, h_x8, h_x9, h_x10, h_x11, h_x12, trivial⟩
            ·
             rcases bif_or h with ⟨h_x13, h⟩ | ⟨h_x13, h⟩
             ·
              exact mA 0 hmix (ih _ _ h) 47 [aF 5, aF 6, aF 7, aF 8, aF 9, aF 10, aF 11, aF 12, aF 13, aF 14, aF 15, aF 16, aT 17] [_, _, _, _, _, _, _, _, _, _, _, _, _] (bm 30 1073741807) (by kernel_rfl) ⟨h_x1, h_x2, h_x3, h_x4, h_x5, h_x6, h_x7, h_x8, h_x9, h_x10, h_x11, h_x12, h_x13, trivial⟩
             ·
              rcases bif_or h with ⟨h_x14, h⟩ | ⟨h_x14, h⟩
              ·
               exact mA 0 hmix (ih _ _ h) 50 [aF 5, aF 6, aF 7, aF 8, aF 9, aF 10, aF 11, aF 12, aF 13, aF 14, aF 15, aF 16, aF 17, aT 18] [_, _, _, _, _, _, _, _, _, _, _, _, _, _] (bm 30 1073741807) (by kernel_rfl) ⟨h_x1, h_x2, h_x3, h_x4, h_x5, h_x6, h_x7, h_x8, h_x9, h_x10, h_x11, h_x12, h_x13, h_x14, trivial⟩
              ·
               rcases bif_or h with ⟨h_x15, h⟩ | ⟨h_x15, h⟩
               ·
                exact mA 0 hmix (ih _ _ h) 53 [aF 5, aF 6, aF 7, aF 8, aF 9, aF 10, aF 11, aF 12, aF 13, aF 14, aF 15, aF 16, aF 17, aF 18, aT 19] [_, _, _, _, _, _, _, _, _, _, _, _, _, _, _] (bm 30 1073741807) (by kernel_rfl) ⟨h_x1, h_x2, h_x3, h_x4, h_x5, h_x6, h_x7, h_x8, h_x9, h_x10, h_x11, h_x12, h_x13, h_x14, h_x15, trivial⟩
               ·
                rcases bif_or h with ⟨h_x16, h⟩ | ⟨h_x16, h⟩
                ·
                 exact mA 0 hmix (ih _ _ h) 56 [aF 5, aF 6, aF 7, aF 8, aF 9, aF 10, aF 11, aF 12, aF 13, aF 14, aF 15, aF 16, aF 17, aF 18, aF 19, aT 20] [_, _, _, _, _, _, _, _, _, _, _, _, _, _, _, _] (bm 30 1073741807) (by kernel_rfl) ⟨h_x1, h_x2, h_x3, h_x4, h_x5, h_x6, h_x7, h_x8, h_x9, h_x10, h_x11, h_x12, h_x13, h_x14, h_x15, h_x16, trivial⟩
                ·
                 rcases bif_or h with ⟨h_x17, h⟩ | ⟨h_x17, h⟩
                 ·
                  exact mA 0 hmix (ih _ _ h) 59 [aF 5, aF 6, aF 7, aF 8, aF 9, aF 10, aF 11, aF 12, aF 13, aF 14, aF 15, aF 16, aF 17, aF 18, aF 19, aF 20, aT 21] [_, _, _, _, _, _, _, _, _, _, _, _, _, _, _, _, _] (bm 30 1073741807) (by kernel_rfl) ⟨h_x1, h_x2, h_x3, h_x4, h_x5, h_x6, h_x7, h_x8, h_x9, h_x10, h_x11, h_x12, h_x13, h_x14, h_x15, h_x16, h_x17, trivial⟩
                 ·
                  rcases bif_or h with ⟨h_x18, h⟩ | ⟨h_x18, h⟩
                  ·
                   exact mA 0 hmix (ih _ _ h) 62 [aF 5, aF 6, aF 7, aF 8, aF 9, aF 10, aF 11, aF 12, aF 13, aF 14, aF 15, aF 16, aF 17, aF 18, aF 19, aF 20, aF 21, aT 22] [_, _, _, _, _, _, _, _, _, _, _, _, _, _, _, _, _, _] (bm 30 1073741807) (by kernel_rfl) ⟨h_x1, h_x2, h_x3, h_x4, h_x5, h_x6, h_x7, h_x8, h_x9, h_x10, h_x11, h_x12, h_x13, h_x14, h_x15, h_x16, h_x17, h_x18, trivial⟩
                  ·
                   rcases bif_or h with ⟨h_x19, h⟩ | ⟨h_x19, h⟩
                   ·
                    exact mA 0 hmix (ih _ _ h) 65 [aF 5, aF 6, aF 7, aF 8, aF 9, aF 10, aF 11, aF 12, aF 13, aF 14, aF 15, aF 16, aF 17, aF 18, aF 19, aF 20, aF 21, aF 22, aT 23] [_, _, _, _, _, _, _, _, _, _, _, _, _, _, _, _, _, _, _] (bm 30 1073741807) (by kernel_rfl) ⟨h_x1, h_x2, h_x3, h_x4, h_x5, h_x6, h_x7, h_x8, h_x9, h_x10, h_x11, h_x12, h_x13, h_x14, h_x15, h_x16, h_x17, h_x18, h_x19, trivial⟩
                   ·
                    rcases bif_or h with ⟨h_x20, h⟩ | ⟨h_x20, h⟩
                    ·
                     exact mA 0 hmix (ih _ _ h) 68 [aF 5, aF 6, aF 7, aF 8, aF 9, aF 10, aF 11, aF 12, aF 13, aF 14, aF 15, aF 16, aF 17, aF 18, aF 19, aF 20, aF 21, aF 22, aF 23, aT 24] [_, _, _, _, _, _, _, _, _, _, _, _, _, _, _, _, _, _, _, _] (bm 30 1073741807) (by kernel_rfl) ⟨h_x1, h_x2, h_x3, h_x4, h_x5, h_x6, h_x7, h_x8, h_x9, h_x10, h_x11, h_x12, h_x13, h_x14, h_x15, h_x16, h_x17, h_x18, h_x19, h_x20, trivial⟩
                    ·
                     rcases bif_or h with ⟨h_x21, h⟩ | ⟨h_x21, h⟩
                     ·
                      exact mA 0 hmix (ih _ _ h) 71 [aF 5, aF 6, aF 7, aF 8, aF 9, aF 10, aF 11, aF 12, aF 13, aF 14, aF 15, aF 16, aF 17, aF 18, aF 19, aF 20, aF 21, aF 22, aF 23, aF 24, aT 25] [_, _, _, _, _, _, _, _, _, _, _, _, _, _, _, _, _, _, _, _, _] (bm 30 1073741807) (by kernel_rfl) ⟨h_x1, h_x2, h_x3, h_x4, h_x5, h_x6, h_x7, h_x8, h_x9, h_x10, h_x11, h_x12, h_x13, h_x14, h_x15, h_x16, h_x17, h_x18, h_x19, h_x20, h_x21, trivial⟩
                     ·
                      rcases bif_or h with ⟨h_x22, h⟩ | ⟨h_x22, h⟩
                      ·
                       exact mA 0 hmix (ih _ _ h) 74 [aF 5, aF 6, aF 7, aF 8, aF 9, aF 10, aF 11, aF 12, aF 13, aF 14, aF 15, aF 16, aF 17, aF 18, aF 19, aF 20, aF 21, aF 22, aF 23, aF 24, aF 25, aT 26] [_, _, _, _, _, _, _, _, _, _, _, _, _, _, _, _, _, _, _, _, _, _] (bm 30 1073741807) (by kernel_rfl) ⟨h_x1, h_x2, h_x3, h_x4, h_x5, h_x6, h_x7, h_x8, h_x9, h_x10, h_x11, h_x12, h_x13, h_x14, h_x15, h_x16, h_x17, h_x18, h_x19, h_x20, h_x21, h_x22, trivial⟩
                      ·
                       rcases bif_or h with ⟨h_x23, h⟩ | ⟨h_x23, h⟩
                       ·
                        exact mA 0 hmix (ih _ _ h) 77 [aF 5, aF 6, aF 7, aF 8, aF 9, aF 10, aF 11, aF 12, aF 13, aF 14, aF 15, aF 16, aF 17, aF 18, aF 19, aF 20, aF 21, aF 22, aF 23, aF 24, aF 25, aF 26, aT 27] [_, _, _, _, _, _, _, _, _, _, _, _, _, _, _, _, _, _, _, _, _, _, _] (bm 30 1073741807) (by kernel_rfl) ⟨h_x1, h_x2, h_x3, h_x4, h_x5, h_x6, h_x7, h_x8, h_x9, h_x10, h_x11, h_x12, h_x13, h_x14, h_x15, h_x16, h_x17, h_x18, h_x19, h_x20, h_x21, h_x22, h_x23, trivial⟩
                       ·
                        rcases bif_or h with ⟨h_x24, h⟩ | ⟨h_x24, h⟩
                        ·
                         exact mA 0 hmix (ih _ _ h) 80 [aF 5, aF 6, aF 7, aF 8, aF 9, aF 10, aF 11, aF 12, aF 13, aF 14, aF 15, aF 16, aF 17, aF 18, aF 19, aF 20, aF 21, aF 22, aF 23, aF 24, aF 25, aF 26, aF 27, aT 28] [_, _, _, _, _, _, _, _, _, _, _, _, _, _, _, _, _, _, _, _, _, _, _, _] (bm 30 1073741807) (by kernel_rfl) ⟨h_x1, h_x2, h_x3, h_x4, h_x5, h_x6, h_x7, h_x8, h_x9, h_x10, h_x11, h_x12, h_x13, h_x14, h_x15, h_x16, h_x17, h_x18, h_x19, h_x20, h_x21, h_x22, h_x23, h_x24, trivial⟩
                        ·
                         exact mA 0 hmix (ih _ _ h) 80 [aF 5, aF 6, aF 7, aF 8, aF 9, aF 10, aF 11, aF 12, aF 13, aF 14, aF 15, aF 16, aF 17, aF 18, aF 19, aF 20, aF 21, aF 22, aF 23, aF 24, aF 25, aF 26, aF 27, aF 28] [_, _, _, _, _, _, _, _, _, _, _, _, _, _, _, _, _, _, _, _, _, _, _, _] (bm 30 1073741807) (by kernel_rfl) ⟨h_x1, h_x2, h_x3, h_x4, h_x5, h_x6, h_x7, h_x8, h_x9, h_x10, h_x11, h_x12, h_x13, h_x14, h_x15, h_x16, h_x17, h_x18, h_x19, h_x20, h_x21, h_x22, h_x23, h_x24, trivial⟩
theorem t42_h0_ok (k) {rec} (ih : ∀ s r, rec s = some r → P42 s r) {t4 r} (h : t42_h0 k rec t4 = some r) : P42 (.h0 t4) r := by
 unfold t42_h0 at h
 replace h := bif_or h; rcases h with ⟨rfl, h⟩ | ⟨rfl, h⟩
 ·
  rw [← Option.some.inj h]
  exact mF 0 hmix [] [] (by kernel_rfl) trivial
 ·
  rw [← Option.some.inj h]
  exact mF 0 hmix [] [] (by kernel_rfl) trivial
theorem ok42 : ∀ k s r, itS step42 k s = some r → P42 s r := itS_ok fun k rec ih s r h => match s, h with
 | .e s0, h => t42_e_ok k ih h
 | .h0 t4, h => t42_h0_ok k ih h
theorem ev42 {k : Nat} {s0 : ByteArray} {r : R42} (h : g42 k s0 = some r) : Ev Tryd.prog noHand 42 [.c (sc s0)] [] (res42 r) (bx42 r) := evr42 (ok42 _ _ _ h)
inductive S31 where
 | e (b0_0 : ByteArray) (b0_1 : Int)
 | h0 (w3 : ByteArray) (at4 : Int) (t24 : Bool) (l2_0 : Int) (l2_1 : ByteArray) (l2_2 l2_3 l2_4 : Int) (p0_0 : ByteArray) (p0_1 : Int)
abbrev R31 := (Int × ByteArray × Int × Int × Int × Int) ⊕ (Int × Int)
def res31 : R31 → ARes
 | (.inl (r_0, r_1, r_2, r_3, r_4, r_b0_1)) => .ret (.ag [ic r_0, sc r_1, ic r_2, ic r_3, ic r_4])
 | (.inr (r_i00, r_b0_1)) => .panic (.iface 51 (.agg #[.int .i64 r_i00]))
def bx31 (b0_0 : ByteArray) : R31 → List (List Cell)
 | (.inl (r_0, r_1, r_2, r_3, r_4, r_b0_1)) => [[sc b0_0, ic r_b0_1]]
 | (.inr (r_i00, r_b0_1)) => [[sc b0_0, ic r_b0_1]]
noncomputable def t31_e (k : Nat) (rec : S31 → Option R31) (b0_0 : ByteArray) (b0_1 : Int) : Option R31 :=
 (g41 k b0_1 b0_0 b0_1).bind fun v_x1 =>
 (g42 k v_x1).bind fun v_x3 =>
 rec (.h0 v_x1 b0_1 v_x3 0 (strB []) 0 0 0 b0_0 (IntKind.i64.wrap (b0_1 + (v_x1.size : Int))))
noncomputable def t31_h0 (k : Nat) (rec : S31 → Option R31) (w3 : ByteArray) (at4 : Int) (t24 : Bool) (l2_0 : Int) (l2_1 : ByteArray) (l2_2 l2_3 l2_4 : Int) (p0_0 : ByteArray) (p0_1 : Int) : Option R31 :=
 bif t24 then
  some (.inl (1, w3, 0, 0, at4, p0_1))
 else
  (nameX w3).bind fun v_x1 =>
  bif v_x1 then
   some (.inl (2, w3, 0, 0, at4, p0_1))
  else
   some (.inr (at4, p0_1))
noncomputable def step31 (k : Nat) (rec : S31 → Option R31) : S31 → Option R31
 | .e b0_0 b0_1 => t31_e k rec b0_0 b0_1
 | .h0 w3 at4 t24 l2_0 l2_1 l2_2 l2_3 l2_4 p0_0 p0_1 => t31_h0 k rec w3 at4 t24 l2_0 l2_1 l2_2 l2_3 l2_4 p0_0 p0_1
noncomputable def g31 (k : Nat) (b0_0 : ByteArray) (b0_1 : Int) : Option R31 := itS step31 k (.e b0_0 b0_1)
noncomputable def P31 : S31 → R31 → Prop
 | .e b0_0 b0_1, r => Fin cx31 Tryd.f31 [.code body31] (fr0 Tryd.f31 [pP 0] [[sc b0_0, ic b0_1]]) (res31 r) (bx31 b0_0 r)
 | .h0 w3 at4 t24 l2_0 l2_1 l2_2 l2_3 l2_4 p0_0 p0_1, r => Fin cx31 Tryd.f31 (kAt body31 [1, 1, 1, 0, 0, 1, 2] []) ⟨[.deadv, .deadv, pL 2, .c (sc w3), .c (ic at4)] ++ rep 19 .deadv ++ [.c (bc t24)] ++ rep 14 .deadv, [(.loc 2, [ic l2_0, sc l2_1, ic l2_2, ic l2_3, ic l2_4]), (.par 0, [sc p0_0, ic p0_1])]⟩ (res31 r) (bx31 p0_0 r)
theorem evr31 {b0_0 : ByteArray} {b0_1 : Int} {r : R31} (h : P31 (.e b0_0 b0_1) r) : Ev Tryd.prog noHand 31 [pP 0] [[sc b0_0, ic b0_1]] (res31 r) (bx31 b0_0 r) := ev_of_fin (fn := Tryd.f31) (body := body31) (by kernel_rfl) (by kernel_rfl) (by kernel_rfl) rfl h
theorem t31_e_ok (k) {rec} (ih : ∀ s r, rec s = some r → P31 s r) {b0_0 b0_1 r} (h : t31_e k rec b0_0 b0_1 = some r) : P31 (.e b0_0 b0_1) r := by
 unfold t31_e at h
 obtain ⟨v_x1, h_x2, h⟩ := bd_or h
 obtain ⟨v_x3, h_x4, h⟩ := bd_or h
 exact mA 1 hmix (ih _ _ h) 10 [(none, .alt 5 9), (some 10, .call (.ret (.c (sc v_x1))) [[sc b0_0, ic b0_1]] false), (some 10, .call (.ret (.c (sc v_x1))) [[sc b0_0, ic b0_1]] false), (none, .st), aC 26 (.c (bc v_x3))] [_, _, _, _, _] (bm 39 549739036643) (by kernel_rfl) ⟨(rfl : (⟨[pP 0, .undef, pL 2, .c (sc v_x1), .c (ic b0_1), pP 0, pP 0, pP 0, .c (.ptr ⟨⟨.par 0, []⟩, 0, 1⟩), .c (ic b0_1), .c (sc v_x1), pP 0, pP 0, .c (.ptr ⟨⟨.par 0, []⟩, 0, 1⟩), .c (ic b0_1)] ++ rep 24 .undef, [(.loc 2, [ic 0, sc (strB []), ic 0, ic 0, ic 0]), (.par 0, [sc b0_0, ic b0_1])]⟩ : Fr) = ⟨[pP 0, .undef, pL 2, .c (sc v_x1), .c (ic b0_1), pP 0, pP 0, pP 0, .c (.ptr ⟨⟨.par 0, []⟩, 0, 1⟩), .c (ic b0_1), .c (sc v_x1), pP 0, pP 0, .c (.ptr ⟨⟨.par 0, []⟩, 0, 1⟩), .c (ic b0_1)] ++ rep 24 .undef, [(.loc 2, [ic 0, sc (strB []), ic 0, ic 0, ic 0]), (.par 0, [sc b0_0, ic b0_1])]⟩), (ev41 h_x2), (ev41 h_x2), (⟨_, rfl⟩ : ∃ c0, cellAt [[sc b0_0, ic b0_1]] 0 1 = some c0), (ev42 h_x4), trivial⟩
theorem t31_h0_ok (k) {rec} (ih : ∀ s r, rec s = some r → P31 s r) {w3 at4 t24 l2_0 l2_1 l2_2 l2_3 l2_4 p0_0 p0_1 r} (h : t31_h0 k rec w3 at4 t24 l2_0 l2_1 l2_2 l2_3 l2_4 p0_0 p0_1 = some r) : P31 (.h0 w3 at4 t24 l2_0 l2_1 l2_2 l2_3 l2_4 p0_0 p0_1) r := by
 unfold t31_h0 at h
 replace h := bif_or h; rcases h with ⟨rfl, h⟩ | ⟨rfl, h⟩
 ·
  rw [← Option.some.inj h]
  exact mF 1 hmix [] [] (by kernel_rfl) trivial
 ·
  obtain ⟨v_x1, h_x2, h⟩ := bd_or h
  replace h := bif_or h; rcases h with ⟨rfl, h⟩ | ⟨rfl, h⟩
  ·
   rw [← Option.some.inj h]
   exact mF 1 hmix [aC 32 (.c (bc true))] [_] (by kernel_rfl) ⟨(nameX_ev h_x2), trivial⟩
  ·
   rw [← Option.some.inj h]
   exact mF 1 hmix [aC 32 (.c (bc false))] [_] (by kernel_rfl) ⟨(nameX_ev h_x2), trivial⟩
theorem ok31 : ∀ k s r, itS step31 k s = some r → P31 s r := itS_ok fun k rec ih s r h => match s, h with
 | .e b0_0 b0_1, h => t31_e_ok k ih h
 | .h0 w3 at4 t24 l2_0 l2_1 l2_2 l2_3 l2_4 p0_0 p0_1, h => t31_h0_ok k ih h
theorem ev31 {k : Nat} {b0_0 : ByteArray} {b0_1 : Int} {r : R31} (h : g31 k b0_0 b0_1 = some r) : Ev Tryd.prog noHand 31 [pP 0] [[sc b0_0, ic b0_1]] (res31 r) (bx31 b0_0 r) := evr31 (ok31 _ _ _ h)
inductive S43 where
 | e (from1 : Int) (b0_0 : ByteArray) (b0_1 : Int)
 | h0 (from1 to5 : Int) (p0_0 : ByteArray) (p0_1 : Int)
 | h1 (from1 to5 : Int) (t22 : Bool) (p0_0 : ByteArray) (p0_1 : Int)
abbrev R43 := ByteArray
def res43 : R43 → ARes
 | r => .ret (.c (sc r))
def bx43 (b0_0 : ByteArray) (b0_1 : Int) : R43 → List (List Cell)
 | r => [[sc b0_0, ic b0_1]]
noncomputable def t43_e (k : Nat) (rec : S43 → Option R43) (from1 : Int) (b0_0 : ByteArray) (b0_1 : Int) : Option R43 :=
 rec (.h0 from1 from1 b0_0 b0_1)
noncomputable def t43_h0 (k : Nat) (rec : S43 → Option R43) (from1 to5 : Int) (p0_0 : ByteArray) (p0_1 : Int) : Option R43 :=
 bif decide (to5 < (p0_0.size : Int)) then
  sxI p0_0 to5 fun c_x2 =>
  (g32 k c_x2).bind fun v_x4 =>
  rec (.h1 from1 to5 v_x4 p0_0 p0_1)
 else
  rec (.h1 from1 to5 false p0_0 p0_1)
noncomputable def t43_h1 (k : Nat) (rec : S43 → Option R43) (from1 to5 : Int) (t22 : Bool) (p0_0 : ByteArray) (p0_1 : Int) : Option R43 :=
 bif t22 then
  rec (.h0 from1 (IntKind.i64.wrap (to5 + 1)) p0_0 p0_1)
 else
  gd (decide (0 ≤ from1 ∧ from1 ≤ to5 ∧ to5 ≤ (p0_0.size : Int))) <|
  some (p0_0.extract (Int.toNat from1) (Int.toNat to5))
noncomputable def step43 (k : Nat) (rec : S43 → Option R43) : S43 → Option R43
 | .e from1 b0_0 b0_1 => t43_e k rec from1 b0_0 b0_1
 | .h0 from1 to5 p0_0 p0_1 => t43_h0 k rec from1 to5 p0_0 p0_1
 | .h1 from1 to5 t22 p0_0 p0_1 => t43_h1 k rec from1 to5 t22 p0_0 p0_1
noncomputable def g43 (k : Nat) (from1 : Int) (b0_0 : ByteArray) (b0_1 : Int) : Option R43 := itS step43 k (.e from1 b0_0 b0_1)
noncomputable def P43 : S43 → R43 → Prop
 | .e from1 b0_0 b0_1, r => Fin cx43 Tryd.f43 [.code body43] (fr0 Tryd.f43 [pP 0, .c (ic from1)] [[sc b0_0, ic b0_1]]) (res43 r) (bx43 b0_0 b0_1 r)
 | .h0 from1 to5 p0_0 p0_1, r => Fin cx43 Tryd.f43 (kAt body43 [1, 1, 0, 0, 4] []) ⟨[pP 0, .c (ic from1)] ++ rep 3 .deadv ++ [.c (ic to5)] ++ rep 26 .deadv, [(.par 0, [sc p0_0, ic p0_1])]⟩ (res43 r) (bx43 p0_0 p0_1 r)
 | .h1 from1 to5 t22 p0_0 p0_1, r => Fin cx43 Tryd.f43 (kAt body43 [1, 1, 0, 0, 0, 0, 1, 2] []) ⟨[pP 0, .c (ic from1)] ++ rep 3 .deadv ++ [.c (ic to5)] ++ rep 16 .deadv ++ [.c (bc t22)] ++ rep 9 .deadv, [(.par 0, [sc p0_0, ic p0_1])]⟩ (res43 r) (bx43 p0_0 p0_1 r)
theorem evr43 {from1 : Int} {b0_0 : ByteArray} {b0_1 : Int} {r : R43} (h : P43 (.e from1 b0_0 b0_1) r) : Ev Tryd.prog noHand 43 [pP 0, .c (ic from1)] [[sc b0_0, ic b0_1]] (res43 r) (bx43 b0_0 b0_1 r) := ev_of_fin (fn := Tryd.f43) (body := body43) (by kernel_rfl) (by kernel_rfl) (by kernel_rfl) rfl h
theorem t43_e_ok (k) {rec} (ih : ∀ s r, rec s = some r → P43 s r) {from1 b0_0 b0_1 r} (h : t43_e k rec from1 b0_0 b0_1 = some r) : P43 (.e from1 b0_0 b0_1) r := by
 unfold t43_e at h
 exact mA 1 hmix (ih _ _ h) 7 [] [] (bm 32 4294967260) (by kernel_rfl) trivial
theorem t43_h0_ok (k) {rec} (ih : ∀ s r, rec s = some r → P43 s r) {from1 to5 p0_0 p0_1 r} (h : t43_h0 k rec from1 to5 p0_0 p0_1 = some r) : P43 (.h0 from1 to5 p0_0 p0_1) r := by
 unfold t43_h0 at h
 rcases bif_or h with ⟨h_x1, h⟩ | ⟨h_x1, h⟩
 ·
  obtain ⟨c_x2, h_x3, h⟩ := sxI_or h
  obtain ⟨v_x4, h_x5, h⟩ := bd_or h
  exact mA 1 hmix (ih _ _ h) 4 [aT 13, (some 20, .sidx c_x2), aC 21 (.c (bc v_x4))] [_, _, _] (bm 32 4290772956) (by kernel_rfl) ⟨h_x1, h_x3, (ev32 h_x5), trivial⟩
 ·
  exact mA 1 hmix (ih _ _ h) 4 [aF 13] [_] (bm 32 4290772956) (by kernel_rfl) ⟨h_x1, trivial⟩
theorem t43_h1_ok (k) {rec} (ih : ∀ s r, rec s = some r → P43 s r) {from1 to5 t22 p0_0 p0_1 r} (h : t43_h1 k rec from1 to5 t22 p0_0 p0_1 = some r) : P43 (.h1 from1 to5 t22 p0_0 p0_1) r := by
 unfold t43_h1 at h
 replace h := bif_or h; rcases h with ⟨rfl, h⟩ | ⟨rfl, h⟩
 ·
  exact mA 1 hmix (ih _ _ h) 5 [] [] (bm 32 4294967260) (by kernel_rfl) trivial
 ·
  obtain ⟨h_x1, h⟩ := gd_or h
  rw [← Option.some.inj h]
  exact mF 1 hmix [aS 31] [_] (by kernel_rfl) ⟨of_decide_eq_true h_x1, trivial⟩
theorem ok43 : ∀ k s r, itS step43 k s = some r → P43 s r := itS_ok fun k rec ih s r h => match s, h with
 | .e from1 b0_0 b0_1, h => t43_e_ok k ih h
 | .h0 from1 to5 p0_0 p0_1, h => t43_h0_ok k ih h
 | .h1 from1 to5 t22 p0_0 p0_1, h => t43_h1_ok k ih h
theorem ev43 {k : Nat} {from1 : Int} {b0_0 : ByteArray} {b0_1 : Int} {r : R43} (h : g43 k from1 b0_0 b0_1 = some r) : Ev Tryd.prog noHand 43 [pP 0, .c (ic from1)] [[sc b0_0, ic b0_1]] (res43 r) (bx43 b0_0 b0_1 r) := evr43 (ok43 _ _ _ h)
inductive S33 where
 | e (b0_0 : ByteArray) (b0_1 : Int)
 | h0 (at3 : Int) (d4 behind5 : ByteArray) (t47 : Bool) (l2_0 : Int) (l2_1 : ByteArray) (l2_2 l2_3 l2_4 : Int) (p0_0 : ByteArray) (p0_1 : Int)
 | h1 (at3 : Int) (d4 behind5 : ByteArray) (l2_0 : Int) (l2_1 : ByteArray) (l2_2 l2_3 l2_4 : Int) (p0_0 : ByteArray) (p0_1 : Int)
 | h2 (at3 : Int) (d4 behind5 : ByteArray) (t62 : Bool) (l2_0 : Int) (l2_1 : ByteArray) (l2_2 l2_3 l2_4 : Int) (p0_0 : ByteArray) (p0_1 : Int)
abbrev R33 := (Int × Int) ⊕ (Int × ByteArray × Int × Int × Int × Int)
def res33 : R33 → ARes
 | (.inl (r_i00, r_b0_1)) => .panic (.iface 51 (.agg #[.int .i64 r_i00]))
 | (.inr (r_0, r_1, r_2, r_3, r_4, r_b0_1)) => .ret (.ag [ic r_0, sc r_1, ic r_2, ic r_3, ic r_4])
def bx33 (b0_0 : ByteArray) : R33 → List (List Cell)
 | (.inl (r_i00, r_b0_1)) => [[sc b0_0, ic r_b0_1]]
 | (.inr (r_0, r_1, r_2, r_3, r_4, r_b0_1)) => [[sc b0_0, ic r_b0_1]]
noncomputable def t33_e (k : Nat) (rec : S33 → Option R33) (b0_0 : ByteArray) (b0_1 : Int) : Option R33 :=
 (g43 k b0_1 b0_0 b0_1).bind fun v_x1 =>
 bif decide ((IntKind.i64.wrap (b0_1 + (v_x1.size : Int))) < (b0_0.size : Int)) then
  sxI b0_0 (IntKind.i64.wrap (b0_1 + (v_x1.size : Int))) fun c_x4 =>
  rec (.h0 b0_1 v_x1 (strB []) (c_x4 == 46) 0 (strB []) 0 0 0 b0_0 (IntKind.i64.wrap (b0_1 + (v_x1.size : Int))))
 else
  rec (.h0 b0_1 v_x1 (strB []) false 0 (strB []) 0 0 0 b0_0 (IntKind.i64.wrap (b0_1 + (v_x1.size : Int))))
noncomputable def t33_h0 (k : Nat) (rec : S33 → Option R33) (at3 : Int) (d4 behind5 : ByteArray) (t47 : Bool) (l2_0 : Int) (l2_1 : ByteArray) (l2_2 l2_3 l2_4 : Int) (p0_0 : ByteArray) (p0_1 : Int) : Option R33 :=
 bif t47 then
  (g43 k (IntKind.i64.wrap (p0_1 + 1)) p0_0 p0_1).bind fun v_x1 =>
  rec (.h1 at3 d4 v_x1 l2_0 l2_1 l2_2 l2_3 l2_4 p0_0 p0_1)
 else
  rec (.h1 at3 d4 behind5 l2_0 l2_1 l2_2 l2_3 l2_4 p0_0 p0_1)
noncomputable def t33_h1 (k : Nat) (rec : S33 → Option R33) (at3 : Int) (d4 behind5 : ByteArray) (l2_0 : Int) (l2_1 : ByteArray) (l2_2 l2_3 l2_4 : Int) (p0_0 : ByteArray) (p0_1 : Int) : Option R33 :=
 bif decide ((d4.size : Int) > 1) then
  sxI d4 0 fun c_x2 =>
  rec (.h2 at3 d4 behind5 (c_x2 == 48) l2_0 l2_1 l2_2 l2_3 l2_4 p0_0 p0_1)
 else
  rec (.h2 at3 d4 behind5 false l2_0 l2_1 l2_2 l2_3 l2_4 p0_0 p0_1)
noncomputable def t33_h2 (k : Nat) (rec : S33 → Option R33) (at3 : Int) (d4 behind5 : ByteArray) (t62 : Bool) (l2_0 : Int) (l2_1 : ByteArray) (l2_2 l2_3 l2_4 : Int) (p0_0 : ByteArray) (p0_1 : Int) : Option R33 :=
 bif t62 then
  some (.inl (at3, p0_1))
 else
  bif behind5.toList == (strB []).toList then
   (parseR d4).bind fun v_x2 =>
   optC v_x2 (
     some (.inl (at3, p0_1))) fun v_x4 =>
    some (.inr (3, strB [], v_x4, 0, at3, p0_1))
  else
   bif decide ((IntKind.i64.wrap ((d4.size : Int) + (behind5.size : Int))) > 15) then
    some (.inl (at3, p0_1))
   else
    gd (decide (d4.size + behind5.size ≤ 1000000000)) <|
    (parseR (d4 ++ behind5)).bind fun v_x4 =>
    optC v_x4 (
      none   /- a result that hangs on what is not told -/) fun v_x6 =>
     some (.inr (4, strB [], v_x6, (behind5.size : Int), at3, IntKind.i64.wrap (p0_1 + (IntKind.i64.wrap ((1 : Int) + (behind5.size : Int))))))
noncomputable def step33 (k : Nat) (rec : S33 → Option R33) : S33 → Option R33
 | .e b0_0 b0_1 => t33_e k rec b0_0 b0_1
 | .h0 at3 d4 behind5 t47 l2_0 l2_1 l2_2 l2_3 l2_4 p0_0 p0_1 => t33_h0 k rec at3 d4 behind5 t47 l2_0 l2_1 l2_2 l2_3 l2_4 p0_0 p0_1
 | .h1 at3 d4 behind5 l2_0 l2_1 l2_2 l2_3 l2_4 p0_0 p0_1 => t33_h1 k rec at3 d4 behind5 l2_0 l2_1 l2_2 l2_3 l2_4 p0_0 p0_1
 | .h2 at3 d4 behind5 t62 l2_0 l2_1 l2_2 l2_3 l2_4 p0_0 p0_1 => t33_h2 k rec at3 d4 behind5 t62 l2_0 l2_1 l2_2 l2_3 l2_4 p0_0 p0_1
noncomputable def g33 (k : Nat) (b0_0 : ByteArray) (b0_1 : Int) : Option R33 := itS step33 k (.e b0_0 b0_1)
noncomputable def P33 : S33 → R33 → Prop
 | .e b0_0 b0_1, r => Fin cx33 Tryd.f33 [.code body33] (fr0 Tryd.f33 [pP 0] [[sc b0_0, ic b0_1]]) (res33 r) (bx33 b0_0 r)
 | .h0 at3 d4 behind5 t47 l2_0 l2_1 l2_2 l2_3 l2_4 p0_0 p0_1, r => Fin cx33 Tryd.f33 (kAt body33 [1, 1, 1, 1, 1, 0, 1, 2] []) ⟨[pP 0, .deadv, pL 2, .c (ic at3), .c (sc d4), .c (sc behind5)] ++ rep 41 .deadv ++ [.c (bc t47)] ++ rep 64 .deadv, [(.loc 2, [ic l2_0, sc l2_1, ic l2_2, ic l2_3, ic l2_4]), (.par 0, [sc p0_0, ic p0_1])]⟩ (res33 r) (bx33 p0_0 r)
 | .h1 at3 d4 behind5 l2_0 l2_1 l2_2 l2_3 l2_4 p0_0 p0_1, r => Fin cx33 Tryd.f33 (kAt body33 [1, 1, 1, 1, 1, 1, 2] []) ⟨[pP 0, .deadv, pL 2, .c (ic at3), .c (sc d4), .c (sc behind5)] ++ rep 106 .deadv, [(.loc 2, [ic l2_0, sc l2_1, ic l2_2, ic l2_3, ic l2_4]), (.par 0, [sc p0_0, ic p0_1])]⟩ (res33 r) (bx33 p0_0 r)
 | .h2 at3 d4 behind5 t62 l2_0 l2_1 l2_2 l2_3 l2_4 p0_0 p0_1, r => Fin cx33 Tryd.f33 (kAt body33 [1, 1, 1, 1, 1, 1, 0, 1, 2] []) ⟨[pP 0, .deadv, pL 2, .c (ic at3), .c (sc d4), .c (sc behind5)] ++ rep 56 .deadv ++ [.c (bc t62)] ++ rep 49 .deadv, [(.loc 2, [ic l2_0, sc l2_1, ic l2_2, ic l2_3, ic l2_4]), (.par 0, [sc p0_0, ic p0_1])]⟩ (res33 r) (bx33 p0_0 r)
theorem evr33 {b0_0 : ByteArray} {b0_1 : Int} {r : R33} (h : P33 (.e b0_0 b0_1) r) : Ev Tryd.prog noHand 33 [pP 0] [[sc b0_0, ic b0_1]] (res33 r) (bx33 b0_0 r) := ev_of_fin (fn := Tryd.f33) (body := body33) (by kernel_rfl) (by kernel_rfl) (by kernel_rfl) rfl h
theorem t33_e_ok (k) {rec} (ih : ∀ s r, rec s = some r → P33 s r) {b0_0 b0_1 r} (h : t33_e k rec b0_0 b0_1 = some r) : P33 (.e b0_0 b0_1) r := by
 unfold t33_e at h
 obtain ⟨v_x1, h_x2, h⟩ := bd_or h
 rcases bif_or h with ⟨h_x3, h⟩ | ⟨h_x3, h⟩
 ·
  obtain ⟨c_x4, h_x5, h⟩ := sxI_or h
  exact mA 1 hmix (ih _ _ h) 13 [(some 16, .call (.ret (.c (sc v_x1))) [[sc b0_0, ic b0_1]] false), aT 35, (some 45, .sidx c_x4)] [_, _, _] (bm 112 5192296858534827628389758840864706) (by kernel_rfl) ⟨(ev43 h_x2), h_x3, h_x5, trivial⟩
 ·
  exact mA 1 hmix (ih _ _ h) 13 [(some 16, .call (.ret (.c (sc v_x1))) [[sc b0_0, ic b0_1]] false), aF 35] [_, _] (bm 112 5192296858534827628389758840864706) (by kernel_rfl) ⟨(ev43 h_x2), h_x3, trivial⟩
theorem t33_h0_ok (k) {rec} (ih : ∀ s r, rec s = some r → P33 s r) {at3 d4 behind5 t47 l2_0 l2_1 l2_2 l2_3 l2_4 p0_0 p0_1 r} (h : t33_h0 k rec at3 d4 behind5 t47 l2_0 l2_1 l2_2 l2_3 l2_4 p0_0 p0_1 = some r) : P33 (.h0 at3 d4 behind5 t47 l2_0 l2_1 l2_2 l2_3 l2_4 p0_0 p0_1) r := by
 unfold t33_h0 at h
 replace h := bif_or h; rcases h with ⟨rfl, h⟩ | ⟨rfl, h⟩
 ·
  obtain ⟨v_x1, h_x2, h⟩ := bd_or h
  exact mA 1 hmix (ih _ _ h) 2 [(some 54, .call (.ret (.c (sc v_x1))) [[sc p0_0, ic p0_1]] false)] [_] (bm 112 5192296858534827628530496329220034) (by kernel_rfl) ⟨(ev43 h_x2), trivial⟩
 ·
  exact mA 1 hmix (ih _ _ h) 2 [] [] (bm 112 5192296858534827628530496329220034) (by kernel_rfl) trivial
theorem t33_h1_ok (k) {rec} (ih : ∀ s r, rec s = some r → P33 s r) {at3 d4 behind5 l2_0 l2_1 l2_2 l2_3 l2_4 p0_0 p0_1 r} (h : t33_h1 k rec at3 d4 behind5 l2_0 l2_1 l2_2 l2_3 l2_4 p0_0 p0_1 = some r) : P33 (.h1 at3 d4 behind5 l2_0 l2_1 l2_2 l2_3 l2_4 p0_0 p0_1) r := by
 unfold t33_h1 at h
 rcases bif_or h with ⟨h_x1, h⟩ | ⟨h_x1, h⟩
 ·
  obtain ⟨c_x2, h_x3, h⟩ := sxI_or h
  exact mA 1 hmix (ih _ _ h) 3 [aT 57, (some 60, .sidx c_x2)] [_, _] (bm 112 5192296858534823016844477901832130) (by kernel_rfl) ⟨h_x1, h_x3, trivial⟩
 ·
  exact mA 1 hmix (ih _ _ h) 3 [aF 57] [_] (bm 112 5192296858534823016844477901832130) (by kernel_rfl) ⟨h_x1, trivial⟩
theorem t33_h2_ok (k) {rec} (ih : ∀ s r, rec s = some r → P33 s r) {at3 d4 behind5 t62 l2_0 l2_1 l2_2 l2_3 l2_4 p0_0 p0_1 r} (h : t33_h2 k rec at3 d4 behind5 t62 l2_0 l2_1 l2_2 l2_3 l2_4 p0_0 p0_1 = some r) : P33 (.h2 at3 d4 behind5 t62 l2_0 l2_1 l2_2 l2_3 l2_4 p0_0 p0_1) r := by
 unfold t33_h2 at h
 replace h := bif_or h; rcases h with ⟨rfl, h⟩ | ⟨rfl, h⟩
 ·
  rw [← Option.some.inj h]
  exact mF 1 hmix [] [] (by kernel_rfl) trivial
 ·
  rcases bif_or h with ⟨h_x1, h⟩ | ⟨h_x1, h⟩
  ·
   obtain ⟨v_x2, h_x3, h⟩ := bd_or h
   replace h := optC_or h; rcases h with ⟨v_x4, rfl, h⟩ | ⟨rfl, h⟩
   ·
    rw [← Option.some.inj h]
    exact mF 1 hmix [aT 67, aC 70 ⟨.tup [false, false], [[ic v_x4], [.val .nilIface]]⟩] [_, _] (by kernel_rfl) ⟨h_x1, (parseR_ev h_x3), trivial⟩
   ·
    rw [← Option.some.inj h]
    exact mA 1 hmix (errK_fin (parseRE_ev h_x3) (K0 := (kAt body33 [1, 1, 1, 1, 1, 1, 1, 0, 1, 0, 0, 2] [])) (F := ⟨[pP 0, .deadv, pL 2, .c (ic at3), .c (sc d4), .c (sc behind5)] ++ rep 56 .deadv ++ [.c (bc false)] ++ rep 3 .deadv ++ [.c (sc behind5), .c (bc true)] ++ rep 44 .deadv, [(.loc 2, [ic l2_0, sc l2_1, ic l2_2, ic l2_3, ic l2_4]), (.par 0, [sc p0_0, ic p0_1])]⟩) (K1 := (kAt body33 [1, 1, 1, 1, 1, 1, 1, 0, 1, 0, 0, 3] [])) (F3 := fun xe1 => ⟨[pP 0, .deadv, pL 2, .c (ic at3), .c (sc d4), .c (sc behind5), .c (ic xe1.1), .c (.val (.iface 88 (.pointer (some ⟨xe1.2, 0, none⟩))))] ++ rep 54 .deadv ++ [.c (bc false)] ++ rep 3 .deadv ++ [.c (sc behind5), .c (bc true), ⟨.tup [false, false], [[ic xe1.1], [.val (.iface 88 (.pointer (some ⟨xe1.2, 0, none⟩)))]]⟩, .c (sc d4), ⟨.tup [false, false], [[ic xe1.1], [.val (.iface 88 (.pointer (some ⟨xe1.2, 0, none⟩)))]]⟩, .c (ic xe1.1), .c (.val (.iface 88 (.pointer (some ⟨xe1.2, 0, none⟩))))] ++ rep 39 .deadv, [(.loc 2, [ic l2_0, sc l2_1, ic l2_2, ic l2_3, ic l2_4]), (.par 0, [sc p0_0, ic p0_1])]⟩) (j := 1) (ad1 := []) (ad2 := fun xe1 => []) (ps := fun xe1 => [isX 44 [.c (sc d4), .c (ic 10), .c (ic 64)] (errAV xe1) 44 [.c (sc d4), .c (ic 10), .c (ic 64)] [] (.ret (errAV xe1)) []]) (thaw := true) ((0, 0)) (fun xe1 => mgo_fin (nb := 1) hmix (n := 2000) (ad := []) (ps := []) (by kernel_rfl) trivial) (fun xe1 => by kernel_rfl) (fun xe1 => ⟨⟨rfl, rfl, rfl, rfl, rfl⟩, trivial⟩)) 7 [aT 67] [_] (bm 112 0) (by kernel_rfl) ⟨h_x1, trivial⟩
  ·
   rcases bif_or h with ⟨h_x2, h⟩ | ⟨h_x2, h⟩
   ·
    rw [← Option.some.inj h]
    exact mF 1 hmix [aF 67, aT 86] [_, _] (by kernel_rfl) ⟨h_x1, h_x2, trivial⟩
   ·
    obtain ⟨h_x3, h⟩ := gd_or h
    obtain ⟨v_x4, h_x5, h⟩ := bd_or h
    replace h := optC_or h; rcases h with ⟨v_x6, rfl, h⟩ | ⟨rfl, h⟩
    ·
     rw [← Option.some.inj h]
     exact mF 1 hmix [aF 67, aF 86, (some 103, .scat), aC 104 ⟨.tup [false, false], [[ic v_x6], [.val .nilIface]]⟩] [_, _, _, _] (by kernel_rfl) ⟨h_x1, h_x2, of_decide_eq_true h_x3, (parseR_ev h_x5), trivial⟩
    ·
     cases h
theorem ok33 : ∀ k s r, itS step33 k s = some r → P33 s r := itS_ok fun k rec ih s r h => match s, h with
 | .e b0_0 b0_1, h => t33_e_ok k ih h
 | .h0 at3 d4 behind5 t47 l2_0 l2_1 l2_2 l2_3 l2_4 p0_0 p0_1, h => t33_h0_ok k ih h
 | .h1 at3 d4 behind5 l2_0 l2_1 l2_2 l2_3 l2_4 p0_0 p0_1, h => t33_h1_ok k ih h
 | .h2 at3 d4 behind5 t62 l2_0 l2_1 l2_2 l2_3 l2_4 p0_0 p0_1, h => t33_h2_ok k ih h
theorem ev33 {k : Nat} {b0_0 : ByteArray} {b0_1 : Int} {r : R33} (h : g33 k b0_0 b0_1 = some r) : Ev Tryd.prog noHand 33 [pP 0] [[sc b0_0, ic b0_1]] (res33 r) (bx33 b0_0 r) := evr33 (ok33 _ _ _ h)
inductive S34 where
 | e (b0_0 : ByteArray) (b0_1 : Int)
 | h0 (at3 : Int) (w4 : ByteArray) (to5 : Int) (t39 : Bool) (l2_0 : Int) (l2_1 : ByteArray) (l2_2 l2_3 l2_4 : Int) (p0_0 : ByteArray) (p0_1 : Int)
abbrev R34 := (Int × Int) ⊕ (Int × ByteArray × Int × Int × Int × Int)
def res34 : R34 → ARes
 | (.inl (r_i00, r_b0_1)) => .panic (.iface 51 (.agg #[.int .i64 r_i00]))
 | (.inr (r_0, r_1, r_2, r_3, r_4, r_b0_1)) => .ret (.ag [ic r_0, sc r_1, ic r_2, ic r_3, ic r_4])
def bx34 (b0_0 : ByteArray) : R34 → List (List Cell)
 | (.inl (r_i00, r_b0_1)) => [[sc b0_0, ic r_b0_1]]
 | (.inr (r_0, r_1, r_2, r_3, r_4, r_b0_1)) => [[sc b0_0, ic r_b0_1]]
noncomputable def t34_e (k : Nat) (rec : S34 → Option R34) (b0_0 : ByteArray) (b0_1 : Int) : Option R34 :=
 (g41 k (IntKind.i64.wrap (b0_1 + 1)) b0_0 b0_1).bind fun v_x1 =>
 (nameX v_x1).bind fun v_x3 =>
 bif !v_x3 then
  rec (.h0 b0_1 v_x1 (IntKind.i64.wrap ((IntKind.i64.wrap (b0_1 + 1)) + (v_x1.size : Int))) true 0 (strB []) 0 0 0 b0_0 b0_1)
 else
  bif (IntKind.i64.wrap ((IntKind.i64.wrap (b0_1 + 1)) + (v_x1.size : Int))) == (b0_0.size : Int) then
   rec (.h0 b0_1 v_x1 (IntKind.i64.wrap ((IntKind.i64.wrap (b0_1 + 1)) + (v_x1.size : Int))) true 0 (strB []) 0 0 0 b0_0 b0_1)
  else
   sxI b0_0 (IntKind.i64.wrap ((IntKind.i64.wrap (b0_1 + 1)) + (v_x1.size : Int))) fun c_x7 =>
   rec (.h0 b0_1 v_x1 (IntKind.i64.wrap ((IntKind.i64.wrap (b0_1 + 1)) + (v_x1.size : Int))) (c_x7 != 39) 0 (strB []) 0 0 0 b0_0 b0_1)
noncomputable def t34_h0 (k : Nat) (rec : S34 → Option R34) (at3 : Int) (w4 : ByteArray) (to5 : Int) (t39 : Bool) (l2_0 : Int) (l2_1 : ByteArray) (l2_2 l2_3 l2_4 : Int) (p0_0 : ByteArray) (p0_1 : Int) : Option R34 :=
 bif t39 then
  some (.inl (at3, p0_1))
 else
  some (.inr (5, w4, 0, 0, at3, IntKind.i64.wrap (to5 + 1)))
noncomputable def step34 (k : Nat) (rec : S34 → Option R34) : S34 → Option R34
 | .e b0_0 b0_1 => t34_e k rec b0_0 b0_1
 | .h0 at3 w4 to5 t39 l2_0 l2_1 l2_2 l2_3 l2_4 p0_0 p0_1 => t34_h0 k rec at3 w4 to5 t39 l2_0 l2_1 l2_2 l2_3 l2_4 p0_0 p0_1
noncomputable def g34 (k : Nat) (b0_0 : ByteArray) (b0_1 : Int) : Option R34 := itS step34 k (.e b0_0 b0_1)
noncomputable def P34 : S34 → R34 → Prop
 | .e b0_0 b0_1, r => Fin cx34 Tryd.f34 [.code body34] (fr0 Tryd.f34 [pP 0] [[sc b0_0, ic b0_1]]) (res34 r) (bx34 b0_0 r)
 | .h0 at3 w4 to5 t39 l2_0 l2_1 l2_2 l2_3 l2_4 p0_0 p0_1, r => Fin cx34 Tryd.f34 (kAt body34 [1, 1, 1, 1, 0, 1, 2] []) ⟨[pP 0, .deadv, pL 2, .c (ic at3), .c (sc w4), .c (ic to5)] ++ rep 33 .deadv ++ [.c (bc t39)] ++ rep 11 .deadv, [(.loc 2, [ic l2_0, sc l2_1, ic l2_2, ic l2_3, ic l2_4]), (.par 0, [sc p0_0, ic p0_1])]⟩ (res34 r) (bx34 p0_0 r)
theorem evr34 {b0_0 : ByteArray} {b0_1 : Int} {r : R34} (h : P34 (.e b0_0 b0_1) r) : Ev Tryd.prog noHand 34 [pP 0] [[sc b0_0, ic b0_1]] (res34 r) (bx34 b0_0 r) := ev_of_fin (fn := Tryd.f34) (body := body34) (by kernel_rfl) (by kernel_rfl) (by kernel_rfl) rfl h
theorem t34_e_ok (k) {rec} (ih : ∀ s r, rec s = some r → P34 s r) {b0_0 b0_1 r} (h : t34_e k rec b0_0 b0_1 = some r) : P34 (.e b0_0 b0_1) r := by
 unfold t34_e at h
 obtain ⟨v_x1, h_x2, h⟩ := bd_or h
 obtain ⟨v_x3, h_x4, h⟩ := bd_or h
 rcases bif_or h with ⟨h_x5, h⟩ | ⟨h_x5, h⟩
 ·
  exact mA 1 hmix (ih _ _ h) 11 [(some 13, .call (.ret (.c (sc v_x1))) [[sc b0_0, ic b0_1]] false), aC 20 (.c (bc v_x3)), aT 21] [_, _, _] (bm 51 2251250057871298) (by kernel_rfl) ⟨(ev41 h_x2), (nameX_ev h_x4), h_x5, trivial⟩
 ·
  rcases bif_or h with ⟨h_x6, h⟩ | ⟨h_x6, h⟩
  ·
   exact mA 1 hmix (ih _ _ h) 11 [(some 13, .call (.ret (.c (sc v_x1))) [[sc b0_0, ic b0_1]] false), aC 20 (.c (bc v_x3)), aF 21, aT 29] [_, _, _, _] (bm 51 2251250057871298) (by kernel_rfl) ⟨(ev41 h_x2), (nameX_ev h_x4), h_x5, h_x6, trivial⟩
  ·
   obtain ⟨c_x7, h_x8, h⟩ := sxI_or h
   exact mA 1 hmix (ih _ _ h) 11 [(some 13, .call (.ret (.c (sc v_x1))) [[sc b0_0, ic b0_1]] false), aC 20 (.c (bc v_x3)), aF 21, aF 29, (some 37, .sidx c_x7)] [_, _, _, _, _] (bm 51 2251250057871298) (by kernel_rfl) ⟨(ev41 h_x2), (nameX_ev h_x4), h_x5, h_x6, h_x8, trivial⟩
theorem t34_h0_ok (k) {rec} (ih : ∀ s r, rec s = some r → P34 s r) {at3 w4 to5 t39 l2_0 l2_1 l2_2 l2_3 l2_4 p0_0 p0_1 r} (h : t34_h0 k rec at3 w4 to5 t39 l2_0 l2_1 l2_2 l2_3 l2_4 p0_0 p0_1 = some r) : P34 (.h0 at3 w4 to5 t39 l2_0 l2_1 l2_2 l2_3 l2_4 p0_0 p0_1) r := by
 unfold t34_h0 at h
 replace h := bif_or h; rcases h with ⟨rfl, h⟩ | ⟨rfl, h⟩
 ·
  rw [← Option.some.inj h]
  exact mF 1 hmix [] [] (by kernel_rfl) trivial
 ·
  rw [← Option.some.inj h]
  exact mF 1 hmix [] [] (by kernel_rfl) trivial
theorem ok34 : ∀ k s r, itS step34 k s = some r → P34 s r := itS_ok fun k rec ih s r h => match s, h with
 | .e b0_0 b0_1, h => t34_e_ok k ih h
 | .h0 at3 w4 to5 t39 l2_0 l2_1 l2_2 l2_3 l2_4 p0_0 p0_1, h => t34_h0_ok k ih h
theorem ev34 {k : Nat} {b0_0 : ByteArray} {b0_1 : Int} {r : R34} (h : g34 k b0_0 b0_1 = some r) : Ev Tryd.prog noHand 34 [pP 0] [[sc b0_0, ic b0_1]] (res34 r) (bx34 b0_0 r) := evr34 (ok34 _ _ _ h)
inductive S35 where
 | e (b0_0 : ByteArray) (b0_1 : Int)
 | h0 (at3 n5 t16 : Int) (t17 : Bool) (l2_0 : Int) (l2_1 : ByteArray) (l2_2 l2_3 l2_4 : Int) (p0_0 : ByteArray) (p0_1 : Int)
 | h1 (at3 n5 : Int) (t50 : Bool) (l2_0 : Int) (l2_1 : ByteArray) (l2_2 l2_3 l2_4 : Int) (p0_0 : ByteArray) (p0_1 : Int)
 | h2 (at3 n5 : Int) (t21 : Bool) (l2_0 : Int) (l2_1 : ByteArray) (l2_2 l2_3 l2_4 : Int) (p0_0 : ByteArray) (p0_1 : Int)
 | h3 (at3 n5 l2_0 : Int) (l2_1 : ByteArray) (l2_2 l2_3 l2_4 : Int) (p0_0 : ByteArray) (p0_1 : Int)
abbrev R35 := (Int × ByteArray × Int × Int × Int × Int) ⊕ (Int × Int)
def res35 : R35 → ARes
 | (.inl (r_0, r_1, r_2, r_3, r_4, r_b0_1)) => .ret (.ag [ic r_0, sc r_1, ic r_2, ic r_3, ic r_4])
 | (.inr (r_i00, r_b0_1)) => .panic (.iface 51 (.agg #[.int .i64 r_i00]))
def bx35 (b0_0 : ByteArray) : R35 → List (List Cell)
 | (.inl (r_0, r_1, r_2, r_3, r_4, r_b0_1)) => [[sc b0_0, ic r_b0_1]]
 | (.inr (r_i00, r_b0_1)) => [[sc b0_0, ic r_b0_1]]
noncomputable def t35_e (k : Nat) (rec : S35 → Option R35) (b0_0 : ByteArray) (b0_1 : Int) : Option R35 :=
 sxI b0_0 b0_1 fun c_x1 =>
 bif c_x1 == 33 then
  rec (.h0 b0_1 1 c_x1 true 0 (strB []) 0 0 0 b0_0 b0_1)
 else
  bif c_x1 == 60 then
   rec (.h0 b0_1 1 c_x1 true 0 (strB []) 0 0 0 b0_0 b0_1)
  else
   rec (.h0 b0_1 1 c_x1 (c_x1 == 62) 0 (strB []) 0 0 0 b0_0 b0_1)
noncomputable def t35_h0 (k : Nat) (rec : S35 → Option R35) (at3 n5 t16 : Int) (t17 : Bool) (l2_0 : Int) (l2_1 : ByteArray) (l2_2 l2_3 l2_4 : Int) (p0_0 : ByteArray) (p0_1 : Int) : Option R35 :=
 bif t17 then
  bif decide ((IntKind.i64.wrap (at3 + 1)) < (p0_0.size : Int)) then
   sxI p0_0 (IntKind.i64.wrap (at3 + 1)) fun c_x2 =>
   rec (.h1 at3 n5 (c_x2 == 61) l2_0 l2_1 l2_2 l2_3 l2_4 p0_0 p0_1)
  else
   rec (.h1 at3 n5 false l2_0 l2_1 l2_2 l2_3 l2_4 p0_0 p0_1)
 else
  bif t16 == 40 then
   rec (.h2 at3 n5 true l2_0 l2_1 l2_2 l2_3 l2_4 p0_0 p0_1)
  else
   bif t16 == 41 then
    rec (.h2 at3 n5 true l2_0 l2_1 l2_2 l2_3 l2_4 p0_0 p0_1)
   else
    bif t16 == 44 then
     rec (.h2 at3 n5 true l2_0 l2_1 l2_2 l2_3 l2_4 p0_0 p0_1)
    else
     bif t16 == 46 then
      rec (.h2 at3 n5 true l2_0 l2_1 l2_2 l2_3 l2_4 p0_0 p0_1)
     else
      bif t16 == 43 then
       rec (.h2 at3 n5 true l2_0 l2_1 l2_2 l2_3 l2_4 p0_0 p0_1)
      else
       bif t16 == 45 then
        rec (.h2 at3 n5 true l2_0 l2_1 l2_2 l2_3 l2_4 p0_0 p0_1)
       else
        bif t16 == 42 then
         rec (.h2 at3 n5 true l2_0 l2_1 l2_2 l2_3 l2_4 p0_0 p0_1)
        else
         bif t16 == 47 then
          rec (.h2 at3 n5 true l2_0 l2_1 l2_2 l2_3 l2_4 p0_0 p0_1)
         else
          bif t16 == 37 then
           rec (.h2 at3 n5 true l2_0 l2_1 l2_2 l2_3 l2_4 p0_0 p0_1)
          else
           bif t16 == 61 then
            rec (.h2 at3 n5 true l2_0 l2_1 l2_2 l2_3 l2_4 p0_0 p0_1)
           else
            rec (.h2 at3 n5 (t16 == 124) l2_0 l2_1 l2_2 l2_3 l2_4 p0_0 p0_1)
noncomputable def t35_h1 (k : Nat) (rec : S35 → Option R35) (at3 n5 : Int) (t50 : Bool) (l2_0 : Int) (l2_1 : ByteArray) (l2_2 l2_3 l2_4 : Int) (p0_0 : ByteArray) (p0_1 : Int) : Option R35 :=
 bif t50 then
  rec (.h3 at3 2 l2_0 l2_1 l2_2 l2_3 l2_4 p0_0 p0_1)
 else
  rec (.h3 at3 n5 l2_0 l2_1 l2_2 l2_3 l2_4 p0_0 p0_1)
noncomputable def t35_h2 (k : Nat) (rec : S35 → Option R35) (at3 n5 : Int) (t21 : Bool) (l2_0 : Int) (l2_1 : ByteArray) (l2_2 l2_3 l2_4 : Int) (p0_0 : ByteArray) (p0_1 : Int) : Option R35 :=
 bif t21 then
  rec (.h3 at3 n5 l2_0 l2_1 l2_2 l2_3 l2_4 p0_0 p0_1)
 else
  some (.inr (at3, p0_1))
noncomputable def t35_h3 (k : Nat) (rec : S35 → Option R35) (at3 n5 l2_0 : Int) (l2_1 : ByteArray) (l2_2 l2_3 l2_4 : Int) (p0_0 : ByteArray) (p0_1 : Int) : Option R35 :=
 gd (decide (0 ≤ at3 ∧ at3 ≤ (IntKind.i64.wrap (p0_1 + n5)) ∧ (IntKind.i64.wrap (p0_1 + n5)) ≤ (p0_0.size : Int))) <|
 some (.inl (6, (p0_0.extract (Int.toNat at3) (Int.toNat (IntKind.i64.wrap (p0_1 + n5)))), 0, 0, at3, IntKind.i64.wrap (p0_1 + n5)))
noncomputable def step35 (k : Nat) (rec : S35 → Option R35) : S35 → Option R35
 | .e b0_0 b0_1 => t35_e k rec b0_0 b0_1
 | .h0 at3 n5 t16 t17 l2_0 l2_1 l2_2 l2_3 l2_4 p0_0 p0_1 => t35_h0 k rec at3 n5 t16 t17 l2_0 l2_1 l2_2 l2_3 l2_4 p0_0 p0_1
 | .h1 at3 n5 t50 l2_0 l2_1 l2_2 l2_3 l2_4 p0_0 p0_1 => t35_h1 k rec at3 n5 t50 l2_0 l2_1 l2_2 l2_3 l2_4 p0_0 p0_1
 | .h2 at3 n5 t21 l2_0 l2_1 l2_2 l2_3 l2_4 p0_0 p0_1 => t35_h2 k rec at3 n5 t21 l2_0 l2_1 l2_2 l2_3 l2_4 p0_0 p0_1
 | .h3 at3 n5 l2_0 l2_1 l2_2 l2_3 l2_4 p0_0 p0_1 => t35_h3 k rec at3 n5 l2_0 l2_1 l2_2 l2_3 l2_4 p0_0 p0_1
noncomputable def g35 (k : Nat) (b0_0 : ByteArray) (b0_1 : Int) : Option R35 := itS step35 k (.e b0_0 b0_1)
noncomputable def P35 : S35 → R35 → Prop
 | .e b0_0 b0_1, r => Fin cx35 Tryd.f35 [.code body35] (fr0 Tryd.f35 [pP 0] [[sc b0_0, ic b0_1]]) (res35 r) (bx35 b0_0 r)
 | .h0 at3 n5 t16 t17 l2_0 l2_1 l2_2 l2_3 l2_4 p0_0 p0_1, r => Fin cx35 Tryd.f35 (kAt body35 [1, 1, 1, 1, 0, 1, 0, 0, 0, 0, 0, 0, 0, 1, 2] []) ⟨[pP 0, .deadv, pL 2, .c (ic at3), .deadv, .c (ic n5)] ++ rep 10 .deadv ++ [.c (.val (.int .u8 t16)), .c (bc t17)] ++ rep 56 .deadv, [(.loc 2, [ic l2_0, sc l2_1, ic l2_2, ic l2_3, ic l2_4]), (.par 0, [sc p0_0, ic p0_1])]⟩ (res35 r) (bx35 p0_0 r)
 | .h1 at3 n5 t50 l2_0 l2_1 l2_2 l2_3 l2_4 p0_0 p0_1, r => Fin cx35 Tryd.f35 (kAt body35 [1, 1, 1, 1, 0, 1, 0, 0, 0, 1, 1, 2] []) ⟨[pP 0, .deadv, pL 2, .c (ic at3), .deadv, .c (ic n5)] ++ rep 44 .deadv ++ [.c (bc t50)] ++ rep 23 .deadv, [(.loc 2, [ic l2_0, sc l2_1, ic l2_2, ic l2_3, ic l2_4]), (.par 0, [sc p0_0, ic p0_1])]⟩ (res35 r) (bx35 p0_0 r)
 | .h2 at3 n5 t21 l2_0 l2_1 l2_2 l2_3 l2_4 p0_0 p0_1, r => Fin cx35 Tryd.f35 (kAt body35 [1, 1, 1, 1, 0, 1, 0, 0, 0, 0, 0, 0, 1, 1, 2] []) ⟨[pP 0, .deadv, pL 2, .c (ic at3), .deadv, .c (ic n5)] ++ rep 15 .deadv ++ [.c (bc t21)] ++ rep 52 .deadv, [(.loc 2, [ic l2_0, sc l2_1, ic l2_2, ic l2_3, ic l2_4]), (.par 0, [sc p0_0, ic p0_1])]⟩ (res35 r) (bx35 p0_0 r)
 | .h3 at3 n5 l2_0 l2_1 l2_2 l2_3 l2_4 p0_0 p0_1, r => Fin cx35 Tryd.f35 (kAt body35 [1, 1, 1, 1, 0, 1, 0, 1, 2] []) ⟨[pP 0, .deadv, pL 2, .c (ic at3), .deadv, .c (ic n5)] ++ rep 68 .deadv, [(.loc 2, [ic l2_0, sc l2_1, ic l2_2, ic l2_3, ic l2_4]), (.par 0, [sc p0_0, ic p0_1])]⟩ (res35 r) (bx35 p0_0 r)
theorem evr35 {b0_0 : ByteArray} {b0_1 : Int} {r : R35} (h : P35 (.e b0_0 b0_1) r) : Ev Tryd.prog noHand 35 [pP 0] [[sc b0_0, ic b0_1]] (res35 r) (bx35 b0_0 r) := ev_of_fin (fn := Tryd.f35) (body := body35) (by kernel_rfl) (by kernel_rfl) (by kernel_rfl) rfl h
theorem t35_e_ok (k) {rec} (ih : ∀ s r, rec s = some r → P35 s r) {b0_0 b0_1 r} (h : t35_e k rec b0_0 b0_1 = some r) : P35 (.e b0_0 b0_1) r := by
 unfold t35_e at h
 obtain ⟨c_x1, h_x2, h⟩ := sxI_or h
 rcases bif_or h with ⟨h_x3, h⟩ | ⟨h_x3, h⟩
 ·
  exact mA 1 hmix (ih _ _ h) 23 [(some 15, .sidx c_x1), aT 18] [_, _] (bm 74 18889465931478580658130) (by kernel_rfl) ⟨h_x2, h_x3, trivial⟩
 ·
  rcases bif_or h with ⟨h_x4, h⟩ | ⟨h_x4, h⟩
  ·
   exact mA 1 hmix (ih _ _ h) 26 [(some 15, .sidx c_x1), aF 18, aT 19] [_, _, _] (bm 74 18889465931478580658130) (by kernel_rfl) ⟨h_x2, h_x3, h_x4, trivial⟩
  ·
   exact mA 1 hmix (ih _ _ h) 26 [(some 15, .sidx c_x1), aF 18, aF 19] [_, _, _] (bm 74 18889465931478580658130) (by kernel_rfl) ⟨h_x2, h_x3, h_x4, trivial⟩
theorem t35_h0_ok (k) {rec} (ih : ∀ s r, rec s = some r → P35 s r) {at3 n5 t16 t17 l2_0 l2_1 l2_2 l2_3 l2_4 p0_0 p0_1 r} (h : t35_h0 k rec at3 n5 t16 t17 l2_0 l2_1 l2_2 l2_3 l2_4 p0_0 p0_1 = some r) : P35 (.h0 at3 n5 t16 t17 l2_0 l2_1 l2_2 l2_3 l2_4 p0_0 p0_1) r := by
 unfold t35_h0 at h
 replace h := bif_or h; rcases h with ⟨rfl, h⟩ | ⟨rfl, h⟩
 ·
  rcases bif_or h with ⟨h_x1, h⟩ | ⟨h_x1, h⟩
  ·
   obtain ⟨c_x2, h_x3, h⟩ := sxI_or h
   exact mA 1 hmix (ih _ _ h) 4 [aT 40, (some 48, .sidx c_x2)] [_, _] (bm 74 18889464805578674012114) (by kernel_rfl) ⟨h_x1, h_x3, trivial⟩
  ·
   exact mA 1 hmix (ih _ _ h) 4 [aF 40] [_] (bm 74 18889464805578674012114) (by kernel_rfl) ⟨h_x1, trivial⟩
 ·
  rcases bif_or h with ⟨h_x1, h⟩ | ⟨h_x1, h⟩
  ·
   exact mA 1 hmix (ih _ _ h) 7 [aT 22] [_] (bm 74 18889465931478578757586) (by kernel_rfl) ⟨h_x1, trivial⟩
  ·
   rcases bif_or h with ⟨h_x2, h⟩ | ⟨h_x2, h⟩
   ·
    exact mA 1 hmix (ih _ _ h) 10 [aF 22, aT 23] [_, _] (bm 74 18889465931478578757586) (by kernel_rfl) ⟨h_x1, h_x2, trivial⟩
   ·
    rcases bif_or h with ⟨h_x3, h⟩ | ⟨h_x3, h⟩
    ·
     exact mA 1 hmix (ih _ _ h) 13 [aF 22, aF 23, aT 24] [_, _, _] (bm 74 18889465931478578757586) (by kernel_rfl) ⟨h_x1, h_x2, h_x3, trivial⟩
    ·
     rcases bif_or h with ⟨h_x4, h⟩ | ⟨h_x4, h⟩
     ·
      exact mA 1 hmix (ih _ _ h) 16 [aF 22, aF 23, aF 24, aT 25] [_, _, _, _] (bm 74 18889465931478578757586) (by kernel_rfl) ⟨h_x1, h_x2, h_x3, h_x4, trivial⟩
     ·
      rcases bif_or h with ⟨h_x5, h⟩ | ⟨h_x5, h⟩
      ·
       exact mA 1 hmix (ih _ _ h) 19 [aF 22, aF 23, aF 24, aF 25, aT 26] [_, _, _, _, _] (bm 74 18889465931478578757586) (by kernel_rfl) ⟨h_x1, h_x2, h_x3, h_x4, h_x5, trivial⟩
      ·
       rcases bif_or h with ⟨h_x6, h⟩ | ⟨h_x6, h⟩
       ·
        exact mA 1 hmix (ih _ _ h) 22 [aF 22, aF 23, aF 24, aF 25, aF 26, aT 27] [_, _, _, _, _, _] (bm 74 18889465931478578757586) (by kernel_rfl) ⟨h_x1, h_x2, h_x3, h_x4, h_x5, h_x6, trivial⟩
       ·
        rcases bif_or h with ⟨h_x7, h⟩ | ⟨h_x7, h⟩
        ·
         exact mA 1 hmix (ih _ _ h) 25 [aF 22, aF 23, aF 24, aF 25, aF 26, aF 27, aT 28] [_, _, _, _, _, _, _] (bm 74 18889465931478578757586) (by kernel_rfl) ⟨h_x1, h_x2, h_x3, h_x4, h_x5, h_x6, h_x7, trivial⟩
        ·
         rcases bif_or h with ⟨h_x8, h⟩ | ⟨h_x8, h⟩
         ·
          exact mA 1 hmix (ih _ _ h) 28 [aF 22, aF 23, aF 24, aF 25, aF 26, aF 27, aF 28, aT 29] [_, _, _, _, _, _, _, _] (bm 74 18889465931478578757586) (by kernel_rfl) ⟨h_x1, h_x2, h_x3, h_x4, h_x5, h_x6, h_x7, h_x8, trivial⟩
         ·
          rcases bif_or h with ⟨h_x9, h⟩ | ⟨h_x9, h⟩
          ·
           exact mA 1 hmix (ih _ _ h) 31 [aF 22, aF 23, aF 24, aF 25, aF 26, aF 27, aF 28, aF 29, aT 30] [_, _, _, _, _, _, _, _, _] (bm 74 18889465931478578757586) (by kernel_rfl) ⟨h_x1, h_x2, h_x3, h_x4, h_x5, h_x6, h_x7, h_x8, h_x9, trivial⟩
          ·
           rcases bif_or h with ⟨h_x10, h⟩ | ⟨h_x10, h⟩
           ·
            exact mA 1 hmix (ih _ _ h) 34 [aF 22, aF 23, aF 24, aF 25, aF 26, aF 27, aF 28, aF 29, aF 30, aT 31] [_, _, _, _, _, _, _, _, _, _] (bm 74 18889465931478578757586) (by kernel_rfl) ⟨h_x1, h_x2, h_x3, h_x4, h_x5, h_x6, h_x7, h_x8, h_x9, h_x10, trivial⟩
           ·
            exact mA 1 hmix (ih _ _ h) 34 [aF 22, aF 23, aF 24, aF 25, aF 26, aF 27, aF 28, aF 29, aF 30, aF 31] [_, _, _, _, _, _, _, _, _, _] (bm 74 18889465931478578757586) (by kernel_rfl) ⟨h_x1, h_x2, h_x3, h_x4, h_x5, h_x6, h_x7, h_x8, h_x9, h_x10, trivial⟩
theorem t35_h1_ok (k) {rec} (ih : ∀ s r, rec s = some r → P35 s r) {at3 n5 t50 l2_0 l2_1 l2_2 l2_3 l2_4 p0_0 p0_1 r} (h : t35_h1 k rec at3 n5 t50 l2_0 l2_1 l2_2 l2_3 l2_4 p0_0 p0_1 = some r) : P35 (.h1 at3 n5 t50 l2_0 l2_1 l2_2 l2_3 l2_4 p0_0 p0_1) r := by
 unfold t35_h1 at h
 replace h := bif_or h; rcases h with ⟨rfl, h⟩ | ⟨rfl, h⟩
 ·
  exact mA 1 hmix (ih _ _ h) 3 [] [] (bm 74 18889465931478580854738) (by kernel_rfl) trivial
 ·
  exact mA 1 hmix (ih _ _ h) 3 [] [] (bm 74 18889465931478580854738) (by kernel_rfl) trivial
theorem t35_h2_ok (k) {rec} (ih : ∀ s r, rec s = some r → P35 s r) {at3 n5 t21 l2_0 l2_1 l2_2 l2_3 l2_4 p0_0 p0_1 r} (h : t35_h2 k rec at3 n5 t21 l2_0 l2_1 l2_2 l2_3 l2_4 p0_0 p0_1 = some r) : P35 (.h2 at3 n5 t21 l2_0 l2_1 l2_2 l2_3 l2_4 p0_0 p0_1) r := by
 unfold t35_h2 at h
 replace h := bif_or h; rcases h with ⟨rfl, h⟩ | ⟨rfl, h⟩
 ·
  exact mA 1 hmix (ih _ _ h) 2 [] [] (bm 74 18889465931478580854738) (by kernel_rfl) trivial
 ·
  rw [← Option.some.inj h]
  exact mF 1 hmix [] [] (by kernel_rfl) trivial
theorem t35_h3_ok (k) {rec} (ih : ∀ s r, rec s = some r → P35 s r) {at3 n5 l2_0 l2_1 l2_2 l2_3 l2_4 p0_0 p0_1 r} (h : t35_h3 k rec at3 n5 l2_0 l2_1 l2_2 l2_3 l2_4 p0_0 p0_1 = some r) : P35 (.h3 at3 n5 l2_0 l2_1 l2_2 l2_3 l2_4 p0_0 p0_1) r := by
 unfold t35_h3 at h
 obtain ⟨h_x1, h⟩ := gd_or h
 rw [← Option.some.inj h]
 exact mF 1 hmix [aS 68] [_] (by kernel_rfl) ⟨of_decide_eq_true h_x1, trivial⟩
theorem ok35 : ∀ k s r, itS step35 k s = some r → P35 s r := itS_ok fun k rec ih s r h => match s, h with
 | .e b0_0 b0_1, h => t35_e_ok k ih h
 | .h0 at3 n5 t16 t17 l2_0 l2_1 l2_2 l2_3 l2_4 p0_0 p0_1, h => t35_h0_ok k ih h
 | .h1 at3 n5 t50 l2_0 l2_1 l2_2 l2_3 l2_4 p0_0 p0_1, h => t35_h1_ok k ih h
 | .h2 at3 n5 t21 l2_0 l2_1 l2_2 l2_3 l2_4 p0_0 p0_1, h => t35_h2_ok k ih h
 | .h3 at3 n5 l2_0 l2_1 l2_2 l2_3 l2_4 p0_0 p0_1, h => t35_h3_ok k ih h
theorem ev35 {k : Nat} {b0_0 : ByteArray} {b0_1 : Int} {r : R35} (h : g35 k b0_0 b0_1 = some r) : Ev Tryd.prog noHand 35 [pP 0] [[sc b0_0, ic b0_1]] (res35 r) (bx35 b0_0 r) := evr35 (ok35 _ _ _ h)
inductive S20 where
 | e (b0_0 : ByteArray) (b0_1 : Int)
 | h0 (l2_0 : Int) (l2_1 : ByteArray) (l2_2 l2_3 l2_4 : Int) (p0_0 : ByteArray) (p0_1 : Int)
 | h1 (t25 : Bool) (l2_0 : Int) (l2_1 : ByteArray) (l2_2 l2_3 l2_4 : Int) (p0_0 : ByteArray) (p0_1 : Int)
abbrev R20 := (Int × ByteArray × Int × Int × Int × Int) ⊕ (Int × Int)
def res20 : R20 → ARes
 | (.inl (r_0, r_1, r_2, r_3, r_4, r_b0_1)) => .ret (.ag [ic r_0, sc r_1, ic r_2, ic r_3, ic r_4])
 | (.inr (r_i00, r_b0_1)) => .panic (.iface 51 (.agg #[.int .i64 r_i00]))
def bx20 (b0_0 : ByteArray) : R20 → List (List Cell)
 | (.inl (r_0, r_1, r_2, r_3, r_4, r_b0_1)) => [[sc b0_0, ic r_b0_1]]
 | (.inr (r_i00, r_b0_1)) => [[sc b0_0, ic r_b0_1]]
noncomputable def t20_e (k : Nat) (rec : S20 → Option R20) (b0_0 : ByteArray) (b0_1 : Int) : Option R20 :=
 rec (.h0 0 (strB []) 0 0 0 b0_0 b0_1)
noncomputable def t20_h0 (k : Nat) (rec : S20 → Option R20) (l2_0 : Int) (l2_1 : ByteArray) (l2_2 l2_3 l2_4 : Int) (p0_0 : ByteArray) (p0_1 : Int) : Option R20 :=
 bif decide (p0_1 < (p0_0.size : Int)) then
  sxI p0_0 p0_1 fun c_x2 =>
  (g29 k c_x2).bind fun v_x4 =>
  rec (.h1 v_x4 l2_0 l2_1 l2_2 l2_3 l2_4 p0_0 p0_1)
 else
  rec (.h1 false l2_0 l2_1 l2_2 l2_3 l2_4 p0_0 p0_1)
noncomputable def t20_h1 (k : Nat) (rec : S20 → Option R20) (t25 : Bool) (l2_0 : Int) (l2_1 : ByteArray) (l2_2 l2_3 l2_4 : Int) (p0_0 : ByteArray) (p0_1 : Int) : Option R20 :=
 bif t25 then
  rec (.h0 l2_0 l2_1 l2_2 l2_3 l2_4 p0_0 (IntKind.i64.wrap (p0_1 + 1)))
 else
  bif p0_1 == (p0_0.size : Int) then
   some (.inl (0, strB [], 0, 0, p0_1, p0_1))
  else
   sxI p0_0 p0_1 fun c_x2 =>
   (g30 k c_x2).bind fun v_x4 =>
   bif v_x4 then
    (g31 k p0_0 p0_1).bind fun v_x6 =>
    altC v_x6 (fun v_x8 => 
      tup6 v_x8 fun r0_x9 r1_x9 r2_x9 r3_x9 r4_x9 rb01_x9 =>
      some (.inl (r0_x9, r1_x9, r2_x9, r3_x9, r4_x9, rb01_x9))) (fun v_x8 => 
      tup2 v_x8 fun ri00_x9 rb01_x9 =>
      some (.inr (ri00_x9, rb01_x9)))
   else
    (g32 k c_x2).bind fun v_x6 =>
    bif v_x6 then
     (g33 k p0_0 p0_1).bind fun v_x8 =>
     altC v_x8 (fun v_x10 => 
       tup2 v_x10 fun ri00_x11 rb01_x11 =>
       some (.inr (ri00_x11, rb01_x11))) (fun v_x10 => 
       tup6 v_x10 fun r0_x11 r1_x11 r2_x11 r3_x11 r4_x11 rb01_x11 =>
       some (.inl (r0_x11, r1_x11, r2_x11, r3_x11, r4_x11, rb01_x11)))
    else
     bif c_x2 == 39 then
      (g34 k p0_0 p0_1).bind fun v_x9 =>
      altC v_x9 (fun v_x11 => 
        tup2 v_x11 fun ri00_x12 rb01_x12 =>
        some (.inr (ri00_x12, rb01_x12))) (fun v_x11 => 
        tup6 v_x11 fun r0_x12 r1_x12 r2_x12 r3_x12 r4_x12 rb01_x12 =>
        some (.inl (r0_x12, r1_x12, r2_x12, r3_x12, r4_x12, rb01_x12)))
     else
      (g35 k p0_0 p0_1).bind fun v_x9 =>
      altC v_x9 (fun v_x11 => 
        tup6 v_x11 fun r0_x12 r1_x12 r2_x12 r3_x12 r4_x12 rb01_x12 =>
        some (.inl (r0_x12, r1_x12, r2_x12, r3_x12, r4_x12, rb01_x12))) (fun v_x11 => 
        tup2 v_x11 fun ri00_x12 rb01_x12 =>
        some (.inr (ri00_x12, rb01_x12)))
noncomputable def step20 (k : Nat) (rec : S20 → Option R20) : S20 → Option R20
 | .e b0_0 b0_1 => t20_e k rec b0_0 b0_1
 | .h0 l2_0 l2_1 l2_2 l2_3 l2_4 p0_0 p0_1 => t20_h0 k rec l2_0 l2_1 l2_2 l2_3 l2_4 p0_0 p0_1
 | .h1 t25 l2_0 l2_1 l2_2 l2_3 l2_4 p0_0 p0_1 => t20_h1 k rec t25 l2_0 l2_1 l2_2 l2_3 l2_4 p0_0 p0_1
noncomputable def g20 (k : Nat) (b0_0 : ByteArray) (b0_1 : Int) : Option R20 := itS step20 k (.e b0_0 b0_1)
noncomputable def P20 : S20 → R20 → Prop
 | .e b0_0 b0_1, r => Fin cx20 Tryd.f20 [.code body20] (fr0 Tryd.f20 [pP 0] [[sc b0_0, ic b0_1]]) (res20 r) (bx20 b0_0 r)
 | .h0 l2_0 l2_1 l2_2 l2_3 l2_4 p0_0 p0_1, r => Fin cx20 Tryd.f20 (kAt body20 [1, 0, 0, 4] []) ⟨[pP 0, .deadv, pL 2] ++ rep 71 .deadv, [(.loc 2, [ic l2_0, sc l2_1, ic l2_2, ic l2_3, ic l2_4]), (.par 0, [sc p0_0, ic p0_1])]⟩ (res20 r) (bx20 p0_0 r)
 | .h1 t25 l2_0 l2_1 l2_2 l2_3 l2_4 p0_0 p0_1, r => Fin cx20 Tryd.f20 (kAt body20 [1, 0, 0, 0, 0, 1, 2] []) ⟨[pP 0, .deadv, pL 2] ++ rep 22 .deadv ++ [.c (bc t25)] ++ rep 48 .deadv, [(.loc 2, [ic l2_0, sc l2_1, ic l2_2, ic l2_3, ic l2_4]), (.par 0, [sc p0_0, ic p0_1])]⟩ (res20 r) (bx20 p0_0 r)
theorem evr20 {b0_0 : ByteArray} {b0_1 : Int} {r : R20} (h : P20 (.e b0_0 b0_1) r) : Ev Tryd.prog noHand 20 [pP 0] [[sc b0_0, ic b0_1]] (res20 r) (bx20 b0_0 r) := ev_of_fin (fn := Tryd.f20) (body := body20) (by kernel_rfl) (by kernel_rfl) (by kernel_rfl) rfl h
theorem t20_e_ok (k) {rec} (ih : ∀ s r, rec s = some r → P20 s r) {b0_0 b0_1 r} (h : t20_e k rec b0_0 b0_1 = some r) : P20 (.e b0_0 b0_1) r := by
 unfold t20_e at h
 exact mA 1 hmix (ih _ _ h) 5 [] [] (bm 74 18889465931478580854778) (by kernel_rfl) trivial
theorem t20_h0_ok (k) {rec} (ih : ∀ s r, rec s = some r → P20 s r) {l2_0 l2_1 l2_2 l2_3 l2_4 p0_0 p0_1 r} (h : t20_h0 k rec l2_0 l2_1 l2_2 l2_3 l2_4 p0_0 p0_1 = some r) : P20 (.h0 l2_0 l2_1 l2_2 l2_3 l2_4 p0_0 p0_1) r := by
 unfold t20_h0 at h
 rcases bif_or h with ⟨h_x1, h⟩ | ⟨h_x1, h⟩
 ·
  obtain ⟨c_x2, h_x3, h⟩ := sxI_or h
  obtain ⟨v_x4, h_x5, h⟩ := bd_or h
  exact mA 1 hmix (ih _ _ h) 4 [aT 13, (some 23, .sidx c_x2), aC 24 (.c (bc v_x4))] [_, _, _] (bm 74 18889465931478547300346) (by kernel_rfl) ⟨h_x1, h_x3, (ev29 h_x5), trivial⟩
 ·
  exact mA 1 hmix (ih _ _ h) 4 [aF 13] [_] (bm 74 18889465931478547300346) (by kernel_rfl) ⟨h_x1, trivial⟩
theorem t20_h1_ok (k) {rec} (ih : ∀ s r, rec s = some r → P20 s r) {t25 l2_0 l2_1 l2_2 l2_3 l2_4 p0_0 p0_1 r} (h : t20_h1 k rec t25 l2_0 l2_1 l2_2 l2_3 l2_4 p0_0 p0_1 = some r) : P20 (.h1 t25 l2_0 l2_1 l2_2 l2_3 l2_4 p0_0 p0_1) r := by
 unfold t20_h1 at h
 replace h := bif_or h; rcases h with ⟨rfl, h⟩ | ⟨rfl, h⟩
 ·
  exact mA 1 hmix (ih _ _ h) 5 [] [] (bm 74 18889465931478580854778) (by kernel_rfl) trivial
 ·
  rcases bif_or h with ⟨h_x1, h⟩ | ⟨h_x1, h⟩
  ·
   rw [← Option.some.inj h]
   exact mF 1 hmix [aT 42] [_] (by kernel_rfl) ⟨h_x1, trivial⟩
  ·
   obtain ⟨c_x2, h_x3, h⟩ := sxI_or h
   obtain ⟨v_x4, h_x5, h⟩ := bd_or h
   replace h := bif_or h; rcases h with ⟨rfl, h⟩ | ⟨rfl, h⟩
   ·
    obtain ⟨v_x6, h_x7, h⟩ := bd_or h
    replace h := altC_or h; rcases h with ⟨v_x8, rfl, h⟩ | ⟨v_x8, rfl, h⟩
    ·
     replace h := tup6_or h; obtain ⟨r0_x9, r1_x9, r2_x9, r3_x9, r4_x9, rb01_x9, rfl, h⟩ := h
     rw [← Option.some.inj h]
     exact mF 1 hmix [aF 42, (some 56, .sidx c_x2), aC 59 (.c (bc true)), (some 61, .call (.ret (.ag [ic r0_x9, sc r1_x9, ic r2_x9, ic r3_x9, ic r4_x9])) [[sc p0_0, ic rb01_x9]] false)] [_, _, _, _] (by kernel_rfl) ⟨h_x1, h_x3, (ev30 h_x5), (ev31 h_x7), trivial⟩
    ·
     replace h := tup2_or h; obtain ⟨ri00_x9, rb01_x9, rfl, h⟩ := h
     rw [← Option.some.inj h]
     exact mF 1 hmix [aF 42, (some 56, .sidx c_x2), aC 59 (.c (bc true)), (some 61, .call (.panic (.iface 51 (.agg #[.int .i64 ri00_x9]))) [[sc p0_0, ic rb01_x9]] false)] [_, _, _, _] (by kernel_rfl) ⟨h_x1, h_x3, (ev30 h_x5), (ev31 h_x7), trivial⟩
   ·
    obtain ⟨v_x6, h_x7, h⟩ := bd_or h
    replace h := bif_or h; rcases h with ⟨rfl, h⟩ | ⟨rfl, h⟩
    ·
     obtain ⟨v_x8, h_x9, h⟩ := bd_or h
     replace h := altC_or h; rcases h with ⟨v_x10, rfl, h⟩ | ⟨v_x10, rfl, h⟩
     ·
      replace h := tup2_or h; obtain ⟨ri00_x11, rb01_x11, rfl, h⟩ := h
      rw [← Option.some.inj h]
      exact mF 1 hmix [aF 42, (some 56, .sidx c_x2), aC 59 (.c (bc false)), aC 64 (.c (bc true)), (some 66, .call (.panic (.iface 51 (.agg #[.int .i64 ri00_x11]))) [[sc p0_0, ic rb01_x11]] false)] [_, _, _, _, _] (by kernel_rfl) ⟨h_x1, h_x3, (ev30 h_x5), (ev32 h_x7), (ev33 h_x9), trivial⟩
     ·
      replace h := tup6_or h; obtain ⟨r0_x11, r1_x11, r2_x11, r3_x11, r4_x11, rb01_x11, rfl, h⟩ := h
      rw [← Option.some.inj h]
      exact mF 1 hmix [aF 42, (some 56, .sidx c_x2), aC 59 (.c (bc false)), aC 64 (.c (bc true)), (some 66, .call (.ret (.ag [ic r0_x11, sc r1_x11, ic r2_x11, ic r3_x11, ic r4_x11])) [[sc p0_0, ic rb01_x11]] false)] [_, _, _, _, _] (by kernel_rfl) ⟨h_x1, h_x3, (ev30 h_x5), (ev32 h_x7), (ev33 h_x9), trivial⟩
    ·
     rcases bif_or h with ⟨h_x8, h⟩ | ⟨h_x8, h⟩
     ·
      obtain ⟨v_x9, h_x10, h⟩ := bd_or h
      replace h := altC_or h; rcases h with ⟨v_x11, rfl, h⟩ | ⟨v_x11, rfl, h⟩
      ·
       replace h := tup2_or h; obtain ⟨ri00_x12, rb01_x12, rfl, h⟩ := h
       rw [← Option.some.inj h]
       exact mF 1 hmix [aF 42, (some 56, .sidx c_x2), aC 59 (.c (bc false)), aC 64 (.c (bc false)), aT 69, (some 71, .call (.panic (.iface 51 (.agg #[.int .i64 ri00_x12]))) [[sc p0_0, ic rb01_x12]] false)] [_, _, _, _, _, _] (by kernel_rfl) ⟨h_x1, h_x3, (ev30 h_x5), (ev32 h_x7), h_x8, (ev34 h_x10), trivial⟩
      ·
       replace h := tup6_or h; obtain ⟨r0_x12, r1_x12, r2_x12, r3_x12, r4_x12, rb01_x12, rfl, h⟩ := h
       rw [← Option.some.inj h]
       exact mF 1 hmix [aF 42, (some 56, .sidx c_x2), aC 59 (.c (bc false)), aC 64 (.c (bc false)), aT 69, (some 71, .call (.ret (.ag [ic r0_x12, sc r1_x12, ic r2_x12, ic r3_x12, ic r4_x12])) [[sc p0_0, ic rb01_x12]] false)] [_, _, _, _, _, _] (by kernel_rfl) ⟨h_x1, h_x3, (ev30 h_x5), (ev32 h_x7), h_x8, (ev34 h_x10), trivial⟩
     ·
      obtain ⟨v_x9, h_x10, h⟩ := bd_or h
      replace h := altC_or h; rcases h with ⟨v_x11, rfl, h⟩ | ⟨v_x11, rfl, h⟩
      ·
       replace h := tup6_or h; obtain ⟨r0_x12, r1_x12, r2_x12, r3_x12, r4_x12, rb01_x12, rfl, h⟩ := h
       rw [← Option.some.inj h]
       exact mF 1 hmix [aF 42, (some 56, .sidx c_x2), aC 59 (.c (bc false)), aC 64 (.c (bc false)), aF 69, (some 73, .call (.ret (.ag [ic r0_x12, sc r1_x12, ic r2_x12, ic r3_x12, ic r4_x12])) [[sc p0_0, ic rb01_x12]] false)] [_, _, _, _, _, _] (by kernel_rfl) ⟨h_x1, h_x3, (ev30 h_x5), (ev32 h_x7), h_x8, (ev35 h_x10), trivial⟩
      ·
       replace h := tup2_or h; obtain ⟨ri00_x12, rb01_x12, rfl, h⟩ := h
       rw [← Option.some.inj h]
       exact mF 1 hmix [aF 42, (some 56, .sidx c_x2), aC 59 (.c (bc false)), aC 64 (.c (bc false)), aF 69, (some 73, .call (.panic (.iface 51 (.agg #[.int .i64 ri00_x12]))) [[sc p0_0, ic rb01_x12]] false)] [_, _, _, _, _, _] (by kernel_rfl) ⟨h_x1, h_x3, (ev30 h_x5), (ev32 h_x7), h_x8, (ev35 h_x10), trivial⟩
theorem ok20 : ∀ k s r, itS step20 k s = some r → P20 s r := itS_ok fun k rec ih s r h => match s, h with
 | .e b0_0 b0_1, h => t20_e_ok k ih h
 | .h0 l2_0 l2_1 l2_2 l2_3 l2_4 p0_0 p0_1, h => t20_h0_ok k ih h
 | .h1 t25 l2_0 l2_1 l2_2 l2_3 l2_4 p0_0 p0_1, h => t20_h1_ok k ih h
theorem ev20 {k : Nat} {b0_0 : ByteArray} {b0_1 : Int} {r : R20} (h : g20 k b0_0 b0_1 = some r) : Ev Tryd.prog noHand 20 [pP 0] [[sc b0_0, ic b0_1]] (res20 r) (bx20 b0_0 r) := evr20 (ok20 _ _ _ h)
inductive S15 where
 | e (text0 : ByteArray)
 | h0 (l4_0 l3_0 : Int) (l2_0 : Rs)
 | h1 (l13_0 : ByteArray) (l13_1 l4_0 l3_0 : Int) (l2_0 : Rs)
 | h2 (l4_0 l3_0 : Int) (l2_0 : Rs)
abbrev R15 := (Rs × Int × Int) ⊕ (Int × Int)
def res15 : R15 → ARes
 | (.inl (r_00, r_10, r_20)) => .ret ⟨.tup [false, false, false], [[.imm r_00], [ic r_10], [ic r_20]]⟩
 | (.inr (r_10, r_20)) => .ret ⟨.tup [false, false, false], [[.nil], [ic r_10], [ic r_20]]⟩
def bx15 : R15 → List (List Cell)
 | (.inl (r_00, r_10, r_20)) => []
 | (.inr (r_10, r_20)) => []
noncomputable def t15_e (k : Nat) (rec : S15 → Option R15) (text0 : ByteArray) : Option R15 :=
 bif decide ((text0.size : Int) > 4000) then
  rec (.h0 2 0 [])
 else
  rec (.h1 text0 0 0 0 [])
noncomputable def t15_h0 (k : Nat) (rec : S15 → Option R15) (l4_0 l3_0 : Int) (l2_0 : Rs) : Option R15 :=
 some (.inl (l2_0, l3_0, l4_0))
noncomputable def t15_h1 (k : Nat) (rec : S15 → Option R15) (l13_0 : ByteArray) (l13_1 l4_0 l3_0 : Int) (l2_0 : Rs) : Option R15 :=
 (g20 k l13_0 l13_1).bind fun v_x1 =>
 altC v_x1 (fun v_x3 => 
   tup6 v_x3 fun r0_x4 r1_x4 r2_x4 r3_x4 r4_x4 rb01_x4 =>
   gd (apOk 48 5 l2_0 [[ic r0_x4, sc r1_x4, ic r2_x4, ic r3_x4, ic r4_x4]]) <|
   bif r0_x4 == 0 then
    rec (.h2 0 0 (immRs (l2_0 ++ [[ic r0_x4, sc r1_x4, ic r2_x4, ic r3_x4, ic r4_x4]])))
   else
    rec (.h1 l13_0 rb01_x4 l4_0 l3_0 (l2_0 ++ [[ic r0_x4, sc r1_x4, ic r2_x4, ic r3_x4, ic r4_x4]]))) (fun v_x3 => 
   tup2 v_x3 fun ri00_x4 rb01_x4 =>
   some (.inr (ri00_x4, 12)))
noncomputable def t15_h2 (k : Nat) (rec : S15 → Option R15) (l4_0 l3_0 : Int) (l2_0 : Rs) : Option R15 :=
 some (.inl (l2_0, l3_0, l4_0))
noncomputable def step15 (k : Nat) (rec : S15 → Option R15) : S15 → Option R15
 | .e text0 => t15_e k rec text0
 | .h0 l4_0 l3_0 l2_0 => t15_h0 k rec l4_0 l3_0 l2_0
 | .h1 l13_0 l13_1 l4_0 l3_0 l2_0 => t15_h1 k rec l13_0 l13_1 l4_0 l3_0 l2_0
 | .h2 l4_0 l3_0 l2_0 => t15_h2 k rec l4_0 l3_0 l2_0
noncomputable def g15 (k : Nat) (text0 : ByteArray) : Option R15 := itS step15 k (.e text0)
noncomputable def P15 : S15 → R15 → Prop
 | .e text0, r => FinD cx15 Tryd.f15 (DOf cx15.P none 0) [.code body15] (fr0 Tryd.f15 [.c (sc text0)] []) (res15 r) (bx15 r)
 | .h0 l4_0 l3_0 l2_0, r => FinD cx15 Tryd.f15 (DOf cx15.P none 0) (kAt body15 [1, 0, 1, 0, 1, 2] []) ⟨[.deadv, .deadv, pL 2, pL 3, pL 4] ++ rep 19 .deadv, [(.loc 4, [ic l4_0]), (.loc 3, [ic l3_0]), (.loc 2, [.imm l2_0])]⟩ (res15 r) (bx15 r)
 | .h1 l13_0 l13_1 l4_0 l3_0 l2_0, r => FinD cx15 Tryd.f15 (DOf cx15.P (some 10) 19) (kAt body15 [1, 1, 1, 1, 0, 4] []) ⟨[.deadv, .deadv, pL 2, pL 3, pL 4, pL 13] ++ rep 4 .deadv ++ [.c (.clo 19 [] [.ptr ⟨⟨.loc 2, []⟩, 0, 0⟩, .ptr ⟨⟨.loc 3, []⟩, 0, 0⟩, .ptr ⟨⟨.loc 4, []⟩, 0, 0⟩])] ++ rep 13 .deadv, [(.loc 13, [sc l13_0, ic l13_1]), (.loc 4, [ic l4_0]), (.loc 3, [ic l3_0]), (.loc 2, [.own 5 l2_0])]⟩ (res15 r) (bx15 r)
 | .h2 l4_0 l3_0 l2_0, r => FinD cx15 Tryd.f15 (DOf cx15.P (some 10) 19) (kAt body15 [1, 1, 1, 1, 0, 0, 0, 1, 1, 1, 0, 1, 2] []) ⟨[.deadv, .deadv, pL 2, pL 3, pL 4] ++ rep 5 .deadv ++ [.c (.clo 19 [] [.ptr ⟨⟨.loc 2, []⟩, 0, 0⟩, .ptr ⟨⟨.loc 3, []⟩, 0, 0⟩, .ptr ⟨⟨.loc 4, []⟩, 0, 0⟩])] ++ rep 13 .deadv, [(.loc 4, [ic l4_0]), (.loc 3, [ic l3_0]), (.loc 2, [.imm l2_0])]⟩ (res15 r) (bx15 r)
theorem evr15 {text0 : ByteArray} {r : R15} (h : P15 (.e text0) r) : Ev Tryd.prog noHand 15 [.c (sc text0)] [] (res15 r) (bx15 r) := evD_fin (fn := Tryd.f15) (body := body15) (by kernel_rfl) (by kernel_rfl) (by kernel_rfl) rfl h
theorem evd15p {b0_0 : Rs} {b1_0 b2_0 pv_i00 : Int} : EvD Tryd.prog (.panicking [{ v := .iface 51 (.agg #[.int .i64 pv_i00]), recovered := false }]) (.panicking [{ v := .iface 51 (.agg #[.int .i64 pv_i00]), recovered := true }]) 19 [pP 0, pP 1, pP 2] [[.own 5 b0_0], [ic b1_0], [ic b2_0]] (.ret .undef) [[.nil], [ic pv_i00], [ic 12]] := clo_evD (fn := Tryd.f19) (body := body19) (cx := cx19) (nb := 3) (n := 2000) (val := .iface 51 (.agg #[.int .i64 pv_i00])) (ad1 := []) (ad2 := []) (ps := []) (by kernel_rfl) (by kernel_rfl) rfl hmix rfl (.inl ⟨rfl, rfl⟩) (by kernel_rfl) trivial
theorem evd15q {b0_0 : Rs} {b1_0 b2_0 : Int} : EvD Tryd.prog .returning .returning 19 [pP 0, pP 1, pP 2] [[.imm b0_0], [ic b1_0], [ic b2_0]] (.ret .undef) [[.imm b0_0], [ic b1_0], [ic b2_0]] := clo_evD (fn := Tryd.f19) (body := body19) (cx := cx19) (nb := 3) (n := 2000) (val := .nilIface) (ad1 := []) (ad2 := []) (ps := []) (by kernel_rfl) (by kernel_rfl) rfl hmix rfl (.inr ⟨rfl, rfl, rfl⟩) (by kernel_rfl) trivial
theorem t15_e_ok (k) {rec} (ih : ∀ s r, rec s = some r → P15 s r) {text0 r} (h : t15_e k rec text0 = some r) : P15 (.e text0) r := by
 unfold t15_e at h
 rcases bif_or h with ⟨h_x1, h⟩ | ⟨h_x1, h⟩
 ·
  exact dgo_at (t := none) (f := 0) hmix (ih _ _ h) (n := 8) (ad := [aT 9]) (ps := [_]) (m := bm 24 16777187) (ls := []) (cs := [(⟨⟨.loc 2, []⟩, 0, 0⟩, none)]) (by kernel_rfl) ⟨h_x1, trivial⟩
 ·
  exact dgo_at (t := none) (f := 0) hmix (deferK (Q := fun G0 w0 => bodyPostD cx15.P Tryd.f15 (Went G0 w0 _ _)) (K0 := (kAt body15 [1, 1, 0, 2] [])) (F := ⟨[.c (sc text0), .undef, pL 2, pL 3, pL 4, .undef, .undef, .c (sc text0), .c (ic (text0.size : Int)), .c (bc false)] ++ rep 14 .undef, [(.loc 4, [ic 0]), (.loc 3, [ic 0]), (.loc 2, [.nil])]⟩) (k := 10) (f := 19) (K1 := (kAt body15 [1, 1, 0, 3] [])) (F1 := ⟨[.c (sc text0), .undef, pL 2, pL 3, pL 4, .undef, .undef, .c (sc text0), .c (ic (text0.size : Int)), .c (bc false), .c (.clo 19 [] [.ptr ⟨⟨.loc 2, []⟩, 0, 0⟩, .ptr ⟨⟨.loc 3, []⟩, 0, 0⟩, .ptr ⟨⟨.loc 4, []⟩, 0, 0⟩])] ++ rep 13 .undef, [(.loc 4, [ic 0]), (.loc 3, [ic 0]), (.loc 2, [.nil])]⟩) (ad := []) (ps := []) ⟨Tryd.f19, by kernel_rfl, by kernel_rfl, by kernel_rfl⟩ (dgo_at (t := some 10) (f := 19) hmix (ih _ _ h) (n := 4) (ad := []) (ps := []) (m := bm 24 16776131) (ls := []) (cs := [(⟨⟨.loc 2, []⟩, 0, 0⟩, some 5)]) (by kernel_rfl) trivial) (by kernel_rfl) trivial) (n := 8) (ad := [aF 9]) (ps := [_]) (m := bm 24 0) (ls := []) (cs := []) (by kernel_rfl) ⟨h_x1, trivial⟩
theorem t15_h0_ok (k) {rec} (ih : ∀ s r, rec s = some r → P15 s r) {l4_0 l3_0 l2_0 r} (h : t15_h0 k rec l4_0 l3_0 l2_0 = some r) : P15 (.h0 l4_0 l3_0 l2_0) r := by
 unfold t15_h0 at h
 rw [← Option.some.inj h]
 exact mend_fin (nb := 0) (t := none) (f := 0) hmix (n := 2000) (ad := []) (ps := []) (bx' := []) (by kernel_rfl) trivial
theorem t15_h1_ok (k) {rec} (ih : ∀ s r, rec s = some r → P15 s r) {l13_0 l13_1 l4_0 l3_0 l2_0 r} (h : t15_h1 k rec l13_0 l13_1 l4_0 l3_0 l2_0 = some r) : P15 (.h1 l13_0 l13_1 l4_0 l3_0 l2_0) r := by
 unfold t15_h1 at h
 obtain ⟨v_x1, h_x2, h⟩ := bd_or h
 replace h := altC_or h; rcases h with ⟨v_x3, rfl, h⟩ | ⟨v_x3, rfl, h⟩
 ·
  replace h := tup6_or h; obtain ⟨r0_x4, r1_x4, r2_x4, r3_x4, r4_x4, rb01_x4, rfl, h⟩ := h
  obtain ⟨h_x5, h⟩ := gd_or h
  rcases bif_or h with ⟨h_x6, h⟩ | ⟨h_x6, h⟩
  ·
   exact dgo_at (t := some 10) (f := 19) hmix (ih _ _ h) (n := 11) (ad := [(some 15, .call (.ret (.ag [ic r0_x4, sc r1_x4, ic r2_x4, ic r3_x4, ic r4_x4])) [[sc l13_0, ic rb01_x4]] false), (some 19, .okE false), aT 22]) (ps := [_, _, _]) (m := bm 24 16776163) (ls := [6, 13]) (cs := []) (by kernel_rfl) ⟨(ev20 h_x2), okF [[ic r0_x4, sc r1_x4, ic r2_x4, ic r3_x4, ic r4_x4]] h_x5, h_x6, trivial⟩
  ·
   exact dgo_at (t := some 10) (f := 19) hmix (ih _ _ h) (n := 11) (ad := [(some 15, .call (.ret (.ag [ic r0_x4, sc r1_x4, ic r2_x4, ic r3_x4, ic r4_x4])) [[sc l13_0, ic rb01_x4]] false), (some 19, .okE false), aF 22]) (ps := [_, _, _]) (m := bm 24 16776131) (ls := [6]) (cs := []) (by kernel_rfl) ⟨(ev20 h_x2), okF [[ic r0_x4, sc r1_x4, ic r2_x4, ic r3_x4, ic r4_x4]] h_x5, h_x6, trivial⟩
 ·
  replace h := tup2_or h; obtain ⟨ri00_x4, rb01_x4, rfl, h⟩ := h
  rw [← Option.some.inj h]
  exact mend_fin (nb := 0) (t := some 10) (f := 19) hmix (n := 2000) (ad := [(some 15, .call (.panic (.iface 51 (.agg #[.int .i64 ri00_x4]))) [[sc l13_0, ic rb01_x4]] false)]) (ps := [_, _]) (bx' := [[.nil], [ic ri00_x4], [ic 12]]) (by kernel_rfl) ⟨(ev20 h_x2), (evd15p (b0_0 := l2_0) (b1_0 := l3_0) (b2_0 := l4_0) (pv_i00 := ri00_x4)), trivial⟩
theorem t15_h2_ok (k) {rec} (ih : ∀ s r, rec s = some r → P15 s r) {l4_0 l3_0 l2_0 r} (h : t15_h2 k rec l4_0 l3_0 l2_0 = some r) : P15 (.h2 l4_0 l3_0 l2_0) r := by
 unfold t15_h2 at h
 rw [← Option.some.inj h]
 exact mend_fin (nb := 0) (t := some 10) (f := 19) hmix (n := 2000) (ad := []) (ps := [_]) (bx' := [[.imm l2_0], [ic l3_0], [ic l4_0]]) (by kernel_rfl) ⟨(evd15q (b0_0 := l2_0) (b1_0 := l3_0) (b2_0 := l4_0)), trivial⟩
theorem ok15 : ∀ k s r, itS step15 k s = some r → P15 s r := itS_ok fun k rec ih s r h => match s, h with
 | .e text0, h => t15_e_ok k ih h
 | .h0 l4_0 l3_0 l2_0, h => t15_h0_ok k ih h
 | .h1 l13_0 l13_1 l4_0 l3_0 l2_0, h => t15_h1_ok k ih h
 | .h2 l4_0 l3_0 l2_0, h => t15_h2_ok k ih h
theorem ev15 {k : Nat} {text0 : ByteArray} {r : R15} (h : g15 k text0 = some r) : Ev Tryd.prog noHand 15 [.c (sc text0)] [] (res15 r) (bx15 r) := evr15 (ok15 _ _ _ h)
inductive S46 where
 | e (b0_0 : Rs) (b0_1 b0_2 : Int)
abbrev R46 := Int × ByteArray × Int × Int × Int × Rs
def res46 : R46 → ARes
 | (r_0, r_1, r_2, r_3, r_4, r_b0_0) => .ret (.ag [ic r_0, sc r_1, ic r_2, ic r_3, ic r_4])
def bx46 (b0_1 b0_2 : Int) : R46 → List (List Cell)
 | (r_0, r_1, r_2, r_3, r_4, r_b0_0) => [[.imm r_b0_0, ic b0_1, ic b0_2]]
noncomputable def t46_e (k : Nat) (rec : S46 → Option R46) (b0_0 : Rs) (b0_1 b0_2 : Int) : Option R46 :=
 bif decide (b0_1 < (b0_0.length : Int)) then
  ixR b0_0 b0_1 fun w_x2 =>
  un_isi3 w_x2 fun kind_x4 text_x4 n_x4 scale_x4 at_x4 =>
  some (kind_x4, text_x4, n_x4, scale_x4, at_x4, b0_0)
 else
  some (0, strB [], 0, 0, 0, b0_0)
noncomputable def step46 (k : Nat) (rec : S46 → Option R46) : S46 → Option R46
 | .e b0_0 b0_1 b0_2 => t46_e k rec b0_0 b0_1 b0_2
noncomputable def g46 (k : Nat) (b0_0 : Rs) (b0_1 b0_2 : Int) : Option R46 := itS step46 k (.e b0_0 b0_1 b0_2)
noncomputable def P46 : S46 → R46 → Prop
 | .e b0_0 b0_1 b0_2, r => Fin cx46 Tryd.f46 [.code body46] (fr0 Tryd.f46 [pP 0] [[.imm b0_0, ic b0_1, ic b0_2]]) (res46 r) (bx46 b0_1 b0_2 r)
theorem evr46 {b0_0 : Rs} {b0_1 b0_2 : Int} {r : R46} (h : P46 (.e b0_0 b0_1 b0_2) r) : Ev Tryd.prog noHand 46 [pP 0] [[.imm b0_0, ic b0_1, ic b0_2]] (res46 r) (bx46 b0_1 b0_2 r) := ev_of_fin (fn := Tryd.f46) (body := body46) (by kernel_rfl) (by kernel_rfl) (by kernel_rfl) rfl h
theorem t46_e_ok (k) {rec} (ih : ∀ s r, rec s = some r → P46 s r) {b0_0 b0_1 b0_2 r} (h : t46_e k rec b0_0 b0_1 b0_2 = some r) : P46 (.e b0_0 b0_1 b0_2) r := by
 unfold t46_e at h
 rcases bif_or h with ⟨h_x1, h⟩ | ⟨h_x1, h⟩
 ·
  obtain ⟨w_x2, h_x3, h⟩ := ixR_or h
  replace h := un_isi3_or h; obtain ⟨kind_x4, text_x4, n_x4, scale_x4, at_x4, rfl, h⟩ := h
  rw [← Option.some.inj h]
  exact mF 1 hmix [aT 12, (some 21, .row [ic kind_x4, sc text_x4, ic n_x4, ic scale_x4, ic at_x4])] [_, _] (by kernel_rfl) ⟨h_x1, ix_row h_x3 rfl, trivial⟩
 ·
  rw [← Option.some.inj h]
  exact mF 1 hmix [aF 12] [_] (by kernel_rfl) ⟨h_x1, trivial⟩
theorem ok46 : ∀ k s r, itS step46 k s = some r → P46 s r := itS_ok fun k rec ih s r h => match s, h with
 | .e b0_0 b0_1 b0_2, h => t46_e_ok k ih h
theorem ev46 {k : Nat} {b0_0 : Rs} {b0_1 b0_2 : Int} {r : R46} (h : g46 k b0_0 b0_1 b0_2 = some r) : Ev Tryd.prog noHand 46 [pP 0] [[.imm b0_0, ic b0_1, ic b0_2]] (res46 r) (bx46 b0_1 b0_2 r) := evr46 (ok46 _ _ _ h)
inductive S37 where
 | e (s1 : ByteArray) (b0_0 : Rs) (b0_1 b0_2 : Int)
abbrev R37 := Bool × Rs
def res37 : R37 → ARes
 | (r, r_b0_0) => .ret (.c (bc r))
def bx37 (b0_1 b0_2 : Int) : R37 → List (List Cell)
 | (r, r_b0_0) => [[.imm r_b0_0, ic b0_1, ic b0_2]]
noncomputable def t37_e (k : Nat) (rec : S37 → Option R37) (s1 : ByteArray) (b0_0 : Rs) (b0_1 b0_2 : Int) : Option R37 :=
 (g46 k b0_0 b0_1 b0_2).bind fun v_x1 =>
 tup6 v_x1 fun r0_x3 r1_x3 r2_x3 r3_x3 r4_x3 rb00_x3 =>
 bif r0_x3 == 1 then
  some (r1_x3.toList == s1.toList, rb00_x3)
 else
  bif r0_x3 == 6 then
   some (r1_x3.toList == s1.toList, rb00_x3)
  else
   some (false, rb00_x3)
noncomputable def step37 (k : Nat) (rec : S37 → Option R37) : S37 → Option R37
 | .e s1 b0_0 b0_1 b0_2 => t37_e k rec s1 b0_0 b0_1 b0_2
noncomputable def g37 (k : Nat) (s1 : ByteArray) (b0_0 : Rs) (b0_1 b0_2 : Int) : Option R37 := itS step37 k (.e s1 b0_0 b0_1 b0_2)
noncomputable def P37 : S37 → R37 → Prop
 | .e s1 b0_0 b0_1 b0_2, r => Fin cx37 Tryd.f37 [.code body37] (fr0 Tryd.f37 [pP 0, .c (sc s1)] [[.imm b0_0, ic b0_1, ic b0_2]]) (res37 r) (bx37 b0_1 b0_2 r)
theorem evr37 {s1 : ByteArray} {b0_0 : Rs} {b0_1 b0_2 : Int} {r : R37} (h : P37 (.e s1 b0_0 b0_1 b0_2) r) : Ev Tryd.prog noHand 37 [pP 0, .c (sc s1)] [[.imm b0_0, ic b0_1, ic b0_2]] (res37 r) (bx37 b0_1 b0_2 r) := ev_of_fin (fn := Tryd.f37) (body := body37) (by kernel_rfl) (by kernel_rfl) (by kernel_rfl) rfl h
theorem t37_e_ok (k) {rec} (ih : ∀ s r, rec s = some r → P37 s r) {s1 b0_0 b0_1 b0_2 r} (h : t37_e k rec s1 b0_0 b0_1 b0_2 = some r) : P37 (.e s1 b0_0 b0_1 b0_2) r := by
 unfold t37_e at h
 obtain ⟨v_x1, h_x2, h⟩ := bd_or h
 replace h := tup6_or h; obtain ⟨r0_x3, r1_x3, r2_x3, r3_x3, r4_x3, rb00_x3, rfl, h⟩ := h
 rcases bif_or h with ⟨h_x4, h⟩ | ⟨h_x4, h⟩
 ·
  rw [← Option.some.inj h]
  exact mF 1 hmix [(some 7, .call (.ret (.ag [ic r0_x3, sc r1_x3, ic r2_x3, ic r3_x3, ic r4_x3])) [[.imm rb00_x3, ic b0_1, ic b0_2]] false), aT 10] [_, _] (by kernel_rfl) ⟨(ev46 h_x2), h_x4, trivial⟩
 ·
  rcases bif_or h with ⟨h_x5, h⟩ | ⟨h_x5, h⟩
  ·
   rw [← Option.some.inj h]
   exact mF 1 hmix [(some 7, .call (.ret (.ag [ic r0_x3, sc r1_x3, ic r2_x3, ic r3_x3, ic r4_x3])) [[.imm rb00_x3, ic b0_1, ic b0_2]] false), aF 10, aT 14] [_, _, _] (by kernel_rfl) ⟨(ev46 h_x2), h_x4, h_x5, trivial⟩
  ·
   rw [← Option.some.inj h]
   exact mF 1 hmix [(some 7, .call (.ret (.ag [ic r0_x3, sc r1_x3, ic r2_x3, ic r3_x3, ic r4_x3])) [[.imm rb00_x3, ic b0_1, ic b0_2]] false), aF 10, aF 14] [_, _, _] (by kernel_rfl) ⟨(ev46 h_x2), h_x4, h_x5, trivial⟩
theorem ok37 : ∀ k s r, itS step37 k s = some r → P37 s r := itS_ok fun k rec ih s r h => match s, h with
 | .e s1 b0_0 b0_1 b0_2, h => t37_e_ok k ih h
theorem ev37 {k : Nat} {s1 : ByteArray} {b0_0 : Rs} {b0_1 b0_2 : Int} {r : R37} (h : g37 k s1 b0_0 b0_1 b0_2 = some r) : Ev Tryd.prog noHand 37 [pP 0, .c (sc s1)] [[.imm b0_0, ic b0_1, ic b0_2]] (res37 r) (bx37 b0_1 b0_2 r) := evr37 (ok37 _ _ _ h)
inductive S90 where
 | e (b0_0 : Rs) (b0_1 b0_2 : Int)
abbrev R90 := (Int × Int × Rs × Int) ⊕ (ByteArray × Rs × Int)
def res90 : R90 → ARes
 | (.inl (r_i00, r_i01, r_b0_0, r_b0_1)) => .panic (.iface 58 (.agg #[.int .i64 r_i00, .int .i64 r_i01]))
 | (.inr (r, r_b0_0, r_b0_1)) => .ret (.c (sc r))
def bx90 (b0_2 : Int) : R90 → List (List Cell)
 | (.inl (r_i00, r_i01, r_b0_0, r_b0_1)) => [[.imm r_b0_0, ic r_b0_1, ic b0_2]]
 | (.inr (r, r_b0_0, r_b0_1)) => [[.imm r_b0_0, ic r_b0_1, ic b0_2]]
noncomputable def t90_e (k : Nat) (rec : S90 → Option R90) (b0_0 : Rs) (b0_1 b0_2 : Int) : Option R90 :=
 (g46 k b0_0 b0_1 b0_2).bind fun v_x1 =>
 tup6 v_x1 fun r0_x3 r1_x3 r2_x3 r3_x3 r4_x3 rb00_x3 =>
 bif r0_x3 != 2 then
  some (.inl (r4_x3, 13, rb00_x3, b0_1))
 else
  some (.inr (r1_x3, rb00_x3, IntKind.i64.wrap (b0_1 + 1)))
noncomputable def step90 (k : Nat) (rec : S90 → Option R90) : S90 → Option R90
 | .e b0_0 b0_1 b0_2 => t90_e k rec b0_0 b0_1 b0_2
noncomputable def g90 (k : Nat) (b0_0 : Rs) (b0_1 b0_2 : Int) : Option R90 := itS step90 k (.e b0_0 b0_1 b0_2)
noncomputable def P90 : S90 → R90 → Prop
 | .e b0_0 b0_1 b0_2, r => Fin cx90 Tryd.f90 [.code body90] (fr0 Tryd.f90 [pP 0] [[.imm b0_0, ic b0_1, ic b0_2]]) (res90 r) (bx90 b0_2 r)
theorem evr90 {b0_0 : Rs} {b0_1 b0_2 : Int} {r : R90} (h : P90 (.e b0_0 b0_1 b0_2) r) : Ev Tryd.prog noHand 90 [pP 0] [[.imm b0_0, ic b0_1, ic b0_2]] (res90 r) (bx90 b0_2 r) := ev_of_fin (fn := Tryd.f90) (body := body90) (by kernel_rfl) (by kernel_rfl) (by kernel_rfl) rfl h
theorem t90_e_ok (k) {rec} (ih : ∀ s r, rec s = some r → P90 s r) {b0_0 b0_1 b0_2 r} (h : t90_e k rec b0_0 b0_1 b0_2 = some r) : P90 (.e b0_0 b0_1 b0_2) r := by
 unfold t90_e at h
 obtain ⟨v_x1, h_x2, h⟩ := bd_or h
 replace h := tup6_or h; obtain ⟨r0_x3, r1_x3, r2_x3, r3_x3, r4_x3, rb00_x3, rfl, h⟩ := h
 rcases bif_or h with ⟨h_x4, h⟩ | ⟨h_x4, h⟩
 ·
  rw [← Option.some.inj h]
  exact mF 1 hmix [(some 5, .call (.ret (.ag [ic r0_x3, sc r1_x3, ic r2_x3, ic r3_x3, ic r4_x3])) [[.imm rb00_x3, ic b0_1, ic b0_2]] false), aT 8] [_, _] (by kernel_rfl) ⟨(ev46 h_x2), h_x4, trivial⟩
 ·
  rw [← Option.some.inj h]
  exact mF 1 hmix [(some 5, .call (.ret (.ag [ic r0_x3, sc r1_x3, ic r2_x3, ic r3_x3, ic r4_x3])) [[.imm rb00_x3, ic b0_1, ic b0_2]] false), aF 8] [_, _] (by kernel_rfl) ⟨(ev46 h_x2), h_x4, trivial⟩
theorem ok90 : ∀ k s r, itS step90 k s = some r → P90 s r := itS_ok fun k rec ih s r h => match s, h with
 | .e b0_0 b0_1 b0_2, h => t90_e_ok k ih h
theorem ev90 {k : Nat} {b0_0 : Rs} {b0_1 b0_2 : Int} {r : R90} (h : g90 k b0_0 b0_1 b0_2 = some r) : Ev Tryd.prog noHand 90 [pP 0] [[.imm b0_0, ic b0_1, ic b0_2]] (res90 r) (bx90 b0_2 r) := evr90 (ok90 _ _ _ h)
inductive S86 where
 | e (s1 : ByteArray) (b0_0 : Rs) (b0_1 b0_2 : Int)
abbrev R86 := (Int × Int × Rs × Int) ⊕ (Rs × Int)
def res86 : R86 → ARes
 | (.inl (r_i00, r_i01, r_b0_0, r_b0_1)) => .panic (.iface 58 (.agg #[.int .i64 r_i00, .int .i64 r_i01]))
 | (.inr (r_b0_0, r_b0_1)) => .ret .undef
def bx86 (b0_2 : Int) : R86 → List (List Cell)
 | (.inl (r_i00, r_i01, r_b0_0, r_b0_1)) => [[.imm r_b0_0, ic r_b0_1, ic b0_2]]
 | (.inr (r_b0_0, r_b0_1)) => [[.imm r_b0_0, ic r_b0_1, ic b0_2]]
noncomputable def t86_e (k : Nat) (rec : S86 → Option R86) (s1 : ByteArray) (b0_0 : Rs) (b0_1 b0_2 : Int) : Option R86 :=
 (g37 k s1 b0_0 b0_1 b0_2).bind fun v_x1 =>
 tup2 v_x1 fun r_x3 rb00_x3 =>
 bif !r_x3 then
  (g46 k rb00_x3 b0_1 b0_2).bind fun v_x5 =>
  tup6 v_x5 fun r0_x7 r1_x7 r2_x7 r3_x7 r4_x7 rb00_x7 =>
  some (.inl (r4_x7, 13, rb00_x7, b0_1))
 else
  some (.inr (rb00_x3, IntKind.i64.wrap (b0_1 + 1)))
noncomputable def step86 (k : Nat) (rec : S86 → Option R86) : S86 → Option R86
 | .e s1 b0_0 b0_1 b0_2 => t86_e k rec s1 b0_0 b0_1 b0_2
noncomputable def g86 (k : Nat) (s1 : ByteArray) (b0_0 : Rs) (b0_1 b0_2 : Int) : Option R86 := itS step86 k (.e s1 b0_0 b0_1 b0_2)
noncomputable def P86 : S86 → R86 → Prop
 | .e s1 b0_0 b0_1 b0_2, r => Fin cx86 Tryd.f86 [.code body86] (fr0 Tryd.f86 [pP 0, .c (sc s1)] [[.imm b0_0, ic b0_1, ic b0_2]]) (res86 r) (bx86 b0_2 r)
theorem evr86 {s1 : ByteArray} {b0_0 : Rs} {b0_1 b0_2 : Int} {r : R86} (h : P86 (.e s1 b0_0 b0_1 b0_2) r) : Ev Tryd.prog noHand 86 [pP 0, .c (sc s1)] [[.imm b0_0, ic b0_1, ic b0_2]] (res86 r) (bx86 b0_2 r) := ev_of_fin (fn := Tryd.f86) (body := body86) (by kernel_rfl) (by kernel_rfl) (by kernel_rfl) rfl h
theorem t86_e_ok (k) {rec} (ih : ∀ s r, rec s = some r → P86 s r) {s1 b0_0 b0_1 b0_2 r} (h : t86_e k rec s1 b0_0 b0_1 b0_2 = some r) : P86 (.e s1 b0_0 b0_1 b0_2) r := by
 unfold t86_e at h
 obtain ⟨v_x1, h_x2, h⟩ := bd_or h
 replace h := tup2_or h; obtain ⟨r_x3, rb00_x3, rfl, h⟩ := h
 rcases bif_or h with ⟨h_x4, h⟩ | ⟨h_x4, h⟩
 ·
  obtain ⟨v_x5, h_x6, h⟩ := bd_or h
  replace h := tup6_or h; obtain ⟨r0_x7, r1_x7, r2_x7, r3_x7, r4_x7, rb00_x7, rfl, h⟩ := h
  rw [← Option.some.inj h]
  exact mF 1 hmix [(some 6, .call (.ret (.c (bc r_x3))) [[.imm rb00_x3, ic b0_1, ic b0_2]] false), aT 7, (some 9, .call (.ret (.ag [ic r0_x7, sc r1_x7, ic r2_x7, ic r3_x7, ic r4_x7])) [[.imm rb00_x7, ic b0_1, ic b0_2]] false)] [_, _, _] (by kernel_rfl) ⟨(ev37 h_x2), h_x4, (ev46 h_x6), trivial⟩
 ·
  rw [← Option.some.inj h]
  exact mF 1 hmix [(some 6, .call (.ret (.c (bc r_x3))) [[.imm rb00_x3, ic b0_1, ic b0_2]] false), aF 7] [_, _] (by kernel_rfl) ⟨(ev37 h_x2), h_x4, trivial⟩
theorem ok86 : ∀ k s r, itS step86 k s = some r → P86 s r := itS_ok fun k rec ih s r h => match s, h with
 | .e s1 b0_0 b0_1 b0_2, h => t86_e_ok k ih h
theorem ev86 {k : Nat} {s1 : ByteArray} {b0_0 : Rs} {b0_1 b0_2 : Int} {r : R86} (h : g86 k s1 b0_0 b0_1 b0_2 = some r) : Ev Tryd.prog noHand 86 [pP 0, .c (sc s1)] [[.imm b0_0, ic b0_1, ic b0_2]] (res86 r) (bx86 b0_2 r) := evr86 (ok86 _ _ _ h)
inductive S85 where
 | e (b0_0 : Rs) (b0_1 b0_2 : Int)
abbrev R85 := (Int × Int × Rs × Int) ⊕ (ByteArray × ByteArray × Rs × Int)
def res85 : R85 → ARes
 | (.inl (r_i00, r_i01, r_b0_0, r_b0_1)) => .panic (.iface 58 (.agg #[.int .i64 r_i00, .int .i64 r_i01]))
 | (.inr (r_00, r_10, r_b0_0, r_b0_1)) => .ret ⟨.tup [false, false], [[sc r_00], [sc r_10]]⟩
def bx85 (b0_2 : Int) : R85 → List (List Cell)
 | (.inl (r_i00, r_i01, r_b0_0, r_b0_1)) => [[.imm r_b0_0, ic r_b0_1, ic b0_2]]
 | (.inr (r_00, r_10, r_b0_0, r_b0_1)) => [[.imm r_b0_0, ic r_b0_1, ic b0_2]]
noncomputable def t85_e (k : Nat) (rec : S85 → Option R85) (b0_0 : Rs) (b0_1 b0_2 : Int) : Option R85 :=
 (g90 k b0_0 b0_1 b0_2).bind fun v_x1 =>
 altC v_x1 (fun v_x3 => 
   tup4 v_x3 fun ri00_x4 ri01_x4 rb00_x4 rb01_x4 =>
   some (.inl (ri00_x4, ri01_x4, rb00_x4, rb01_x4))) (fun v_x3 => 
   tup3 v_x3 fun r_x4 rb00_x4 rb01_x4 =>
   (g86 k (strB [46]) rb00_x4 rb01_x4 b0_2).bind fun v_x5 =>
   altC v_x5 (fun v_x7 => 
     tup4 v_x7 fun ri00_x8 ri01_x8 rb00_x8 rb01_x8 =>
     some (.inl (ri00_x8, ri01_x8, rb00_x8, rb01_x8))) (fun v_x7 => 
     tup2 v_x7 fun rb00_x8 rb01_x8 =>
     (g37 k (strB [84, 73, 77, 69]) rb00_x8 rb01_x8 b0_2).bind fun v_x9 =>
     tup2 v_x9 fun r_x11 rb00_x11 =>
     bif r_x11 then
      some (.inr (r_x4, strB [84, 73, 77, 69], rb00_x11, IntKind.i64.wrap (rb01_x8 + 1)))
     else
      (g90 k rb00_x11 rb01_x8 b0_2).bind fun v_x12 =>
      altC v_x12 (fun v_x14 => 
        tup4 v_x14 fun ri00_x15 ri01_x15 rb00_x15 rb01_x15 =>
        some (.inl (ri00_x15, ri01_x15, rb00_x15, rb01_x15))) (fun v_x14 => 
        tup3 v_x14 fun r_x15 rb00_x15 rb01_x15 =>
        some (.inr (r_x4, r_x15, rb00_x15, rb01_x15)))))
noncomputable def step85 (k : Nat) (rec : S85 → Option R85) : S85 → Option R85
 | .e b0_0 b0_1 b0_2 => t85_e k rec b0_0 b0_1 b0_2
noncomputable def g85 (k : Nat) (b0_0 : Rs) (b0_1 b0_2 : Int) : Option R85 := itS step85 k (.e b0_0 b0_1 b0_2)
noncomputable def P85 : S85 → R85 → Prop
 | .e b0_0 b0_1 b0_2, r => Fin cx85 Tryd.f85 [.code body85] (fr0 Tryd.f85 [pP 0] [[.imm b0_0, ic b0_1, ic b0_2]]) (res85 r) (bx85 b0_2 r)
theorem evr85 {b0_0 : Rs} {b0_1 b0_2 : Int} {r : R85} (h : P85 (.e b0_0 b0_1 b0_2) r) : Ev Tryd.prog noHand 85 [pP 0] [[.imm b0_0, ic b0_1, ic b0_2]] (res85 r) (bx85 b0_2 r) := ev_of_fin (fn := Tryd.f85) (body := body85) (by kernel_rfl) (by kernel_rfl) (by kernel_rfl) rfl h
theorem t85_e_ok (k) {rec} (ih : ∀ s r, rec s = some r → P85 s r) {b0_0 b0_1 b0_2 r} (h : t85_e k rec b0_0 b0_1 b0_2 = some r) : P85 (.e b0_0 b0_1 b0_2) r := by
 unfold t85_e at h
 obtain ⟨v_x1, h_x2, h⟩ := bd_or h
 replace h := altC_or h; rcases h with ⟨v_x3, rfl, h⟩ | ⟨v_x3, rfl, h⟩
 ·
  replace h := tup4_or h; obtain ⟨ri00_x4, ri01_x4, rb00_x4, rb01_x4, rfl, h⟩ := h
  rw [← Option.some.inj h]
  exact mF 1 hmix [(some 6, .call (.panic (.iface 58 (.agg #[.int .i64 ri00_x4, .int .i64 ri01_x4]))) [[.imm rb00_x4, ic rb01_x4, ic b0_2]] false)] [_] (by kernel_rfl) ⟨(ev90 h_x2), trivial⟩
 ·
  replace h := tup3_or h; obtain ⟨r_x4, rb00_x4, rb01_x4, rfl, h⟩ := h
  obtain ⟨v_x5, h_x6, h⟩ := bd_or h
  replace h := altC_or h; rcases h with ⟨v_x7, rfl, h⟩ | ⟨v_x7, rfl, h⟩
  ·
   replace h := tup4_or h; obtain ⟨ri00_x8, ri01_x8, rb00_x8, rb01_x8, rfl, h⟩ := h
   rw [← Option.some.inj h]
   exact mF 1 hmix [(some 6, .call (.ret (.c (sc r_x4))) [[.imm rb00_x4, ic rb01_x4, ic b0_2]] false), (some 8, .call (.panic (.iface 58 (.agg #[.int .i64 ri00_x8, .int .i64 ri01_x8]))) [[.imm rb00_x8, ic rb01_x8, ic b0_2]] false)] [_, _] (by kernel_rfl) ⟨(ev90 h_x2), (ev86 h_x6), trivial⟩
  ·
   replace h := tup2_or h; obtain ⟨rb00_x8, rb01_x8, rfl, h⟩ := h
   obtain ⟨v_x9, h_x10, h⟩ := bd_or h
   replace h := tup2_or h; obtain ⟨r_x11, rb00_x11, rfl, h⟩ := h
   replace h := bif_or h; rcases h with ⟨rfl, h⟩ | ⟨rfl, h⟩
   ·
    rw [← Option.some.inj h]
    exact mF 1 hmix [(some 6, .call (.ret (.c (sc r_x4))) [[.imm rb00_x4, ic rb01_x4, ic b0_2]] false), (some 8, .call (.ret .undef) [[.imm rb00_x8, ic rb01_x8, ic b0_2]] false), (some 10, .call (.ret (.c (bc true))) [[.imm rb00_x11, ic rb01_x8, ic b0_2]] false)] [_, _, _] (by kernel_rfl) ⟨(ev90 h_x2), (ev86 h_x6), (ev37 h_x10), trivial⟩
   ·
    obtain ⟨v_x12, h_x13, h⟩ := bd_or h
    replace h := altC_or h; rcases h with ⟨v_x14, rfl, h⟩ | ⟨v_x14, rfl, h⟩
    ·
     replace h := tup4_or h; obtain ⟨ri00_x15, ri01_x15, rb00_x15, rb01_x15, rfl, h⟩ := h
     rw [← Option.some.inj h]
     exact mF 1 hmix [(some 6, .call (.ret (.c (sc r_x4))) [[.imm rb00_x4, ic rb01_x4, ic b0_2]] false), (some 8, .call (.ret .undef) [[.imm rb00_x8, ic rb01_x8, ic b0_2]] false), (some 10, .call (.ret (.c (bc false))) [[.imm rb00_x11, ic rb01_x8, ic b0_2]] false), (some 21, .call (.panic (.iface 58 (.agg #[.int .i64 ri00_x15, .int .i64 ri01_x15]))) [[.imm rb00_x15, ic rb01_x15, ic b0_2]] false)] [_, _, _, _] (by kernel_rfl) ⟨(ev90 h_x2), (ev86 h_x6), (ev37 h_x10), (ev90 h_x13), trivial⟩
    ·
     replace h := tup3_or h; obtain ⟨r_x15, rb00_x15, rb01_x15, rfl, h⟩ := h
     rw [← Option.some.inj h]
     exact mF 1 hmix [(some 6, .call (.ret (.c (sc r_x4))) [[.imm rb00_x4, ic rb01_x4, ic b0_2]] false), (some 8, .call (.ret .undef) [[.imm rb00_x8, ic rb01_x8, ic b0_2]] false), (some 10, .call (.ret (.c (bc false))) [[.imm rb00_x11, ic rb01_x8, ic b0_2]] false), (some 21, .call (.ret (.c (sc r_x15))) [[.imm rb00_x15, ic rb01_x15, ic b0_2]] false)] [_, _, _, _] (by kernel_rfl) ⟨(ev90 h_x2), (ev86 h_x6), (ev37 h_x10), (ev90 h_x13), trivial⟩
theorem ok85 : ∀ k s r, itS step85 k s = some r → P85 s r := itS_ok fun k rec ih s r h => match s, h with
 | .e b0_0 b0_1 b0_2, h => t85_e_ok k ih h
theorem ev85 {k : Nat} {b0_0 : Rs} {b0_1 b0_2 : Int} {r : R85} (h : g85 k b0_0 b0_1 b0_2 = some r) : Ev Tryd.prog noHand 85 [pP 0] [[.imm b0_0, ic b0_1, ic b0_2]] (res85 r) (bx85 b0_2 r) := evr85 (ok85 _ _ _ h)
inductive S52 where
 | e (b0_0 : Rs) (b0_1 b0_2 : Int)
abbrev R52 := (Int × Int × Rs × Int × Int) ⊕ (Int × Rs × Int × Int)
def res52 : R52 → ARes
 | (.inl (r_i00, r_i01, r_b0_0, r_b0_1, r_b0_2)) => .panic (.iface 58 (.agg #[.int .i64 r_i00, .int .i64 r_i01]))
 | (.inr (r, r_b0_0, r_b0_1, r_b0_2)) => .ret (.c (ic r))
def bx52 : R52 → List (List Cell)
 | (.inl (r_i00, r_i01, r_b0_0, r_b0_1, r_b0_2)) => [[.imm r_b0_0, ic r_b0_1, ic r_b0_2]]
 | (.inr (r, r_b0_0, r_b0_1, r_b0_2)) => [[.imm r_b0_0, ic r_b0_1, ic r_b0_2]]
noncomputable def t52_e (k : Nat) (rec : S52 → Option R52) (b0_0 : Rs) (b0_1 b0_2 : Int) : Option R52 :=
 (g46 k b0_0 b0_1 b0_2).bind fun v_x1 =>
 tup6 v_x1 fun r0_x3 r1_x3 r2_x3 r3_x3 r4_x3 rb00_x3 =>
 bif b0_2 == 30 then
  some (.inl (r4_x3, 14, rb00_x3, b0_1, b0_2))
 else
  some (.inr (r4_x3, rb00_x3, IntKind.i64.wrap (b0_1 + 1), IntKind.i64.wrap (b0_2 + 1)))
noncomputable def step52 (k : Nat) (rec : S52 → Option R52) : S52 → Option R52
 | .e b0_0 b0_1 b0_2 => t52_e k rec b0_0 b0_1 b0_2
noncomputable def g52 (k : Nat) (b0_0 : Rs) (b0_1 b0_2 : Int) : Option R52 := itS step52 k (.e b0_0 b0_1 b0_2)
noncomputable def P52 : S52 → R52 → Prop
 | .e b0_0 b0_1 b0_2, r => Fin cx52 Tryd.f52 [.code body52] (fr0 Tryd.f52 [pP 0] [[.imm b0_0, ic b0_1, ic b0_2]]) (res52 r) (bx52 r)
theorem evr52 {b0_0 : Rs} {b0_1 b0_2 : Int} {r : R52} (h : P52 (.e b0_0 b0_1 b0_2) r) : Ev Tryd.prog noHand 52 [pP 0] [[.imm b0_0, ic b0_1, ic b0_2]] (res52 r) (bx52 r) := ev_of_fin (fn := Tryd.f52) (body := body52) (by kernel_rfl) (by kernel_rfl) (by kernel_rfl) rfl h
theorem t52_e_ok (k) {rec} (ih : ∀ s r, rec s = some r → P52 s r) {b0_0 b0_1 b0_2 r} (h : t52_e k rec b0_0 b0_1 b0_2 = some r) : P52 (.e b0_0 b0_1 b0_2) r := by
 unfold t52_e at h
 obtain ⟨v_x1, h_x2, h⟩ := bd_or h
 replace h := tup6_or h; obtain ⟨r0_x3, r1_x3, r2_x3, r3_x3, r4_x3, rb00_x3, rfl, h⟩ := h
 rcases bif_or h with ⟨h_x4, h⟩ | ⟨h_x4, h⟩
 ·
  rw [← Option.some.inj h]
  exact mF 1 hmix [(some 5, .call (.ret (.ag [ic r0_x3, sc r1_x3, ic r2_x3, ic r3_x3, ic r4_x3])) [[.imm rb00_x3, ic b0_1, ic b0_2]] false), aT 10] [_, _] (by kernel_rfl) ⟨(ev46 h_x2), h_x4, trivial⟩
 ·
  rw [← Option.some.inj h]
  exact mF 1 hmix [(some 5, .call (.ret (.ag [ic r0_x3, sc r1_x3, ic r2_x3, ic r3_x3, ic r4_x3])) [[.imm rb00_x3, ic b0_1, ic b0_2]] false), aF 10] [_, _] (by kernel_rfl) ⟨(ev46 h_x2), h_x4, trivial⟩
theorem ok52 : ∀ k s r, itS step52 k s = some r → P52 s r := itS_ok fun k rec ih s r h => match s, h with
 | .e b0_0 b0_1 b0_2, h => t52_e_ok k ih h
theorem ev52 {k : Nat} {b0_0 : Rs} {b0_1 b0_2 : Int} {r : R52} (h : g52 k b0_0 b0_1 b0_2 = some r) : Ev Tryd.prog noHand 52 [pP 0] [[.imm b0_0, ic b0_1, ic b0_2]] (res52 r) (bx52 r) := evr52 (ok52 _ _ _ h)
inductive S91 where
 | e (t1_0 : Int) (t1_1 : ByteArray) (t1_2 t1_3 t1_4 : Int) (b0_0 : Rs) (b0_1 b0_2 : Int)
 | h0 (t8_0 t8_1 t8_2 t8_3 t8_4 t8_5 t8_6 : ByteArray) (t9 l4_0 l4_2 l4_3 : Int) (l4_4 l4_5 : ByteArray) (l4_6 l3_0 : Int) (l3_1 : ByteArray) (l3_2 l3_3 l3_4 : Int) (p0_0 : Rs) (p0_1 p0_2 : Int)
 | h1 (l7_0 l7_2 l7_3 : Int) (l7_4 l7_5 : ByteArray) (l7_6 l4_0 l4_2 l4_3 : Int) (l4_4 l4_5 : ByteArray) (l4_6 : Int) (p0_0 : Rs) (p0_1 p0_2 : Int)
abbrev R91 := (Int × Int × Rs × Int) ⊕ (Int × Int × Int × ByteArray × ByteArray × Int × Rs × Int)
def res91 : R91 → ARes
 | (.inl (r_i00, r_i01, r_b0_0, r_b0_1)) => .panic (.iface 58 (.agg #[.int .i64 r_i00, .int .i64 r_i01]))
 | (.inr (r_0, r_2, r_3, r_4, r_5, r_6, r_b0_0, r_b0_1)) => .ret (.ag [ic r_0, .nil, ic r_2, ic r_3, sc r_4, sc r_5, ic r_6])
def bx91 (b0_2 : Int) : R91 → List (List Cell)
 | (.inl (r_i00, r_i01, r_b0_0, r_b0_1)) => [[.imm r_b0_0, ic r_b0_1, ic b0_2]]
 | (.inr (r_0, r_2, r_3, r_4, r_5, r_6, r_b0_0, r_b0_1)) => [[.imm r_b0_0, ic r_b0_1, ic b0_2]]
noncomputable def t91_e (k : Nat) (rec : S91 → Option R91) (t1_0 : Int) (t1_1 : ByteArray) (t1_2 t1_3 t1_4 : Int) (b0_0 : Rs) (b0_1 b0_2 : Int) : Option R91 :=
 rec (.h0 (strB [67, 79, 85, 78, 84]) (strB [70, 73, 82, 83, 84]) (strB [76, 65, 83, 84]) (strB [83, 85, 77]) (strB [77, 73, 78]) (strB [77, 65, 88]) (strB [77, 69, 65, 78]) 0 0 0 0 (strB []) (strB []) 0 t1_0 t1_1 t1_2 t1_3 t1_4 b0_0 b0_1 b0_2)
noncomputable def t91_h0 (k : Nat) (rec : S91 → Option R91) (t8_0 t8_1 t8_2 t8_3 t8_4 t8_5 t8_6 : ByteArray) (t9 l4_0 l4_2 l4_3 : Int) (l4_4 l4_5 : ByteArray) (l4_6 l3_0 : Int) (l3_1 : ByteArray) (l3_2 l3_3 l3_4 : Int) (p0_0 : Rs) (p0_1 p0_2 : Int) : Option R91 :=
 bif decide (t9 < 7) then
  aixS [t8_0, t8_1, t8_2, t8_3, t8_4, t8_5, t8_6] t9 fun c_x2 =>
  bif !(c_x2.toList == l3_1.toList) then
   rec (.h0 t8_0 t8_1 t8_2 t8_3 t8_4 t8_5 t8_6 (IntKind.i64.wrap (t9 + 1)) l4_0 l4_2 l4_3 l4_4 l4_5 l4_6 l3_0 l3_1 l3_2 l3_3 l3_4 p0_0 p0_1 p0_2)
  else
   (g86 k (strB [40]) p0_0 (IntKind.i64.wrap (p0_1 + 1)) p0_2).bind fun v_x5 =>
   altC v_x5 (fun v_x7 => 
     tup4 v_x7 fun ri00_x8 ri01_x8 rb00_x8 rb01_x8 =>
     some (.inl (ri00_x8, ri01_x8, rb00_x8, rb01_x8))) (fun v_x7 => 
     tup2 v_x7 fun rb00_x8 rb01_x8 =>
     bif t9 == 0 then
      (g90 k rb00_x8 rb01_x8 p0_2).bind fun v_x10 =>
      altC v_x10 (fun v_x12 => 
        tup4 v_x12 fun ri00_x13 ri01_x13 rb00_x13 rb01_x13 =>
        some (.inl (ri00_x13, ri01_x13, rb00_x13, rb01_x13))) (fun v_x12 => 
        tup3 v_x12 fun r_x13 rb00_x13 rb01_x13 =>
        rec (.h1 (IntKind.i64.wrap ((25 : Int) + t9)) 0 0 r_x13 (strB []) l3_4 l4_0 l4_2 l4_3 l4_4 l4_5 l4_6 rb00_x13 rb01_x13 p0_2))
     else
      (g85 k rb00_x8 rb01_x8 p0_2).bind fun v_x10 =>
      altC v_x10 (fun v_x12 => 
        tup4 v_x12 fun ri00_x13 ri01_x13 rb00_x13 rb01_x13 =>
        some (.inl (ri00_x13, ri01_x13, rb00_x13, rb01_x13))) (fun v_x12 => 
        tup4 v_x12 fun r00_x13 r10_x13 rb00_x13 rb01_x13 =>
        rec (.h1 (IntKind.i64.wrap ((25 : Int) + t9)) 0 0 r00_x13 r10_x13 l3_4 l4_0 l4_2 l4_3 l4_4 l4_5 l4_6 rb00_x13 rb01_x13 p0_2)))
 else
  some (.inl (l3_4, 13, p0_0, p0_1))
noncomputable def t91_h1 (k : Nat) (rec : S91 → Option R91) (l7_0 l7_2 l7_3 : Int) (l7_4 l7_5 : ByteArray) (l7_6 l4_0 l4_2 l4_3 : Int) (l4_4 l4_5 : ByteArray) (l4_6 : Int) (p0_0 : Rs) (p0_1 p0_2 : Int) : Option R91 :=
 (g86 k (strB [41]) p0_0 p0_1 p0_2).bind fun v_x1 =>
 altC v_x1 (fun v_x3 => 
   tup4 v_x3 fun ri00_x4 ri01_x4 rb00_x4 rb01_x4 =>
   some (.inl (ri00_x4, ri01_x4, rb00_x4, rb01_x4))) (fun v_x3 => 
   tup2 v_x3 fun rb00_x4 rb01_x4 =>
   some (.inr (l7_0, l7_2, l7_3, l7_4, l7_5, l7_6, rb00_x4, rb01_x4)))
noncomputable def step91 (k : Nat) (rec : S91 → Option R91) : S91 → Option R91
 | .e t1_0 t1_1 t1_2 t1_3 t1_4 b0_0 b0_1 b0_2 => t91_e k rec t1_0 t1_1 t1_2 t1_3 t1_4 b0_0 b0_1 b0_2
 | .h0 t8_0 t8_1 t8_2 t8_3 t8_4 t8_5 t8_6 t9 l4_0 l4_2 l4_3 l4_4 l4_5 l4_6 l3_0 l3_1 l3_2 l3_3 l3_4 p0_0 p0_1 p0_2 => t91_h0 k rec t8_0 t8_1 t8_2 t8_3 t8_4 t8_5 t8_6 t9 l4_0 l4_2 l4_3 l4_4 l4_5 l4_6 l3_0 l3_1 l3_2 l3_3 l3_4 p0_0 p0_1 p0_2
 | .h1 l7_0 l7_2 l7_3 l7_4 l7_5 l7_6 l4_0 l4_2 l4_3 l4_4 l4_5 l4_6 p0_0 p0_1 p0_2 => t91_h1 k rec l7_0 l7_2 l7_3 l7_4 l7_5 l7_6 l4_0 l4_2 l4_3 l4_4 l4_5 l4_6 p0_0 p0_1 p0_2
noncomputable def g91 (k : Nat) (t1_0 : Int) (t1_1 : ByteArray) (t1_2 t1_3 t1_4 : Int) (b0_0 : Rs) (b0_1 b0_2 : Int) : Option R91 := itS step91 k (.e t1_0 t1_1 t1_2 t1_3 t1_4 b0_0 b0_1 b0_2)
noncomputable def P91 : S91 → R91 → Prop
 | .e t1_0 t1_1 t1_2 t1_3 t1_4 b0_0 b0_1 b0_2, r => Fin cx91 Tryd.f91 [.code body91] (fr0 Tryd.f91 [pP 0, .ag [ic t1_0, sc t1_1, ic t1_2, ic t1_3, ic t1_4]] [[.imm b0_0, ic b0_1, ic b0_2]]) (res91 r) (bx91 b0_2 r)
 | .h0 t8_0 t8_1 t8_2 t8_3 t8_4 t8_5 t8_6 t9 l4_0 l4_2 l4_3 l4_4 l4_5 l4_6 l3_0 l3_1 l3_2 l3_3 l3_4 p0_0 p0_1 p0_2, r => Fin cx91 Tryd.f91 (kAt body91 [1, 0, 1, 0, 4] []) ⟨[pP 0, .deadv, .deadv, pL 3, pL 4] ++ rep 3 .deadv ++ [.ag [sc t8_0, sc t8_1, sc t8_2, sc t8_3, sc t8_4, sc t8_5, sc t8_6], .c (ic t9)] ++ rep 41 .deadv, [(.loc 4, [ic l4_0, .nil, ic l4_2, ic l4_3, sc l4_4, sc l4_5, ic l4_6]), (.loc 3, [ic l3_0, sc l3_1, ic l3_2, ic l3_3, ic l3_4]), (.par 0, [.imm p0_0, ic p0_1, ic p0_2])]⟩ (res91 r) (bx91 p0_2 r)
 | .h1 l7_0 l7_2 l7_3 l7_4 l7_5 l7_6 l4_0 l4_2 l4_3 l4_4 l4_5 l4_6 p0_0 p0_1 p0_2, r => Fin cx91 Tryd.f91 (kAt body91 [1, 0, 1, 0, 0, 1, 1, 0, 0, 1, 1, 1, 1, 1, 1, 2] []) ⟨[pP 0] ++ rep 3 .deadv ++ [pL 4, .deadv, .deadv, pL 7] ++ rep 43 .deadv, [(.loc 7, [ic l7_0, .nil, ic l7_2, ic l7_3, sc l7_4, sc l7_5, ic l7_6]), (.loc 4, [ic l4_0, .nil, ic l4_2, ic l4_3, sc l4_4, sc l4_5, ic l4_6]), (.par 0, [.imm p0_0, ic p0_1, ic p0_2])]⟩ (res91 r) (bx91 p0_2 r)
theorem evr91 {t1_0 : Int} {t1_1 : ByteArray} {t1_2 t1_3 t1_4 : Int} {b0_0 : Rs} {b0_1 b0_2 : Int} {r : R91} (h : P91 (.e t1_0 t1_1 t1_2 t1_3 t1_4 b0_0 b0_1 b0_2) r) : Ev Tryd.prog noHand 91 [pP 0, .ag [ic t1_0, sc t1_1, ic t1_2, ic t1_3, ic t1_4]] [[.imm b0_0, ic b0_1, ic b0_2]] (res91 r) (bx91 b0_2 r) := ev_of_fin (fn := Tryd.f91) (body := body91) (by kernel_rfl) (by kernel_rfl) (by kernel_rfl) rfl h
theorem t91_e_ok (k) {rec} (ih : ∀ s r, rec s = some r → P91 s r) {t1_0 t1_1 t1_2 t1_3 t1_4 b0_0 b0_1 b0_2 r} (h : t91_e k rec t1_0 t1_1 t1_2 t1_3 t1_4 b0_0 b0_1 b0_2 = some r) : P91 (.e t1_0 t1_1 t1_2 t1_3 t1_4 b0_0 b0_1 b0_2) r := by
 unfold t91_e at h
 exact mA 1 hmix (ih _ _ h) 7 [] [] (bm 51 2251799813684454) (by kernel_rfl) trivial
theorem t91_h0_ok (k) {rec} (ih : ∀ s r, rec s = some r → P91 s r) {t8_0 t8_1 t8_2 t8_3 t8_4 t8_5 t8_6 t9 l4_0 l4_2 l4_3 l4_4 l4_5 l4_6 l3_0 l3_1 l3_2 l3_3 l3_4 p0_0 p0_1 p0_2 r} (h : t91_h0 k rec t8_0 t8_1 t8_2 t8_3 t8_4 t8_5 t8_6 t9 l4_0 l4_2 l4_3 l4_4 l4_5 l4_6 l3_0 l3_1 l3_2 l3_3 l3_4 p0_0 p0_1 p0_2 = some r) : P91 (.h0 t8_0 t8_1 t8_2 t8_3 t8_4 t8_5 t8_6 t9 l4_0 l4_2 l4_3 l4_4 l4_5 l4_6 l3_0 l3_1 l3_2 l3_3 l3_4 p0_0 p0_1 p0_2) r := by
 unfold t91_h0 at h
 rcases bif_or h with ⟨h_x1, h⟩ | ⟨h_x1, h⟩
 ·
  obtain ⟨c_x2, h_x3, h⟩ := aixS_or h
  rcases bif_or h with ⟨h_x4, h⟩ | ⟨h_x4, h⟩
  ·
   exact mA 1 hmix (ih _ _ h) 16 [aT 10, (some 12, .aix (.string c_x2)), aT 16] [_, _, _] (bm 51 2251799813684454) (by kernel_rfl) ⟨h_x1, h_x3, h_x4, trivial⟩
  ·
   obtain ⟨v_x5, h_x6, h⟩ := bd_or h
   replace h := altC_or h; rcases h with ⟨v_x7, rfl, h⟩ | ⟨v_x7, rfl, h⟩
   ·
    replace h := tup4_or h; obtain ⟨ri00_x8, ri01_x8, rb00_x8, rb01_x8, rfl, h⟩ := h
    rw [← Option.some.inj h]
    exact mF 1 hmix [aT 10, (some 12, .aix (.string c_x2)), aF 16, (some 25, .call (.panic (.iface 58 (.agg #[.int .i64 ri00_x8, .int .i64 ri01_x8]))) [[.imm rb00_x8, ic rb01_x8, ic p0_2]] false)] [_, _, _, _] (by kernel_rfl) ⟨h_x1, h_x3, h_x4, (ev86 h_x6), trivial⟩
   ·
    replace h := tup2_or h; obtain ⟨rb00_x8, rb01_x8, rfl, h⟩ := h
    rcases bif_or h with ⟨h_x9, h⟩ | ⟨h_x9, h⟩
    ·
     obtain ⟨v_x10, h_x11, h⟩ := bd_or h
     replace h := altC_or h; rcases h with ⟨v_x12, rfl, h⟩ | ⟨v_x12, rfl, h⟩
     ·
      replace h := tup4_or h; obtain ⟨ri00_x13, ri01_x13, rb00_x13, rb01_x13, rfl, h⟩ := h
      rw [← Option.some.inj h]
      exact mF 1 hmix [aT 10, (some 12, .aix (.string c_x2)), aF 16, (some 25, .call (.ret .undef) [[.imm rb00_x8, ic rb01_x8, ic p0_2]] false), aT 32, (some 34, .call (.panic (.iface 58 (.agg #[.int .i64 ri00_x13, .int .i64 ri01_x13]))) [[.imm rb00_x13, ic rb01_x13, ic p0_2]] false)] [_, _, _, _, _, _] (by kernel_rfl) ⟨h_x1, h_x3, h_x4, (ev86 h_x6), h_x9, (ev90 h_x11), trivial⟩
     ·
      replace h := tup3_or h; obtain ⟨r_x13, rb00_x13, rb01_x13, rfl, h⟩ := h
      exact mgo_at (nb := 1) hmix (ih _ _ h) (n := 26) (ad := [aT 10, (some 12, .aix (.string c_x2)), aF 16, (some 25, .call (.ret .undef) [[.imm rb00_x8, ic rb01_x8, ic p0_2]] false), aT 32, (some 34, .call (.ret (.c (sc r_x13))) [[.imm rb00_x13, ic rb01_x13, ic p0_2]] false)]) (ps := [_, _, _, _, _, _]) (m := bm 51 2251799813685102) (ls := [3]) (cs := []) (by kernel_rfl) ⟨h_x1, h_x3, h_x4, (ev86 h_x6), h_x9, (ev90 h_x11), trivial⟩
    ·
     obtain ⟨v_x10, h_x11, h⟩ := bd_or h
     replace h := altC_or h; rcases h with ⟨v_x12, rfl, h⟩ | ⟨v_x12, rfl, h⟩
     ·
      replace h := tup4_or h; obtain ⟨ri00_x13, ri01_x13, rb00_x13, rb01_x13, rfl, h⟩ := h
      rw [← Option.some.inj h]
      exact mF 1 hmix [aT 10, (some 12, .aix (.string c_x2)), aF 16, (some 25, .call (.ret .undef) [[.imm rb00_x8, ic rb01_x8, ic p0_2]] false), aF 32, (some 38, .call (.panic (.iface 58 (.agg #[.int .i64 ri00_x13, .int .i64 ri01_x13]))) [[.imm rb00_x13, ic rb01_x13, ic p0_2]] false)] [_, _, _, _, _, _] (by kernel_rfl) ⟨h_x1, h_x3, h_x4, (ev86 h_x6), h_x9, (ev85 h_x11), trivial⟩
     ·
      replace h := tup4_or h; obtain ⟨r00_x13, r10_x13, rb00_x13, rb01_x13, rfl, h⟩ := h
      exact mgo_at (nb := 1) hmix (ih _ _ h) (n := 26) (ad := [aT 10, (some 12, .aix (.string c_x2)), aF 16, (some 25, .call (.ret .undef) [[.imm rb00_x8, ic rb01_x8, ic p0_2]] false), aF 32, (some 38, .call (.ret ⟨.tup [false, false], [[sc r00_x13], [sc r10_x13]]⟩) [[.imm rb00_x13, ic rb01_x13, ic p0_2]] false)]) (ps := [_, _, _, _, _, _]) (m := bm 51 2251799813685102) (ls := [3]) (cs := []) (by kernel_rfl) ⟨h_x1, h_x3, h_x4, (ev86 h_x6), h_x9, (ev85 h_x11), trivial⟩
 ·
  rw [← Option.some.inj h]
  exact mF 1 hmix [aF 10] [_] (by kernel_rfl) ⟨h_x1, trivial⟩
theorem t91_h1_ok (k) {rec} (ih : ∀ s r, rec s = some r → P91 s r) {l7_0 l7_2 l7_3 l7_4 l7_5 l7_6 l4_0 l4_2 l4_3 l4_4 l4_5 l4_6 p0_0 p0_1 p0_2 r} (h : t91_h1 k rec l7_0 l7_2 l7_3 l7_4 l7_5 l7_6 l4_0 l4_2 l4_3 l4_4 l4_5 l4_6 p0_0 p0_1 p0_2 = some r) : P91 (.h1 l7_0 l7_2 l7_3 l7_4 l7_5 l7_6 l4_0 l4_2 l4_3 l4_4 l4_5 l4_6 p0_0 p0_1 p0_2) r := by
 unfold t91_h1 at h
 obtain ⟨v_x1, h_x2, h⟩ := bd_or h
 replace h := altC_or h; rcases h with ⟨v_x3, rfl, h⟩ | ⟨v_x3, rfl, h⟩
 ·
  replace h := tup4_or h; obtain ⟨ri00_x4, ri01_x4, rb00_x4, rb01_x4, rfl, h⟩ := h
  rw [← Option.some.inj h]
  exact mF 1 hmix [(some 44, .call (.panic (.iface 58 (.agg #[.int .i64 ri00_x4, .int .i64 ri01_x4]))) [[.imm rb00_x4, ic rb01_x4, ic p0_2]] false)] [_] (by kernel_rfl) ⟨(ev86 h_x2), trivial⟩
 ·
  replace h := tup2_or h; obtain ⟨rb00_x4, rb01_x4, rfl, h⟩ := h
  rw [← Option.some.inj h]
  exact mF 1 hmix [(some 44, .call (.ret .undef) [[.imm rb00_x4, ic rb01_x4, ic p0_2]] false)] [_] (by kernel_rfl) ⟨(ev86 h_x2), trivial⟩
theorem ok91 : ∀ k s r, itS step91 k s = some r → P91 s r := itS_ok fun k rec ih s r h => match s, h with
 | .e t1_0 t1_1 t1_2 t1_3 t1_4 b0_0 b0_1 b0_2, h => t91_e_ok k ih h
 | .h0 t8_0 t8_1 t8_2 t8_3 t8_4 t8_5 t8_6 t9 l4_0 l4_2 l4_3 l4_4 l4_5 l4_6 l3_0 l3_1 l3_2 l3_3 l3_4 p0_0 p0_1 p0_2, h => t91_h0_ok k ih h
 | .h1 l7_0 l7_2 l7_3 l7_4 l7_5 l7_6 l4_0 l4_2 l4_3 l4_4 l4_5 l4_6 p0_0 p0_1 p0_2, h => t91_h1_ok k ih h
theorem ev91 {k : Nat} {t1_0 : Int} {t1_1 : ByteArray} {t1_2 t1_3 t1_4 : Int} {b0_0 : Rs} {b0_1 b0_2 : Int} {r : R91} (h : g91 k t1_0 t1_1 t1_2 t1_3 t1_4 b0_0 b0_1 b0_2 = some r) : Ev Tryd.prog noHand 91 [pP 0, .ag [ic t1_0, sc t1_1, ic t1_2, ic t1_3, ic t1_4]] [[.imm b0_0, ic b0_1, ic b0_2]] (res91 r) (bx91 b0_2 r) := evr91 (ok91 _ _ _ h)
inductive S60 where
 | e (signs1 : ByteArray) (first2 : Int) (b0_0 : Rs) (b0_1 b0_2 : Int)
 | h0 (first2 : Int) (t16 : Rs) (t17 t18 l7_0 : Int) (l7_1 : ByteArray) (l7_2 l7_3 l7_4 : Int) (p0_0 : Rs) (p0_1 p0_2 : Int)
 | h1 (p0_0 : Rs) (p0_1 p0_2 : Int)
abbrev R60 := Int × Rs
def res60 : R60 → ARes
 | (r, r_b0_0) => .ret (.c (ic r))
def bx60 (b0_1 b0_2 : Int) : R60 → List (List Cell)
 | (r, r_b0_0) => [[.imm r_b0_0, ic b0_1, ic b0_2]]
noncomputable def t60_e (k : Nat) (rec : S60 → Option R60) (signs1 : ByteArray) (first2 : Int) (b0_0 : Rs) (b0_1 b0_2 : Int) : Option R60 :=
 (g46 k b0_0 b0_1 b0_2).bind fun v_x1 =>
 tup6 v_x1 fun r0_x3 r1_x3 r2_x3 r3_x3 r4_x3 rb00_x3 =>
 bif r0_x3 == 6 then
  (fieldsX signs1).bind fun v_x5 =>
  rec (.h0 first2 v_x5 (v_x5.length : Int) 0 r0_x3 r1_x3 r2_x3 r3_x3 r4_x3 rb00_x3 b0_1 b0_2)
 else
  rec (.h1 rb00_x3 b0_1 b0_2)
noncomputable def t60_h0 (k : Nat) (rec : S60 → Option R60) (first2 : Int) (t16 : Rs) (t17 t18 l7_0 : Int) (l7_1 : ByteArray) (l7_2 l7_3 l7_4 : Int) (p0_0 : Rs) (p0_1 p0_2 : Int) : Option R60 :=
 bif decide (t18 < t17) then
  ixR t16 t18 fun w_x2 =>
  un_s w_x2 fun x_x4 =>
  bif x_x4.toList == l7_1.toList then
   some (IntKind.i64.wrap (first2 + t18), p0_0)
  else
   rec (.h0 first2 t16 t17 (IntKind.i64.wrap (t18 + 1)) l7_0 l7_1 l7_2 l7_3 l7_4 p0_0 p0_1 p0_2)
 else
  rec (.h1 p0_0 p0_1 p0_2)
noncomputable def t60_h1 (k : Nat) (rec : S60 → Option R60) (p0_0 : Rs) (p0_1 p0_2 : Int) : Option R60 :=
 some (0, p0_0)
noncomputable def step60 (k : Nat) (rec : S60 → Option R60) : S60 → Option R60
 | .e signs1 first2 b0_0 b0_1 b0_2 => t60_e k rec signs1 first2 b0_0 b0_1 b0_2
 | .h0 first2 t16 t17 t18 l7_0 l7_1 l7_2 l7_3 l7_4 p0_0 p0_1 p0_2 => t60_h0 k rec first2 t16 t17 t18 l7_0 l7_1 l7_2 l7_3 l7_4 p0_0 p0_1 p0_2
 | .h1 p0_0 p0_1 p0_2 => t60_h1 k rec p0_0 p0_1 p0_2
noncomputable def g60 (k : Nat) (signs1 : ByteArray) (first2 : Int) (b0_0 : Rs) (b0_1 b0_2 : Int) : Option R60 := itS step60 k (.e signs1 first2 b0_0 b0_1 b0_2)
noncomputable def P60 : S60 → R60 → Prop
 | .e signs1 first2 b0_0 b0_1 b0_2, r => Fin cx60 Tryd.f60 [.code body60] (fr0 Tryd.f60 [pP 0, .c (sc signs1), .c (ic first2)] [[.imm b0_0, ic b0_1, ic b0_2]]) (res60 r) (bx60 b0_1 b0_2 r)
 | .h0 first2 t16 t17 t18 l7_0 l7_1 l7_2 l7_3 l7_4 p0_0 p0_1 p0_2, r => Fin cx60 Tryd.f60 (kAt body60 [1, 1, 0, 1, 0, 1, 0, 4] []) ⟨[.deadv, .deadv, .c (ic first2)] ++ rep 4 .deadv ++ [pL 7] ++ rep 8 .deadv ++ [.c (.imm t16), .c (ic t17), .c (ic t18)] ++ rep 12 .deadv, [(.loc 7, [ic l7_0, sc l7_1, ic l7_2, ic l7_3, ic l7_4]), (.par 0, [.imm p0_0, ic p0_1, ic p0_2])]⟩ (res60 r) (bx60 p0_1 p0_2 r)
 | .h1 p0_0 p0_1 p0_2, r => Fin cx60 Tryd.f60 (kAt body60 [1, 1, 1, 2] []) ⟨rep 31 .deadv, [(.par 0, [.imm p0_0, ic p0_1, ic p0_2])]⟩ (res60 r) (bx60 p0_1 p0_2 r)
theorem evr60 {signs1 : ByteArray} {first2 : Int} {b0_0 : Rs} {b0_1 b0_2 : Int} {r : R60} (h : P60 (.e signs1 first2 b0_0 b0_1 b0_2) r) : Ev Tryd.prog noHand 60 [pP 0, .c (sc signs1), .c (ic first2)] [[.imm b0_0, ic b0_1, ic b0_2]] (res60 r) (bx60 b0_1 b0_2 r) := ev_of_fin (fn := Tryd.f60) (body := body60) (by kernel_rfl) (by kernel_rfl) (by kernel_rfl) rfl h
theorem t60_e_ok (k) {rec} (ih : ∀ s r, rec s = some r → P60 s r) {signs1 first2 b0_0 b0_1 b0_2 r} (h : t60_e k rec signs1 first2 b0_0 b0_1 b0_2 = some r) : P60 (.e signs1 first2 b0_0 b0_1 b0_2) r := by
 unfold t60_e at h
 obtain ⟨v_x1, h_x2, h⟩ := bd_or h
 replace h := tup6_or h; obtain ⟨r0_x3, r1_x3, r2_x3, r3_x3, r4_x3, rb00_x3, rfl, h⟩ := h
 rcases bif_or h with ⟨h_x4, h⟩ | ⟨h_x4, h⟩
 ·
  obtain ⟨v_x5, h_x6, h⟩ := bd_or h
  exact mA 1 hmix (ih _ _ h) 12 [(some 11, .call (.ret (.ag [ic r0_x3, sc r1_x3, ic r2_x3, ic r3_x3, ic r4_x3])) [[.imm rb00_x3, ic b0_1, ic b0_2]] false), aT 14, aC 16 (.c (.imm v_x5))] [_, _, _] (bm 31 2147024763) (by kernel_rfl) ⟨(ev46 h_x2), h_x4, (fieldsX_ev h_x6), trivial⟩
 ·
  exact mgo_at (nb := 1) hmix (ih _ _ h) (n := 9) (ad := [(some 11, .call (.ret (.ag [ic r0_x3, sc r1_x3, ic r2_x3, ic r3_x3, ic r4_x3])) [[.imm rb00_x3, ic b0_1, ic b0_2]] false), aF 14]) (ps := [_, _]) (m := bm 31 2147483647) (ls := [7]) (cs := []) (by kernel_rfl) ⟨(ev46 h_x2), h_x4, trivial⟩
theorem t60_h0_ok (k) {rec} (ih : ∀ s r, rec s = some r → P60 s r) {first2 t16 t17 t18 l7_0 l7_1 l7_2 l7_3 l7_4 p0_0 p0_1 p0_2 r} (h : t60_h0 k rec first2 t16 t17 t18 l7_0 l7_1 l7_2 l7_3 l7_4 p0_0 p0_1 p0_2 = some r) : P60 (.h0 first2 t16 t17 t18 l7_0 l7_1 l7_2 l7_3 l7_4 p0_0 p0_1 p0_2) r := by
 unfold t60_h0 at h
 rcases bif_or h with ⟨h_x1, h⟩ | ⟨h_x1, h⟩
 ·
  obtain ⟨w_x2, h_x3, h⟩ := ixR_or h
  replace h := un_s_or h; obtain ⟨x_x4, rfl, h⟩ := h
  rcases bif_or h with ⟨h_x5, h⟩ | ⟨h_x5, h⟩
  ·
   rw [← Option.some.inj h]
   exact mF 1 hmix [aT 19, (some 21, .row [sc x_x4]), aT 26] [_, _, _] (by kernel_rfl) ⟨h_x1, ix_row h_x3 rfl, h_x5, trivial⟩
  ·
   exact mA 1 hmix (ih _ _ h) 16 [aT 19, (some 21, .row [sc x_x4]), aF 26] [_, _, _] (bm 31 2147024763) (by kernel_rfl) ⟨h_x1, ix_row h_x3 rfl, h_x5, trivial⟩
 ·
  exact mgo_at (nb := 1) hmix (ih _ _ h) (n := 6) (ad := [aF 19]) (ps := [_]) (m := bm 31 2147483647) (ls := [7]) (cs := []) (by kernel_rfl) ⟨h_x1, trivial⟩
theorem t60_h1_ok (k) {rec} (ih : ∀ s r, rec s = some r → P60 s r) {p0_0 p0_1 p0_2 r} (h : t60_h1 k rec p0_0 p0_1 p0_2 = some r) : P60 (.h1 p0_0 p0_1 p0_2) r := by
 unfold t60_h1 at h
 rw [← Option.some.inj h]
 exact mF 1 hmix [] [] (by kernel_rfl) trivial
theorem ok60 : ∀ k s r, itS step60 k s = some r → P60 s r := itS_ok fun k rec ih s r h => match s, h with
 | .e signs1 first2 b0_0 b0_1 b0_2, h => t60_e_ok k ih h
 | .h0 first2 t16 t17 t18 l7_0 l7_1 l7_2 l7_3 l7_4 p0_0 p0_1 p0_2, h => t60_h0_ok k ih h
 | .h1 p0_0 p0_1 p0_2, h => t60_h1_ok k ih h
theorem ev60 {k : Nat} {signs1 : ByteArray} {first2 : Int} {b0_0 : Rs} {b0_1 b0_2 : Int} {r : R60} (h : g60 k signs1 first2 b0_0 b0_1 b0_2 = some r) : Ev Tryd.prog noHand 60 [pP 0, .c (sc signs1), .c (ic first2)] [[.imm b0_0, ic b0_1, ic b0_2]] (res60 r) (bx60 b0_1 b0_2 r) := evr60 (ok60 _ _ _ h)
end Ab
end Go.Proofs.YtfekohpjaafnhaaDoor
