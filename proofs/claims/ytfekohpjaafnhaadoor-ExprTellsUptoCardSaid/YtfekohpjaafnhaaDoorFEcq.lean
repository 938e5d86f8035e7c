/-
 Functions' ways, printed by a program: what each computes, and that this is what the interpreter computes.
-/
import Derived.Test.YtfekohpjaafnhaaDoorFEbq
import Derived.KernelRfl
set_option linter.unusedVariables false
set_option linter.unusedSimpArgs false
set_option linter.unusedSectionVars false
set_option maxRecDepth 10000
namespace Go.Proofs.YtfekohpjaafnhaaDoor
namespace Ab
variable [Laid3]
inductive S18 where
 | e_18 (e0_0 : Int) (e0_1 : Rs) (e0_2 e0_3 : Int) (e0_4 e0_5 : ByteArray) (e0_6 : Int)
 | e_26 (e0_0 : Int) (e0_1 : Rs) (e0_2 e0_3 : Int) (e0_4 e0_5 : ByteArray) (e0_6 least1 : Int)
abbrev R18 := ByteArray × Int
def res18 : R18 → ARes
 | (r_00, r_10) => .ret ⟨.tup [false, false], [[sc r_00], [ic r_10]]⟩
def bx18 : R18 → List (List Cell)
 | (r_00, r_10) => []
noncomputable def t18_e (k : Nat) (rec : S18 → Option R18) (e0_0 : Int) (e0_1 : Rs) (e0_2 e0_3 : Int) (e0_4 e0_5 : ByteArray) (e0_6 : Int) : Option R18 :=
 (g25 k e0_0).bind fun v_x1 =>
 tup3 v_x1 fun r00_x3 r10_x3 r20_x3 =>
 bif (e0_1.length : Int) == 1 then
  ixR e0_1 0 fun w_x5 =>
  un_imiissi w_x5 fun op_x7 args_x7 n_x7 scale_x7 name_x7 attr_x7 at_x7 =>
  (rec (.e_26 op_x7 args_x7 n_x7 scale_x7 name_x7 attr_x7 at_x7 r10_x3)).bind fun v_x8 =>
  tup2 v_x8 fun r00_x10 r10_x10 =>
  bif e0_0 == 16 then
   gd (decide ((strB [40]).size + r00_x10.size ≤ 1000000000)) <|
   gd (decide (((strB [40]) ++ r00_x10).size + (strB [41]).size ≤ 1000000000)) <|
   (g27 k e0_0).bind fun v_x14 =>
   gd (decide (v_x14.size + (((strB [40]) ++ r00_x10) ++ (strB [41])).size ≤ 1000000000)) <|
   some ((v_x14 ++ (((strB [40]) ++ r00_x10) ++ (strB [41]))), IntKind.i64.wrap (r10_x10 + 1))
  else
   bif e0_0 == 17 then
    gd (decide ((strB [40]).size + r00_x10.size ≤ 1000000000)) <|
    gd (decide (((strB [40]) ++ r00_x10).size + (strB [41]).size ≤ 1000000000)) <|
    (g27 k e0_0).bind fun v_x15 =>
    gd (decide (v_x15.size + (((strB [40]) ++ r00_x10) ++ (strB [41])).size ≤ 1000000000)) <|
    some ((v_x15 ++ (((strB [40]) ++ r00_x10) ++ (strB [41]))), IntKind.i64.wrap (r10_x10 + 1))
   else
    (g27 k e0_0).bind fun v_x13 =>
    gd (decide (v_x13.size + r00_x10.size ≤ 1000000000)) <|
    some ((v_x13 ++ r00_x10), IntKind.i64.wrap (r10_x10 + 1))
 else
  bif (e0_1.length : Int) == 2 then
   ixR e0_1 0 fun w_x6 =>
   un_imiissi w_x6 fun op_x8 args_x8 n_x8 scale_x8 name_x8 attr_x8 at_x8 =>
   (rec (.e_26 op_x8 args_x8 n_x8 scale_x8 name_x8 attr_x8 at_x8 r10_x3)).bind fun v_x9 =>
   tup2 v_x9 fun r00_x11 r10_x11 =>
   ixR e0_1 1 fun w_x12 =>
   un_imiissi w_x12 fun op_x14 args_x14 n_x14 scale_x14 name_x14 attr_x14 at_x14 =>
   (rec (.e_26 op_x14 args_x14 n_x14 scale_x14 name_x14 attr_x14 at_x14 r20_x3)).bind fun v_x15 =>
   tup2 v_x15 fun r00_x17 r10_x17 =>
   gd (decide (r00_x11.size + (strB [32]).size ≤ 1000000000)) <|
   (g27 k e0_0).bind fun v_x19 =>
   gd (decide ((r00_x11 ++ (strB [32])).size + v_x19.size ≤ 1000000000)) <|
   gd (decide (((r00_x11 ++ (strB [32])) ++ v_x19).size + (strB [32]).size ≤ 1000000000)) <|
   gd (decide ((((r00_x11 ++ (strB [32])) ++ v_x19) ++ (strB [32])).size + r00_x17.size ≤ 1000000000)) <|
   some (((((r00_x11 ++ (strB [32])) ++ v_x19) ++ (strB [32])) ++ r00_x17), (if (r10_x17 : Int) > r10_x11 then r10_x17 else r10_x11))
  else
   (g28 k e0_0 e0_1 e0_2 e0_3 e0_4 e0_5 e0_6).bind fun v_x6 =>
   some (v_x6, 0)
def res26 : R18 → ARes
 | (r_00, r_10) => .ret ⟨.tup [false, false], [[sc r_00], [ic r_10]]⟩
def bx26 : R18 → List (List Cell)
 | (r_00, r_10) => []
noncomputable def t26_e (k : Nat) (rec : S18 → Option R18) (e0_0 : Int) (e0_1 : Rs) (e0_2 e0_3 : Int) (e0_4 e0_5 : ByteArray) (e0_6 least1 : Int) : Option R18 :=
 (rec (.e_18 e0_0 e0_1 e0_2 e0_3 e0_4 e0_5 e0_6)).bind fun v_x1 =>
 tup2 v_x1 fun r00_x3 r10_x3 =>
 (g25 k e0_0).bind fun v_x4 =>
 tup3 v_x4 fun r00_x6 r10_x6 r20_x6 =>
 bif decide (r00_x6 < least1) then
  gd (decide ((strB [40]).size + r00_x3.size ≤ 1000000000)) <|
  gd (decide (((strB [40]) ++ r00_x3).size + (strB [41]).size ≤ 1000000000)) <|
  some ((((strB [40]) ++ r00_x3) ++ (strB [41])), IntKind.i64.wrap (r10_x3 + 1))
 else
  some (r00_x3, r10_x3)
noncomputable def step18 (k : Nat) (rec : S18 → Option R18) : S18 → Option R18
 | .e_18 e0_0 e0_1 e0_2 e0_3 e0_4 e0_5 e0_6 => t18_e k rec e0_0 e0_1 e0_2 e0_3 e0_4 e0_5 e0_6
 | .e_26 e0_0 e0_1 e0_2 e0_3 e0_4 e0_5 e0_6 least1 => t26_e k rec e0_0 e0_1 e0_2 e0_3 e0_4 e0_5 e0_6 least1
noncomputable def g18 (k : Nat) (e0_0 : Int) (e0_1 : Rs) (e0_2 e0_3 : Int) (e0_4 e0_5 : ByteArray) (e0_6 : Int) : Option R18 := itS step18 k (.e_18 e0_0 e0_1 e0_2 e0_3 e0_4 e0_5 e0_6)
noncomputable def P18 : S18 → R18 → Prop
 | .e_18 e0_0 e0_1 e0_2 e0_3 e0_4 e0_5 e0_6, r => Fin cx18 Tryd.f18 [.code body18] (fr0 Tryd.f18 [.ag [ic e0_0, .imm e0_1, ic e0_2, ic e0_3, sc e0_4, sc e0_5, ic e0_6]] []) (res18 r) (bx18 r)
 | .e_26 e0_0 e0_1 e0_2 e0_3 e0_4 e0_5 e0_6 least1, r => Fin cx26 Tryd.f26 [.code body26] (fr0 Tryd.f26 [.ag [ic e0_0, .imm e0_1, ic e0_2, ic e0_3, sc e0_4, sc e0_5, ic e0_6], .c (ic least1)] []) (res26 r) (bx26 r)
theorem evr18 {e0_0 : Int} {e0_1 : Rs} {e0_2 e0_3 : Int} {e0_4 e0_5 : ByteArray} {e0_6 : Int} {r : R18} (h : P18 (.e_18 e0_0 e0_1 e0_2 e0_3 e0_4 e0_5 e0_6) r) : Ev Tryd.prog noHand 18 [.ag [ic e0_0, .imm e0_1, ic e0_2, ic e0_3, sc e0_4, sc e0_5, ic e0_6]] [] (res18 r) (bx18 r) := ev_of_fin (fn := Tryd.f18) (body := body18) (by kernel_rfl) (by kernel_rfl) (by kernel_rfl) rfl h
theorem evr26 {e0_0 : Int} {e0_1 : Rs} {e0_2 e0_3 : Int} {e0_4 e0_5 : ByteArray} {e0_6 least1 : Int} {r : R18} (h : P18 (.e_26 e0_0 e0_1 e0_2 e0_3 e0_4 e0_5 e0_6 least1) r) : Ev Tryd.prog noHand 26 [.ag [ic e0_0, .imm e0_1, ic e0_2, ic e0_3, sc e0_4, sc e0_5, ic e0_6], .c (ic least1)] [] (res26 r) (bx26 r) := ev_of_fin (fn := Tryd.f26) (body := body26) (by kernel_rfl) (by kernel_rfl) (by kernel_rfl) rfl h
theorem t18_e_ok (k) {rec} (ih : ∀ s r, rec s = some r → P18 s r) {e0_0 e0_1 e0_2 e0_3 e0_4 e0_5 e0_6 r} (h : t18_e k rec e0_0 e0_1 e0_2 e0_3 e0_4 e0_5 e0_6 = some r) : P18 (.e_18 e0_0 e0_1 e0_2 e0_3 e0_4 e0_5 e0_6) r := by
 unfold t18_e at h
 obtain ⟨v_x1, h_x2, h⟩ := bd_or h
 replace h := tup3_or h; obtain ⟨r00_x3, r10_x3, r20_x3, rfl, h⟩ := h
 rcases bif_or h with ⟨h_x4, h⟩ | ⟨h_x4, h⟩
 ·
  obtain ⟨w_x5, h_x6, h⟩ := ixR_or h
  replace h := un_imiissi_or h; obtain ⟨op_x7, args_x7, n_x7, scale_x7, name_x7, attr_x7, at_x7, rfl, h⟩ := h
  obtain ⟨v_x8, h_x9, h⟩ := bd_or h
  replace h := tup2_or h; obtain ⟨r00_x10, r10_x10, rfl, h⟩ := h
  rcases bif_or h with ⟨h_x11, h⟩ | ⟨h_x11, h⟩
  ·
   obtain ⟨h_x12, h⟩ := gd_or h
   obtain ⟨h_x13, h⟩ := gd_or h
   obtain ⟨v_x14, h_x15, h⟩ := bd_or h
   obtain ⟨h_x16, h⟩ := gd_or h
   rw [← Option.some.inj h]
   exact mF 0 hmix [aC 16 ⟨.tup [false, false, false], [[ic r00_x3], [ic r10_x3], [ic r20_x3]]⟩, aT 24, (some 28, .row [ic op_x7, .imm args_x7, ic n_x7, ic scale_x7, sc name_x7, sc attr_x7, ic at_x7]), aC 31 ⟨.tup [false, false], [[sc r00_x10], [ic r10_x10]]⟩, aT 36, (some 43, .scat), (some 44, .scat), aC 47 (.c (sc v_x14)), (some 49, .scat)] [_, _, _, _, _, _, _, _, _] (by kernel_rfl) ⟨(ev25 h_x2), h_x4, ix_row h_x6 rfl, (evr26 (ih _ _ h_x9)), h_x11, of_decide_eq_true h_x12, of_decide_eq_true h_x13, (ev27 h_x15), of_decide_eq_true h_x16, trivial⟩
  ·
   rcases bif_or h with ⟨h_x12, h⟩ | ⟨h_x12, h⟩
   ·
    obtain ⟨h_x13, h⟩ := gd_or h
    obtain ⟨h_x14, h⟩ := gd_or h
    obtain ⟨v_x15, h_x16, h⟩ := bd_or h
    obtain ⟨h_x17, h⟩ := gd_or h
    rw [← Option.some.inj h]
    exact mF 0 hmix [aC 16 ⟨.tup [false, false, false], [[ic r00_x3], [ic r10_x3], [ic r20_x3]]⟩, aT 24, (some 28, .row [ic op_x7, .imm args_x7, ic n_x7, ic scale_x7, sc name_x7, sc attr_x7, ic at_x7]), aC 31 ⟨.tup [false, false], [[sc r00_x10], [ic r10_x10]]⟩, aF 36, aT 40, (some 43, .scat), (some 44, .scat), aC 47 (.c (sc v_x15)), (some 49, .scat)] [_, _, _, _, _, _, _, _, _, _] (by kernel_rfl) ⟨(ev25 h_x2), h_x4, ix_row h_x6 rfl, (evr26 (ih _ _ h_x9)), h_x11, h_x12, of_decide_eq_true h_x13, of_decide_eq_true h_x14, (ev27 h_x16), of_decide_eq_true h_x17, trivial⟩
   ·
    obtain ⟨v_x13, h_x14, h⟩ := bd_or h
    obtain ⟨h_x15, h⟩ := gd_or h
    rw [← Option.some.inj h]
    exact mF 0 hmix [aC 16 ⟨.tup [false, false, false], [[ic r00_x3], [ic r10_x3], [ic r20_x3]]⟩, aT 24, (some 28, .row [ic op_x7, .imm args_x7, ic n_x7, ic scale_x7, sc name_x7, sc attr_x7, ic at_x7]), aC 31 ⟨.tup [false, false], [[sc r00_x10], [ic r10_x10]]⟩, aF 36, aF 40, aC 47 (.c (sc v_x13)), (some 49, .scat)] [_, _, _, _, _, _, _, _] (by kernel_rfl) ⟨(ev25 h_x2), h_x4, ix_row h_x6 rfl, (evr26 (ih _ _ h_x9)), h_x11, h_x12, (ev27 h_x14), of_decide_eq_true h_x15, trivial⟩
 ·
  rcases bif_or h with ⟨h_x5, h⟩ | ⟨h_x5, h⟩
  ·
   obtain ⟨w_x6, h_x7, h⟩ := ixR_or h
   replace h := un_imiissi_or h; obtain ⟨op_x8, args_x8, n_x8, scale_x8, name_x8, attr_x8, at_x8, rfl, h⟩ := h
   obtain ⟨v_x9, h_x10, h⟩ := bd_or h
   replace h := tup2_or h; obtain ⟨r00_x11, r10_x11, rfl, h⟩ := h
   obtain ⟨w_x12, h_x13, h⟩ := ixR_or h
   replace h := un_imiissi_or h; obtain ⟨op_x14, args_x14, n_x14, scale_x14, name_x14, attr_x14, at_x14, rfl, h⟩ := h
   obtain ⟨v_x15, h_x16, h⟩ := bd_or h
   replace h := tup2_or h; obtain ⟨r00_x17, r10_x17, rfl, h⟩ := h
   obtain ⟨h_x18, h⟩ := gd_or h
   obtain ⟨v_x19, h_x20, h⟩ := bd_or h
   obtain ⟨h_x21, h⟩ := gd_or h
   obtain ⟨h_x22, h⟩ := gd_or h
   obtain ⟨h_x23, h⟩ := gd_or h
   rw [← Option.some.inj h]
   exact mF 0 hmix [aC 16 ⟨.tup [false, false, false], [[ic r00_x3], [ic r10_x3], [ic r20_x3]]⟩, aF 24, aT 53, (some 57, .row [ic op_x8, .imm args_x8, ic n_x8, ic scale_x8, sc name_x8, sc attr_x8, ic at_x8]), aC 60 ⟨.tup [false, false], [[sc r00_x11], [ic r10_x11]]⟩, (some 66, .row [ic op_x14, .imm args_x14, ic n_x14, ic scale_x14, sc name_x14, sc attr_x14, ic at_x14]), aC 69 ⟨.tup [false, false], [[sc r00_x17], [ic r10_x17]]⟩, (some 73, .scat), aC 76 (.c (sc v_x19)), (some 77, .scat), (some 78, .scat), (some 80, .scat)] [_, _, _, _, _, _, _, _, _, _, _, _] (by kernel_rfl) ⟨(ev25 h_x2), h_x4, h_x5, ix_row h_x7 rfl, (evr26 (ih _ _ h_x10)), ix_row h_x13 rfl, (evr26 (ih _ _ h_x16)), of_decide_eq_true h_x18, (ev27 h_x20), of_decide_eq_true h_x21, of_decide_eq_true h_x22, of_decide_eq_true h_x23, trivial⟩
  ·
   obtain ⟨v_x6, h_x7, h⟩ := bd_or h
   rw [← Option.some.inj h]
   exact mF 0 hmix [aC 16 ⟨.tup [false, false, false], [[ic r00_x3], [ic r10_x3], [ic r20_x3]]⟩, aF 24, aF 53, aC 85 (.c (sc v_x6))] [_, _, _, _] (by kernel_rfl) ⟨(ev25 h_x2), h_x4, h_x5, (ev28 h_x7), trivial⟩
theorem t26_e_ok (k) {rec} (ih : ∀ s r, rec s = some r → P18 s r) {e0_0 e0_1 e0_2 e0_3 e0_4 e0_5 e0_6 least1 r} (h : t26_e k rec e0_0 e0_1 e0_2 e0_3 e0_4 e0_5 e0_6 least1 = some r) : P18 (.e_26 e0_0 e0_1 e0_2 e0_3 e0_4 e0_5 e0_6 least1) r := by
 unfold t26_e at h
 obtain ⟨v_x1, h_x2, h⟩ := bd_or h
 replace h := tup2_or h; obtain ⟨r00_x3, r10_x3, rfl, h⟩ := h
 obtain ⟨v_x4, h_x5, h⟩ := bd_or h
 replace h := tup3_or h; obtain ⟨r00_x6, r10_x6, r20_x6, rfl, h⟩ := h
 rcases bif_or h with ⟨h_x7, h⟩ | ⟨h_x7, h⟩
 ·
  obtain ⟨h_x8, h⟩ := gd_or h
  obtain ⟨h_x9, h⟩ := gd_or h
  rw [← Option.some.inj h]
  exact mF 0 hmix [aC 13 ⟨.tup [false, false], [[sc r00_x3], [ic r10_x3]]⟩, aC 19 ⟨.tup [false, false, false], [[ic r00_x6], [ic r10_x6], [ic r20_x6]]⟩, aT 25, (some 27, .scat), (some 28, .scat)] [_, _, _, _, _] (by kernel_rfl) ⟨(evr18 (ih _ _ h_x2)), (ev25 h_x5), h_x7, of_decide_eq_true h_x8, of_decide_eq_true h_x9, trivial⟩
 ·
  rw [← Option.some.inj h]
  exact mF 0 hmix [aC 13 ⟨.tup [false, false], [[sc r00_x3], [ic r10_x3]]⟩, aC 19 ⟨.tup [false, false, false], [[ic r00_x6], [ic r10_x6], [ic r20_x6]]⟩, aF 25] [_, _, _] (by kernel_rfl) ⟨(evr18 (ih _ _ h_x2)), (ev25 h_x5), h_x7, trivial⟩
theorem ok18 : ∀ k s r, itS step18 k s = some r → P18 s r := itS_ok fun k rec ih s r h => match s, h with
 | .e_18 e0_0 e0_1 e0_2 e0_3 e0_4 e0_5 e0_6, h => t18_e_ok k ih h
 | .e_26 e0_0 e0_1 e0_2 e0_3 e0_4 e0_5 e0_6 least1, h => t26_e_ok k ih h
theorem ev18 {k : Nat} {e0_0 : Int} {e0_1 : Rs} {e0_2 e0_3 : Int} {e0_4 e0_5 : ByteArray} {e0_6 : Int} {r : R18} (h : g18 k e0_0 e0_1 e0_2 e0_3 e0_4 e0_5 e0_6 = some r) : Ev Tryd.prog noHand 18 [.ag [ic e0_0, .imm e0_1, ic e0_2, ic e0_3, sc e0_4, sc e0_5, ic e0_6]] [] (res18 r) (bx18 r) := evr18 (ok18 _ _ _ h)
inductive S14 where
 | e (e0_0 : Int) (e0_1 : Rs) (e0_2 e0_3 : Int) (e0_4 e0_5 : ByteArray) (e0_6 : Int)
abbrev R14 := ByteArray × Int
def res14 : R14 → ARes
 | (r_00, r_10) => .ret ⟨.tup [false, false], [[sc r_00], [ic r_10]]⟩
def bx14 : R14 → List (List Cell)
 | (r_00, r_10) => []
noncomputable def t14_e (k : Nat) (rec : S14 → Option R14) (e0_0 : Int) (e0_1 : Rs) (e0_2 e0_3 : Int) (e0_4 e0_5 : ByteArray) (e0_6 : Int) : Option R14 :=
 (g17 k e0_0 e0_1 e0_2 e0_3 e0_4 e0_5 e0_6).bind fun v_x1 =>
 bif !v_x1 then
  some (strB [], 3)
 else
  (g10 k e0_0 e0_1 e0_2 e0_3 e0_4 e0_5 e0_6).bind fun v_x4 =>
  bif decide (v_x4 > 200) then
   some (strB [], 2)
  else
   (g18 k e0_0 e0_1 e0_2 e0_3 e0_4 e0_5 e0_6).bind fun v_x7 =>
   tup2 v_x7 fun r00_x9 r10_x9 =>
   bif decide ((r00_x9.size : Int) > 4000) then
    some (strB [], 2)
   else
    bif decide (r10_x9 > 30) then
     some (strB [], 14)
    else
     some (r00_x9, 0)
noncomputable def step14 (k : Nat) (rec : S14 → Option R14) : S14 → Option R14
 | .e e0_0 e0_1 e0_2 e0_3 e0_4 e0_5 e0_6 => t14_e k rec e0_0 e0_1 e0_2 e0_3 e0_4 e0_5 e0_6
noncomputable def g14 (k : Nat) (e0_0 : Int) (e0_1 : Rs) (e0_2 e0_3 : Int) (e0_4 e0_5 : ByteArray) (e0_6 : Int) : Option R14 := itS step14 k (.e e0_0 e0_1 e0_2 e0_3 e0_4 e0_5 e0_6)
noncomputable def P14 : S14 → R14 → Prop
 | .e e0_0 e0_1 e0_2 e0_3 e0_4 e0_5 e0_6, r => Fin cx14 Tryd.f14 [.code body14] (fr0 Tryd.f14 [.ag [ic e0_0, .imm e0_1, ic e0_2, ic e0_3, sc e0_4, sc e0_5, ic e0_6]] []) (res14 r) (bx14 r)
theorem evr14 {e0_0 : Int} {e0_1 : Rs} {e0_2 e0_3 : Int} {e0_4 e0_5 : ByteArray} {e0_6 : Int} {r : R14} (h : P14 (.e e0_0 e0_1 e0_2 e0_3 e0_4 e0_5 e0_6) r) : Ev Tryd.prog noHand 14 [.ag [ic e0_0, .imm e0_1, ic e0_2, ic e0_3, sc e0_4, sc e0_5, ic e0_6]] [] (res14 r) (bx14 r) := ev_of_fin (fn := Tryd.f14) (body := body14) (by kernel_rfl) (by kernel_rfl) (by kernel_rfl) rfl h
theorem t14_e_ok (k) {rec} (ih : ∀ s r, rec s = some r → P14 s r) {e0_0 e0_1 e0_2 e0_3 e0_4 e0_5 e0_6 r} (h : t14_e k rec e0_0 e0_1 e0_2 e0_3 e0_4 e0_5 e0_6 = some r) : P14 (.e e0_0 e0_1 e0_2 e0_3 e0_4 e0_5 e0_6) r := by
 unfold t14_e at h
 obtain ⟨v_x1, h_x2, h⟩ := bd_or h
 rcases bif_or h with ⟨h_x3, h⟩ | ⟨h_x3, h⟩
 ·
  rw [← Option.some.inj h]
  exact mF 0 hmix [aC 7 (.c (bc v_x1)), aT 8] [_, _] (by kernel_rfl) ⟨(ev17 h_x2), h_x3, trivial⟩
 ·
  obtain ⟨v_x4, h_x5, h⟩ := bd_or h
  rcases bif_or h with ⟨h_x6, h⟩ | ⟨h_x6, h⟩
  ·
   rw [← Option.some.inj h]
   exact mF 0 hmix [aC 7 (.c (bc v_x1)), aF 8, aC 10 (.c (ic v_x4)), aT 11] [_, _, _, _] (by kernel_rfl) ⟨(ev17 h_x2), h_x3, (ev10 h_x5), h_x6, trivial⟩
  ·
   obtain ⟨v_x7, h_x8, h⟩ := bd_or h
   replace h := tup2_or h; obtain ⟨r00_x9, r10_x9, rfl, h⟩ := h
   rcases bif_or h with ⟨h_x10, h⟩ | ⟨h_x10, h⟩
   ·
    rw [← Option.some.inj h]
    exact mF 0 hmix [aC 7 (.c (bc v_x1)), aF 8, aC 10 (.c (ic v_x4)), aF 11, aC 14 ⟨.tup [false, false], [[sc r00_x9], [ic r10_x9]]⟩, aT 20] [_, _, _, _, _, _] (by kernel_rfl) ⟨(ev17 h_x2), h_x3, (ev10 h_x5), h_x6, (ev18 h_x8), h_x10, trivial⟩
   ·
    rcases bif_or h with ⟨h_x11, h⟩ | ⟨h_x11, h⟩
    ·
     rw [← Option.some.inj h]
     exact mF 0 hmix [aC 7 (.c (bc v_x1)), aF 8, aC 10 (.c (ic v_x4)), aF 11, aC 14 ⟨.tup [false, false], [[sc r00_x9], [ic r10_x9]]⟩, aF 20, aT 23] [_, _, _, _, _, _, _] (by kernel_rfl) ⟨(ev17 h_x2), h_x3, (ev10 h_x5), h_x6, (ev18 h_x8), h_x10, h_x11, trivial⟩
    ·
     rw [← Option.some.inj h]
     exact mF 0 hmix [aC 7 (.c (bc v_x1)), aF 8, aC 10 (.c (ic v_x4)), aF 11, aC 14 ⟨.tup [false, false], [[sc r00_x9], [ic r10_x9]]⟩, aF 20, aF 23] [_, _, _, _, _, _, _] (by kernel_rfl) ⟨(ev17 h_x2), h_x3, (ev10 h_x5), h_x6, (ev18 h_x8), h_x10, h_x11, trivial⟩
theorem ok14 : ∀ k s r, itS step14 k s = some r → P14 s r := itS_ok fun k rec ih s r h => match s, h with
 | .e e0_0 e0_1 e0_2 e0_3 e0_4 e0_5 e0_6, h => t14_e_ok k ih h
theorem ev14 {k : Nat} {e0_0 : Int} {e0_1 : Rs} {e0_2 e0_3 : Int} {e0_4 e0_5 : ByteArray} {e0_6 : Int} {r : R14} (h : g14 k e0_0 e0_1 e0_2 e0_3 e0_4 e0_5 e0_6 = some r) : Ev Tryd.prog noHand 14 [.ag [ic e0_0, .imm e0_1, ic e0_2, ic e0_3, sc e0_4, sc e0_5, ic e0_6]] [] (res14 r) (bx14 r) := evr14 (ok14 _ _ _ h)
inductive S7 where
 | e
abbrev R7 := Bool
def res7 : R7 → ARes
 | r => .ret (.c (bc r))
def bx7 : R7 → List (List Cell)
 | r => []
noncomputable def t7_e (k : Nat) (rec : S7 → Option R7) : Option R7 :=
 (g13 k (strB [97, 46, 120, 43, 49, 60, 61, 50, 42, 67, 79, 85, 78, 84, 40, 98, 41])).bind fun v_x1 =>
 tup9 v_x1 fun r00_x3 r01_x3 r02_x3 r03_x3 r04_x3 r05_x3 r06_x3 r10_x3 r20_x3 =>
 (g14 k r00_x3 r01_x3 r02_x3 r03_x3 r04_x3 r05_x3 r06_x3).bind fun v_x4 =>
 tup2 v_x4 fun r00_x6 r10_x6 =>
 bif r20_x3 == 0 then
  bif r10_x3 == 0 then
   bif r10_x6 == 0 then
    bif r00_x6.toList == (strB [97, 46, 120, 32, 43, 32, 49, 32, 60, 61, 32, 50, 32, 42, 32, 67, 79, 85, 78, 84, 40, 98, 41]).toList then
     bif r00_x3 == 10 then
      some (r06_x3 == 5)
     else
      some false
    else
     some false
   else
    some false
  else
   some false
 else
  some false
noncomputable def step7 (k : Nat) (rec : S7 → Option R7) : S7 → Option R7
 | .e => t7_e k rec
noncomputable def g7 (k : Nat) : Option R7 := itS step7 k (.e)
noncomputable def P7 : S7 → R7 → Prop
 | .e, r => Fin cx7 Tryd.f7 [.code body7] (fr0 Tryd.f7 [] []) (res7 r) (bx7 r)
theorem evr7 {r : R7} (h : P7 (.e) r) : Ev Tryd.prog noHand 7 [] [] (res7 r) (bx7 r) := ev_of_fin (fn := Tryd.f7) (body := body7) (by kernel_rfl) (by kernel_rfl) (by kernel_rfl) rfl h
theorem t7_e_ok (k) {rec} (ih : ∀ s r, rec s = some r → P7 s r) {r} (h : t7_e k rec = some r) : P7 (.e) r := by
 unfold t7_e at h
 obtain ⟨v_x1, h_x2, h⟩ := bd_or h
 replace h := tup9_or h; obtain ⟨r00_x3, r01_x3, r02_x3, r03_x3, r04_x3, r05_x3, r06_x3, r10_x3, r20_x3, rfl, h⟩ := h
 obtain ⟨v_x4, h_x5, h⟩ := bd_or h
 replace h := tup2_or h; obtain ⟨r00_x6, r10_x6, rfl, h⟩ := h
 rcases bif_or h with ⟨h_x7, h⟩ | ⟨h_x7, h⟩
 ·
  rcases bif_or h with ⟨h_x8, h⟩ | ⟨h_x8, h⟩
  ·
   rcases bif_or h with ⟨h_x9, h⟩ | ⟨h_x9, h⟩
   ·
    rcases bif_or h with ⟨h_x10, h⟩ | ⟨h_x10, h⟩
    ·
     rcases bif_or h with ⟨h_x11, h⟩ | ⟨h_x11, h⟩
     ·
      rw [← Option.some.inj h]
      exact mF 0 hmix [aC 7 ⟨.tup [true, false, false], [[ic r00_x3, .imm r01_x3, ic r02_x3, ic r03_x3, sc r04_x3, sc r05_x3, ic r06_x3], [ic r10_x3], [ic r20_x3]]⟩, aC 13 ⟨.tup [false, false], [[sc r00_x6], [ic r10_x6]]⟩, aT 17, aT 20, aT 24, aT 28, aT 33] [_, _, _, _, _, _, _] (by kernel_rfl) ⟨(ev13 h_x2), (ev14 h_x5), h_x7, h_x8, h_x9, h_x10, h_x11, trivial⟩
     ·
      rw [← Option.some.inj h]
      exact mF 0 hmix [aC 7 ⟨.tup [true, false, false], [[ic r00_x3, .imm r01_x3, ic r02_x3, ic r03_x3, sc r04_x3, sc r05_x3, ic r06_x3], [ic r10_x3], [ic r20_x3]]⟩, aC 13 ⟨.tup [false, false], [[sc r00_x6], [ic r10_x6]]⟩, aT 17, aT 20, aT 24, aT 28, aF 33] [_, _, _, _, _, _, _] (by kernel_rfl) ⟨(ev13 h_x2), (ev14 h_x5), h_x7, h_x8, h_x9, h_x10, h_x11, trivial⟩
    ·
     rw [← Option.some.inj h]
     exact mF 0 hmix [aC 7 ⟨.tup [true, false, false], [[ic r00_x3, .imm r01_x3, ic r02_x3, ic r03_x3, sc r04_x3, sc r05_x3, ic r06_x3], [ic r10_x3], [ic r20_x3]]⟩, aC 13 ⟨.tup [false, false], [[sc r00_x6], [ic r10_x6]]⟩, aT 17, aT 20, aT 24, aF 28] [_, _, _, _, _, _] (by kernel_rfl) ⟨(ev13 h_x2), (ev14 h_x5), h_x7, h_x8, h_x9, h_x10, trivial⟩
   ·
    rw [← Option.some.inj h]
    exact mF 0 hmix [aC 7 ⟨.tup [true, false, false], [[ic r00_x3, .imm r01_x3, ic r02_x3, ic r03_x3, sc r04_x3, sc r05_x3, ic r06_x3], [ic r10_x3], [ic r20_x3]]⟩, aC 13 ⟨.tup [false, false], [[sc r00_x6], [ic r10_x6]]⟩, aT 17, aT 20, aF 24] [_, _, _, _, _] (by kernel_rfl) ⟨(ev13 h_x2), (ev14 h_x5), h_x7, h_x8, h_x9, trivial⟩
  ·
   rw [← Option.some.inj h]
   exact mF 0 hmix [aC 7 ⟨.tup [true, false, false], [[ic r00_x3, .imm r01_x3, ic r02_x3, ic r03_x3, sc r04_x3, sc r05_x3, ic r06_x3], [ic r10_x3], [ic r20_x3]]⟩, aC 13 ⟨.tup [false, false], [[sc r00_x6], [ic r10_x6]]⟩, aT 17, aF 20] [_, _, _, _] (by kernel_rfl) ⟨(ev13 h_x2), (ev14 h_x5), h_x7, h_x8, trivial⟩
 ·
  rw [← Option.some.inj h]
  exact mF 0 hmix [aC 7 ⟨.tup [true, false, false], [[ic r00_x3, .imm r01_x3, ic r02_x3, ic r03_x3, sc r04_x3, sc r05_x3, ic r06_x3], [ic r10_x3], [ic r20_x3]]⟩, aC 13 ⟨.tup [false, false], [[sc r00_x6], [ic r10_x6]]⟩, aF 17] [_, _, _] (by kernel_rfl) ⟨(ev13 h_x2), (ev14 h_x5), h_x7, trivial⟩
theorem ok7 : ∀ k s r, itS step7 k s = some r → P7 s r := itS_ok fun k rec ih s r h => match s, h with
 | .e, h => t7_e_ok k ih h
theorem ev7 {k : Nat} {r : R7} (h : g7 k = some r) : Ev Tryd.prog noHand 7 [] [] (res7 r) (bx7 r) := evr7 (ok7 _ _ _ h)
inductive S8 where
 | e (a0_0 : Int) (a0_1 : Rs) (a0_2 a0_3 : Int) (a0_4 a0_5 : ByteArray) (a0_6 b1_0 : Int) (b1_1 : Rs) (b1_2 b1_3 : Int) (b1_4 b1_5 : ByteArray) (b1_6 : Int)
 | h0 (t47 : Bool) (l3_0 : Int) (l3_1 : Rs) (l3_2 l3_3 : Int) (l3_4 l3_5 : ByteArray) (l3_6 l2_0 : Int) (l2_1 : Rs) (l2_2 l2_3 : Int) (l2_4 l2_5 : ByteArray) (l2_6 : Int)
 | h1 (t50 t51 l3_0 : Int) (l3_1 : Rs) (l3_2 l3_3 : Int) (l3_4 l3_5 : ByteArray) (l3_6 l2_0 : Int) (l2_1 : Rs) (l2_2 l2_3 : Int) (l2_4 l2_5 : ByteArray) (l2_6 : Int)
abbrev R8 := Bool
def res8 : R8 → ARes
 | r => .ret (.c (bc r))
def bx8 : R8 → List (List Cell)
 | r => []
noncomputable def t8_e (k : Nat) (rec : S8 → Option R8) (a0_0 : Int) (a0_1 : Rs) (a0_2 a0_3 : Int) (a0_4 a0_5 : ByteArray) (a0_6 b1_0 : Int) (b1_1 : Rs) (b1_2 b1_3 : Int) (b1_4 b1_5 : ByteArray) (b1_6 : Int) : Option R8 :=
 bif a0_0 != b1_0 then
  rec (.h0 true b1_0 b1_1 b1_2 b1_3 b1_4 b1_5 b1_6 a0_0 a0_1 a0_2 a0_3 a0_4 a0_5 a0_6)
 else
  bif a0_2 != b1_2 then
   rec (.h0 true b1_0 b1_1 b1_2 b1_3 b1_4 b1_5 b1_6 a0_0 a0_1 a0_2 a0_3 a0_4 a0_5 a0_6)
  else
   bif a0_3 != b1_3 then
    rec (.h0 true b1_0 b1_1 b1_2 b1_3 b1_4 b1_5 b1_6 a0_0 a0_1 a0_2 a0_3 a0_4 a0_5 a0_6)
   else
    bif !(a0_4.toList == b1_4.toList) then
     rec (.h0 true b1_0 b1_1 b1_2 b1_3 b1_4 b1_5 b1_6 a0_0 a0_1 a0_2 a0_3 a0_4 a0_5 a0_6)
    else
     bif !(a0_5.toList == b1_5.toList) then
      rec (.h0 true b1_0 b1_1 b1_2 b1_3 b1_4 b1_5 b1_6 a0_0 a0_1 a0_2 a0_3 a0_4 a0_5 a0_6)
     else
      rec (.h0 ((a0_1.length : Int) != (b1_1.length : Int)) b1_0 b1_1 b1_2 b1_3 b1_4 b1_5 b1_6 a0_0 a0_1 a0_2 a0_3 a0_4 a0_5 a0_6)
noncomputable def t8_h0 (k : Nat) (rec : S8 → Option R8) (t47 : Bool) (l3_0 : Int) (l3_1 : Rs) (l3_2 l3_3 : Int) (l3_4 l3_5 : ByteArray) (l3_6 l2_0 : Int) (l2_1 : Rs) (l2_2 l2_3 : Int) (l2_4 l2_5 : ByteArray) (l2_6 : Int) : Option R8 :=
 bif t47 then
  some false
 else
  rec (.h1 (l2_1.length : Int) 0 l3_0 l3_1 l3_2 l3_3 l3_4 l3_5 l3_6 l2_0 l2_1 l2_2 l2_3 l2_4 l2_5 l2_6)
noncomputable def t8_h1 (k : Nat) (rec : S8 → Option R8) (t50 t51 l3_0 : Int) (l3_1 : Rs) (l3_2 l3_3 : Int) (l3_4 l3_5 : ByteArray) (l3_6 l2_0 : Int) (l2_1 : Rs) (l2_2 l2_3 : Int) (l2_4 l2_5 : ByteArray) (l2_6 : Int) : Option R8 :=
 bif decide (t51 < t50) then
  ixR l2_1 t51 fun w_x2 =>
  un_imiissi w_x2 fun op_x4 args_x4 n_x4 scale_x4 name_x4 attr_x4 at_x4 =>
  ixR l3_1 t51 fun w_x5 =>
  un_imiissi w_x5 fun op_x7 args_x7 n_x7 scale_x7 name_x7 attr_x7 at_x7 =>
  (rec (.e op_x4 args_x4 n_x4 scale_x4 name_x4 attr_x4 at_x4 op_x7 args_x7 n_x7 scale_x7 name_x7 attr_x7 at_x7)).bind fun v_x8 =>
  bif !v_x8 then
   some false
  else
   rec (.h1 t50 (IntKind.i64.wrap (t51 + 1)) l3_0 l3_1 l3_2 l3_3 l3_4 l3_5 l3_6 l2_0 l2_1 l2_2 l2_3 l2_4 l2_5 l2_6)
 else
  some true
noncomputable def step8 (k : Nat) (rec : S8 → Option R8) : S8 → Option R8
 | .e a0_0 a0_1 a0_2 a0_3 a0_4 a0_5 a0_6 b1_0 b1_1 b1_2 b1_3 b1_4 b1_5 b1_6 => t8_e k rec a0_0 a0_1 a0_2 a0_3 a0_4 a0_5 a0_6 b1_0 b1_1 b1_2 b1_3 b1_4 b1_5 b1_6
 | .h0 t47 l3_0 l3_1 l3_2 l3_3 l3_4 l3_5 l3_6 l2_0 l2_1 l2_2 l2_3 l2_4 l2_5 l2_6 => t8_h0 k rec t47 l3_0 l3_1 l3_2 l3_3 l3_4 l3_5 l3_6 l2_0 l2_1 l2_2 l2_3 l2_4 l2_5 l2_6
 | .h1 t50 t51 l3_0 l3_1 l3_2 l3_3 l3_4 l3_5 l3_6 l2_0 l2_1 l2_2 l2_3 l2_4 l2_5 l2_6 => t8_h1 k rec t50 t51 l3_0 l3_1 l3_2 l3_3 l3_4 l3_5 l3_6 l2_0 l2_1 l2_2 l2_3 l2_4 l2_5 l2_6
noncomputable def g8 (k : Nat) (a0_0 : Int) (a0_1 : Rs) (a0_2 a0_3 : Int) (a0_4 a0_5 : ByteArray) (a0_6 b1_0 : Int) (b1_1 : Rs) (b1_2 b1_3 : Int) (b1_4 b1_5 : ByteArray) (b1_6 : Int) : Option R8 := itS step8 k (.e a0_0 a0_1 a0_2 a0_3 a0_4 a0_5 a0_6 b1_0 b1_1 b1_2 b1_3 b1_4 b1_5 b1_6)
noncomputable def P8 : S8 → R8 → Prop
 | .e a0_0 a0_1 a0_2 a0_3 a0_4 a0_5 a0_6 b1_0 b1_1 b1_2 b1_3 b1_4 b1_5 b1_6, r => Fin cx8 Tryd.f8 [.code body8] (fr0 Tryd.f8 [.ag [ic a0_0, .imm a0_1, ic a0_2, ic a0_3, sc a0_4, sc a0_5, ic a0_6], .ag [ic b1_0, .imm b1_1, ic b1_2, ic b1_3, sc b1_4, sc b1_5, ic b1_6]] []) (res8 r) (bx8 r)
 | .h0 t47 l3_0 l3_1 l3_2 l3_3 l3_4 l3_5 l3_6 l2_0 l2_1 l2_2 l2_3 l2_4 l2_5 l2_6, r => Fin cx8 Tryd.f8 (kAt body8 [1, 0, 1, 2] []) ⟨[.deadv, .deadv, pL 2, pL 3] ++ rep 43 .deadv ++ [.c (bc t47)] ++ rep 19 .deadv, [(.loc 3, [ic l3_0, .imm l3_1, ic l3_2, ic l3_3, sc l3_4, sc l3_5, ic l3_6]), (.loc 2, [ic l2_0, .imm l2_1, ic l2_2, ic l2_3, sc l2_4, sc l2_5, ic l2_6])]⟩ (res8 r) (bx8 r)
 | .h1 t50 t51 l3_0 l3_1 l3_2 l3_3 l3_4 l3_5 l3_6 l2_0 l2_1 l2_2 l2_3 l2_4 l2_5 l2_6, r => Fin cx8 Tryd.f8 (kAt body8 [1, 1, 0, 1, 0, 4] []) ⟨[.deadv, .deadv, pL 2, pL 3] ++ rep 46 .deadv ++ [.c (ic t50), .c (ic t51)] ++ rep 15 .deadv, [(.loc 3, [ic l3_0, .imm l3_1, ic l3_2, ic l3_3, sc l3_4, sc l3_5, ic l3_6]), (.loc 2, [ic l2_0, .imm l2_1, ic l2_2, ic l2_3, sc l2_4, sc l2_5, ic l2_6])]⟩ (res8 r) (bx8 r)
theorem evr8 {a0_0 : Int} {a0_1 : Rs} {a0_2 a0_3 : Int} {a0_4 a0_5 : ByteArray} {a0_6 b1_0 : Int} {b1_1 : Rs} {b1_2 b1_3 : Int} {b1_4 b1_5 : ByteArray} {b1_6 : Int} {r : R8} (h : P8 (.e a0_0 a0_1 a0_2 a0_3 a0_4 a0_5 a0_6 b1_0 b1_1 b1_2 b1_3 b1_4 b1_5 b1_6) r) : Ev Tryd.prog noHand 8 [.ag [ic a0_0, .imm a0_1, ic a0_2, ic a0_3, sc a0_4, sc a0_5, ic a0_6], .ag [ic b1_0, .imm b1_1, ic b1_2, ic b1_3, sc b1_4, sc b1_5, ic b1_6]] [] (res8 r) (bx8 r) := ev_of_fin (fn := Tryd.f8) (body := body8) (by kernel_rfl) (by kernel_rfl) (by kernel_rfl) rfl h
theorem t8_e_ok (k) {rec} (ih : ∀ s r, rec s = some r → P8 s r) {a0_0 a0_1 a0_2 a0_3 a0_4 a0_5 a0_6 b1_0 b1_1 b1_2 b1_3 b1_4 b1_5 b1_6 r} (h : t8_e k rec a0_0 a0_1 a0_2 a0_3 a0_4 a0_5 a0_6 b1_0 b1_1 b1_2 b1_3 b1_4 b1_5 b1_6 = some r) : P8 (.e a0_0 a0_1 a0_2 a0_3 a0_4 a0_5 a0_6 b1_0 b1_1 b1_2 b1_3 b1_4 b1_5 b1_6) r := by
 unfold t8_e at h
 rcases bif_or h with ⟨h_x1, h⟩ | ⟨h_x1, h⟩
 ·
  exact mA 0 hmix (ih _ _ h) 5 [aT 10] [_] (bm 67 147573811852188057587) (by kernel_rfl) ⟨h_x1, trivial⟩
 ·
  rcases bif_or h with ⟨h_x2, h⟩ | ⟨h_x2, h⟩
  ·
   exact mA 0 hmix (ih _ _ h) 5 [aF 10, aT 16] [_, _] (bm 67 147573811852188057587) (by kernel_rfl) ⟨h_x1, h_x2, trivial⟩
  ·
   rcases bif_or h with ⟨h_x3, h⟩ | ⟨h_x3, h⟩
   ·
    exact mA 0 hmix (ih _ _ h) 5 [aF 10, aF 16, aT 23] [_, _, _] (bm 67 147573811852188057587) (by kernel_rfl) ⟨h_x1, h_x2, h_x3, trivial⟩
   ·
    rcases bif_or h with ⟨h_x4, h⟩ | ⟨h_x4, h⟩
    ·
     exact mA 0 hmix (ih _ _ h) 5 [aF 10, aF 16, aF 23, aT 30] [_, _, _, _] (bm 67 147573811852188057587) (by kernel_rfl) ⟨h_x1, h_x2, h_x3, h_x4, trivial⟩
    ·
     rcases bif_or h with ⟨h_x5, h⟩ | ⟨h_x5, h⟩
     ·
      exact mA 0 hmix (ih _ _ h) 5 [aF 10, aF 16, aF 23, aF 30, aT 37] [_, _, _, _, _] (bm 67 147573811852188057587) (by kernel_rfl) ⟨h_x1, h_x2, h_x3, h_x4, h_x5, trivial⟩
     ·
      exact mA 0 hmix (ih _ _ h) 5 [aF 10, aF 16, aF 23, aF 30, aF 37] [_, _, _, _, _] (bm 67 147573811852188057587) (by kernel_rfl) ⟨h_x1, h_x2, h_x3, h_x4, h_x5, trivial⟩
theorem t8_h0_ok (k) {rec} (ih : ∀ s r, rec s = some r → P8 s r) {t47 l3_0 l3_1 l3_2 l3_3 l3_4 l3_5 l3_6 l2_0 l2_1 l2_2 l2_3 l2_4 l2_5 l2_6 r} (h : t8_h0 k rec t47 l3_0 l3_1 l3_2 l3_3 l3_4 l3_5 l3_6 l2_0 l2_1 l2_2 l2_3 l2_4 l2_5 l2_6 = some r) : P8 (.h0 t47 l3_0 l3_1 l3_2 l3_3 l3_4 l3_5 l3_6 l2_0 l2_1 l2_2 l2_3 l2_4 l2_5 l2_6) r := by
 unfold t8_h0 at h
 replace h := bif_or h; rcases h with ⟨rfl, h⟩ | ⟨rfl, h⟩
 ·
  rw [← Option.some.inj h]
  exact mF 0 hmix [] [] (by kernel_rfl) trivial
 ·
  exact mA 0 hmix (ih _ _ h) 7 [] [] (bm 67 147570574889955885043) (by kernel_rfl) trivial
theorem t8_h1_ok (k) {rec} (ih : ∀ s r, rec s = some r → P8 s r) {t50 t51 l3_0 l3_1 l3_2 l3_3 l3_4 l3_5 l3_6 l2_0 l2_1 l2_2 l2_3 l2_4 l2_5 l2_6 r} (h : t8_h1 k rec t50 t51 l3_0 l3_1 l3_2 l3_3 l3_4 l3_5 l3_6 l2_0 l2_1 l2_2 l2_3 l2_4 l2_5 l2_6 = some r) : P8 (.h1 t50 t51 l3_0 l3_1 l3_2 l3_3 l3_4 l3_5 l3_6 l2_0 l2_1 l2_2 l2_3 l2_4 l2_5 l2_6) r := by
 unfold t8_h1 at h
 rcases bif_or h with ⟨h_x1, h⟩ | ⟨h_x1, h⟩
 ·
  obtain ⟨w_x2, h_x3, h⟩ := ixR_or h
  replace h := un_imiissi_or h; obtain ⟨op_x4, args_x4, n_x4, scale_x4, name_x4, attr_x4, at_x4, rfl, h⟩ := h
  obtain ⟨w_x5, h_x6, h⟩ := ixR_or h
  replace h := un_imiissi_or h; obtain ⟨op_x7, args_x7, n_x7, scale_x7, name_x7, attr_x7, at_x7, rfl, h⟩ := h
  obtain ⟨v_x8, h_x9, h⟩ := bd_or h
  rcases bif_or h with ⟨h_x10, h⟩ | ⟨h_x10, h⟩
  ·
   rw [← Option.some.inj h]
   exact mF 0 hmix [aT 52, (some 57, .row [ic op_x4, .imm args_x4, ic n_x4, ic scale_x4, sc name_x4, sc attr_x4, ic at_x4]), (some 62, .row [ic op_x7, .imm args_x7, ic n_x7, ic scale_x7, sc name_x7, sc attr_x7, ic at_x7]), aC 64 (.c (bc v_x8)), aT 65] [_, _, _, _, _] (by kernel_rfl) ⟨h_x1, ix_row h_x3 rfl, ix_row h_x6 rfl, (evr8 (ih _ _ h_x9)), h_x10, trivial⟩
  ·
   exact mA 0 hmix (ih _ _ h) 16 [aT 52, (some 57, .row [ic op_x4, .imm args_x4, ic n_x4, ic scale_x4, sc name_x4, sc attr_x4, ic at_x4]), (some 62, .row [ic op_x7, .imm args_x7, ic n_x7, ic scale_x7, sc name_x7, sc attr_x7, ic at_x7]), aC 64 (.c (bc v_x8)), aF 65] [_, _, _, _, _] (bm 67 147570574889955885043) (by kernel_rfl) ⟨h_x1, ix_row h_x3 rfl, ix_row h_x6 rfl, (evr8 (ih _ _ h_x9)), h_x10, trivial⟩
 ·
  rw [← Option.some.inj h]
  exact mF 0 hmix [aF 52] [_] (by kernel_rfl) ⟨h_x1, trivial⟩
theorem ok8 : ∀ k s r, itS step8 k s = some r → P8 s r := itS_ok fun k rec ih s r h => match s, h with
 | .e a0_0 a0_1 a0_2 a0_3 a0_4 a0_5 a0_6 b1_0 b1_1 b1_2 b1_3 b1_4 b1_5 b1_6, h => t8_e_ok k ih h
 | .h0 t47 l3_0 l3_1 l3_2 l3_3 l3_4 l3_5 l3_6 l2_0 l2_1 l2_2 l2_3 l2_4 l2_5 l2_6, h => t8_h0_ok k ih h
 | .h1 t50 t51 l3_0 l3_1 l3_2 l3_3 l3_4 l3_5 l3_6 l2_0 l2_1 l2_2 l2_3 l2_4 l2_5 l2_6, h => t8_h1_ok k ih h
theorem ev8 {k : Nat} {a0_0 : Int} {a0_1 : Rs} {a0_2 a0_3 : Int} {a0_4 a0_5 : ByteArray} {a0_6 b1_0 : Int} {b1_1 : Rs} {b1_2 b1_3 : Int} {b1_4 b1_5 : ByteArray} {b1_6 : Int} {r : R8} (h : g8 k a0_0 a0_1 a0_2 a0_3 a0_4 a0_5 a0_6 b1_0 b1_1 b1_2 b1_3 b1_4 b1_5 b1_6 = some r) : Ev Tryd.prog noHand 8 [.ag [ic a0_0, .imm a0_1, ic a0_2, ic a0_3, sc a0_4, sc a0_5, ic a0_6], .ag [ic b1_0, .imm b1_1, ic b1_2, ic b1_3, sc b1_4, sc b1_5, ic b1_6]] [] (res8 r) (bx8 r) := evr8 (ok8 _ _ _ h)
inductive S9 where
 | e (a0_0 : Int) (a0_1 : Rs) (a0_2 a0_3 : Int) (a0_4 a0_5 : ByteArray) (a0_6 b1_0 : Int) (b1_1 : Rs) (b1_2 b1_3 : Int) (b1_4 b1_5 : ByteArray) (b1_6 : Int) (places2 : Bool)
 | h0 (places2 t59 : Bool) (l4_0 : Int) (l4_1 : Rs) (l4_2 l4_3 : Int) (l4_4 l4_5 : ByteArray) (l4_6 l3_0 : Int) (l3_1 : Rs) (l3_2 l3_3 : Int) (l3_4 l3_5 : ByteArray) (l3_6 : Int)
 | h1 (places2 : Bool) (t62 t63 l4_0 : Int) (l4_1 : Rs) (l4_2 l4_3 : Int) (l4_4 l4_5 : ByteArray) (l4_6 l3_0 : Int) (l3_1 : Rs) (l3_2 l3_3 : Int) (l3_4 l3_5 : ByteArray) (l3_6 : Int)
abbrev R9 := Bool
def res9 : R9 → ARes
 | r => .ret (.c (bc r))
def bx9 : R9 → List (List Cell)
 | r => []
noncomputable def t9_e (k : Nat) (rec : S9 → Option R9) (a0_0 : Int) (a0_1 : Rs) (a0_2 a0_3 : Int) (a0_4 a0_5 : ByteArray) (a0_6 b1_0 : Int) (b1_1 : Rs) (b1_2 b1_3 : Int) (b1_4 b1_5 : ByteArray) (b1_6 : Int) (places2 : Bool) : Option R9 :=
 bif a0_0 != b1_0 then
  rec (.h0 places2 true b1_0 b1_1 b1_2 b1_3 b1_4 b1_5 b1_6 a0_0 a0_1 a0_2 a0_3 a0_4 a0_5 a0_6)
 else
  bif a0_2 != b1_2 then
   rec (.h0 places2 true b1_0 b1_1 b1_2 b1_3 b1_4 b1_5 b1_6 a0_0 a0_1 a0_2 a0_3 a0_4 a0_5 a0_6)
  else
   bif a0_3 != b1_3 then
    rec (.h0 places2 true b1_0 b1_1 b1_2 b1_3 b1_4 b1_5 b1_6 a0_0 a0_1 a0_2 a0_3 a0_4 a0_5 a0_6)
   else
    bif !(a0_4.toList == b1_4.toList) then
     rec (.h0 places2 true b1_0 b1_1 b1_2 b1_3 b1_4 b1_5 b1_6 a0_0 a0_1 a0_2 a0_3 a0_4 a0_5 a0_6)
    else
     bif !(a0_5.toList == b1_5.toList) then
      rec (.h0 places2 true b1_0 b1_1 b1_2 b1_3 b1_4 b1_5 b1_6 a0_0 a0_1 a0_2 a0_3 a0_4 a0_5 a0_6)
     else
      bif (a0_1.length : Int) != (b1_1.length : Int) then
       rec (.h0 places2 true b1_0 b1_1 b1_2 b1_3 b1_4 b1_5 b1_6 a0_0 a0_1 a0_2 a0_3 a0_4 a0_5 a0_6)
      else
       bif places2 then
        rec (.h0 places2 (a0_6 != b1_6) b1_0 b1_1 b1_2 b1_3 b1_4 b1_5 b1_6 a0_0 a0_1 a0_2 a0_3 a0_4 a0_5 a0_6)
       else
        rec (.h0 places2 false b1_0 b1_1 b1_2 b1_3 b1_4 b1_5 b1_6 a0_0 a0_1 a0_2 a0_3 a0_4 a0_5 a0_6)
noncomputable def t9_h0 (k : Nat) (rec : S9 → Option R9) (places2 t59 : Bool) (l4_0 : Int) (l4_1 : Rs) (l4_2 l4_3 : Int) (l4_4 l4_5 : ByteArray) (l4_6 l3_0 : Int) (l3_1 : Rs) (l3_2 l3_3 : Int) (l3_4 l3_5 : ByteArray) (l3_6 : Int) : Option R9 :=
 bif t59 then
  some false
 else
  rec (.h1 places2 (l3_1.length : Int) 0 l4_0 l4_1 l4_2 l4_3 l4_4 l4_5 l4_6 l3_0 l3_1 l3_2 l3_3 l3_4 l3_5 l3_6)
noncomputable def t9_h1 (k : Nat) (rec : S9 → Option R9) (places2 : Bool) (t62 t63 l4_0 : Int) (l4_1 : Rs) (l4_2 l4_3 : Int) (l4_4 l4_5 : ByteArray) (l4_6 l3_0 : Int) (l3_1 : Rs) (l3_2 l3_3 : Int) (l3_4 l3_5 : ByteArray) (l3_6 : Int) : Option R9 :=
 bif decide (t63 < t62) then
  ixR l3_1 t63 fun w_x2 =>
  un_imiissi w_x2 fun op_x4 args_x4 n_x4 scale_x4 name_x4 attr_x4 at_x4 =>
  ixR l4_1 t63 fun w_x5 =>
  un_imiissi w_x5 fun op_x7 args_x7 n_x7 scale_x7 name_x7 attr_x7 at_x7 =>
  (rec (.e op_x4 args_x4 n_x4 scale_x4 name_x4 attr_x4 at_x4 op_x7 args_x7 n_x7 scale_x7 name_x7 attr_x7 at_x7 places2)).bind fun v_x8 =>
  bif !v_x8 then
   some false
  else
   rec (.h1 places2 t62 (IntKind.i64.wrap (t63 + 1)) l4_0 l4_1 l4_2 l4_3 l4_4 l4_5 l4_6 l3_0 l3_1 l3_2 l3_3 l3_4 l3_5 l3_6)
 else
  some true
noncomputable def step9 (k : Nat) (rec : S9 → Option R9) : S9 → Option R9
 | .e a0_0 a0_1 a0_2 a0_3 a0_4 a0_5 a0_6 b1_0 b1_1 b1_2 b1_3 b1_4 b1_5 b1_6 places2 => t9_e k rec a0_0 a0_1 a0_2 a0_3 a0_4 a0_5 a0_6 b1_0 b1_1 b1_2 b1_3 b1_4 b1_5 b1_6 places2
 | .h0 places2 t59 l4_0 l4_1 l4_2 l4_3 l4_4 l4_5 l4_6 l3_0 l3_1 l3_2 l3_3 l3_4 l3_5 l3_6 => t9_h0 k rec places2 t59 l4_0 l4_1 l4_2 l4_3 l4_4 l4_5 l4_6 l3_0 l3_1 l3_2 l3_3 l3_4 l3_5 l3_6
 | .h1 places2 t62 t63 l4_0 l4_1 l4_2 l4_3 l4_4 l4_5 l4_6 l3_0 l3_1 l3_2 l3_3 l3_4 l3_5 l3_6 => t9_h1 k rec places2 t62 t63 l4_0 l4_1 l4_2 l4_3 l4_4 l4_5 l4_6 l3_0 l3_1 l3_2 l3_3 l3_4 l3_5 l3_6
noncomputable def g9 (k : Nat) (a0_0 : Int) (a0_1 : Rs) (a0_2 a0_3 : Int) (a0_4 a0_5 : ByteArray) (a0_6 b1_0 : Int) (b1_1 : Rs) (b1_2 b1_3 : Int) (b1_4 b1_5 : ByteArray) (b1_6 : Int) (places2 : Bool) : Option R9 := itS step9 k (.e a0_0 a0_1 a0_2 a0_3 a0_4 a0_5 a0_6 b1_0 b1_1 b1_2 b1_3 b1_4 b1_5 b1_6 places2)
noncomputable def P9 : S9 → R9 → Prop
 | .e a0_0 a0_1 a0_2 a0_3 a0_4 a0_5 a0_6 b1_0 b1_1 b1_2 b1_3 b1_4 b1_5 b1_6 places2, r => Fin cx9 Tryd.f9 [.code body9] (fr0 Tryd.f9 [.ag [ic a0_0, .imm a0_1, ic a0_2, ic a0_3, sc a0_4, sc a0_5, ic a0_6], .ag [ic b1_0, .imm b1_1, ic b1_2, ic b1_3, sc b1_4, sc b1_5, ic b1_6], .c (bc places2)] []) (res9 r) (bx9 r)
 | .h0 places2 t59 l4_0 l4_1 l4_2 l4_3 l4_4 l4_5 l4_6 l3_0 l3_1 l3_2 l3_3 l3_4 l3_5 l3_6, r => Fin cx9 Tryd.f9 (kAt body9 [1, 0, 1, 2] []) ⟨[.deadv, .deadv, .c (bc places2), pL 3, pL 4] ++ rep 54 .deadv ++ [.c (bc t59)] ++ rep 20 .deadv, [(.loc 4, [ic l4_0, .imm l4_1, ic l4_2, ic l4_3, sc l4_4, sc l4_5, ic l4_6]), (.loc 3, [ic l3_0, .imm l3_1, ic l3_2, ic l3_3, sc l3_4, sc l3_5, ic l3_6])]⟩ (res9 r) (bx9 r)
 | .h1 places2 t62 t63 l4_0 l4_1 l4_2 l4_3 l4_4 l4_5 l4_6 l3_0 l3_1 l3_2 l3_3 l3_4 l3_5 l3_6, r => Fin cx9 Tryd.f9 (kAt body9 [1, 1, 0, 1, 0, 4] []) ⟨[.deadv, .deadv, .c (bc places2), pL 3, pL 4] ++ rep 57 .deadv ++ [.c (ic t62), .c (ic t63)] ++ rep 16 .deadv, [(.loc 4, [ic l4_0, .imm l4_1, ic l4_2, ic l4_3, sc l4_4, sc l4_5, ic l4_6]), (.loc 3, [ic l3_0, .imm l3_1, ic l3_2, ic l3_3, sc l3_4, sc l3_5, ic l3_6])]⟩ (res9 r) (bx9 r)
theorem evr9 {a0_0 : Int} {a0_1 : Rs} {a0_2 a0_3 : Int} {a0_4 a0_5 : ByteArray} {a0_6 b1_0 : Int} {b1_1 : Rs} {b1_2 b1_3 : Int} {b1_4 b1_5 : ByteArray} {b1_6 : Int} {places2 : Bool} {r : R9} (h : P9 (.e a0_0 a0_1 a0_2 a0_3 a0_4 a0_5 a0_6 b1_0 b1_1 b1_2 b1_3 b1_4 b1_5 b1_6 places2) r) : Ev Tryd.prog noHand 9 [.ag [ic a0_0, .imm a0_1, ic a0_2, ic a0_3, sc a0_4, sc a0_5, ic a0_6], .ag [ic b1_0, .imm b1_1, ic b1_2, ic b1_3, sc b1_4, sc b1_5, ic b1_6], .c (bc places2)] [] (res9 r) (bx9 r) := ev_of_fin (fn := Tryd.f9) (body := body9) (by kernel_rfl) (by kernel_rfl) (by kernel_rfl) rfl h
theorem t9_e_ok (k) {rec} (ih : ∀ s r, rec s = some r → P9 s r) {a0_0 a0_1 a0_2 a0_3 a0_4 a0_5 a0_6 b1_0 b1_1 b1_2 b1_3 b1_4 b1_5 b1_6 places2 r} (h : t9_e k rec a0_0 a0_1 a0_2 a0_3 a0_4 a0_5 a0_6 b1_0 b1_1 b1_2 b1_3 b1_4 b1_5 b1_6 places2 = some r) : P9 (.e a0_0 a0_1 a0_2 a0_3 a0_4 a0_5 a0_6 b1_0 b1_1 b1_2 b1_3 b1_4 b1_5 b1_6 places2) r := by
 unfold t9_e at h
 rcases bif_or h with ⟨h_x1, h⟩ | ⟨h_x1, h⟩
 ·
  exact mA 0 hmix (ih _ _ h) 5 [aT 12] [_] (bm 80 1208925243153876871282659) (by kernel_rfl) ⟨h_x1, trivial⟩
 ·
  rcases bif_or h with ⟨h_x2, h⟩ | ⟨h_x2, h⟩
  ·
   exact mA 0 hmix (ih _ _ h) 5 [aF 12, aT 18] [_, _] (bm 80 1208925243153876871282659) (by kernel_rfl) ⟨h_x1, h_x2, trivial⟩
  ·
   rcases bif_or h with ⟨h_x3, h⟩ | ⟨h_x3, h⟩
   ·
    exact mA 0 hmix (ih _ _ h) 5 [aF 12, aF 18, aT 25] [_, _, _] (bm 80 1208925243153876871282659) (by kernel_rfl) ⟨h_x1, h_x2, h_x3, trivial⟩
   ·
    rcases bif_or h with ⟨h_x4, h⟩ | ⟨h_x4, h⟩
    ·
     exact mA 0 hmix (ih _ _ h) 5 [aF 12, aF 18, aF 25, aT 32] [_, _, _, _] (bm 80 1208925243153876871282659) (by kernel_rfl) ⟨h_x1, h_x2, h_x3, h_x4, trivial⟩
    ·
     rcases bif_or h with ⟨h_x5, h⟩ | ⟨h_x5, h⟩
     ·
      exact mA 0 hmix (ih _ _ h) 5 [aF 12, aF 18, aF 25, aF 32, aT 39] [_, _, _, _, _] (bm 80 1208925243153876871282659) (by kernel_rfl) ⟨h_x1, h_x2, h_x3, h_x4, h_x5, trivial⟩
     ·
      rcases bif_or h with ⟨h_x6, h⟩ | ⟨h_x6, h⟩
      ·
       exact mA 0 hmix (ih _ _ h) 5 [aF 12, aF 18, aF 25, aF 32, aF 39, aT 48] [_, _, _, _, _, _] (bm 80 1208925243153876871282659) (by kernel_rfl) ⟨h_x1, h_x2, h_x3, h_x4, h_x5, h_x6, trivial⟩
      ·
       replace h := bif_or h; rcases h with ⟨rfl, h⟩ | ⟨rfl, h⟩
       ·
        exact mA 0 hmix (ih _ _ h) 5 [aF 12, aF 18, aF 25, aF 32, aF 39, aF 48] [_, _, _, _, _, _] (bm 80 1208925243153876871282659) (by kernel_rfl) ⟨h_x1, h_x2, h_x3, h_x4, h_x5, h_x6, trivial⟩
       ·
        exact mA 0 hmix (ih _ _ h) 5 [aF 12, aF 18, aF 25, aF 32, aF 39, aF 48] [_, _, _, _, _, _] (bm 80 1208925243153876871282659) (by kernel_rfl) ⟨h_x1, h_x2, h_x3, h_x4, h_x5, h_x6, trivial⟩
theorem t9_h0_ok (k) {rec} (ih : ∀ s r, rec s = some r → P9 s r) {places2 t59 l4_0 l4_1 l4_2 l4_3 l4_4 l4_5 l4_6 l3_0 l3_1 l3_2 l3_3 l3_4 l3_5 l3_6 r} (h : t9_h0 k rec places2 t59 l4_0 l4_1 l4_2 l4_3 l4_4 l4_5 l4_6 l3_0 l3_1 l3_2 l3_3 l3_4 l3_5 l3_6 = some r) : P9 (.h0 places2 t59 l4_0 l4_1 l4_2 l4_3 l4_4 l4_5 l4_6 l3_0 l3_1 l3_2 l3_3 l3_4 l3_5 l3_6) r := by
 unfold t9_h0 at h
 replace h := bif_or h; rcases h with ⟨rfl, h⟩ | ⟨rfl, h⟩
 ·
  rw [← Option.some.inj h]
  exact mF 0 hmix [] [] (by kernel_rfl) trivial
 ·
  exact mA 0 hmix (ih _ _ h) 7 [] [] (bm 80 1208911984556573892542435) (by kernel_rfl) trivial
theorem t9_h1_ok (k) {rec} (ih : ∀ s r, rec s = some r → P9 s r) {places2 t62 t63 l4_0 l4_1 l4_2 l4_3 l4_4 l4_5 l4_6 l3_0 l3_1 l3_2 l3_3 l3_4 l3_5 l3_6 r} (h : t9_h1 k rec places2 t62 t63 l4_0 l4_1 l4_2 l4_3 l4_4 l4_5 l4_6 l3_0 l3_1 l3_2 l3_3 l3_4 l3_5 l3_6 = some r) : P9 (.h1 places2 t62 t63 l4_0 l4_1 l4_2 l4_3 l4_4 l4_5 l4_6 l3_0 l3_1 l3_2 l3_3 l3_4 l3_5 l3_6) r := by
 unfold t9_h1 at h
 rcases bif_or h with ⟨h_x1, h⟩ | ⟨h_x1, h⟩
 ·
  obtain ⟨w_x2, h_x3, h⟩ := ixR_or h
  replace h := un_imiissi_or h; obtain ⟨op_x4, args_x4, n_x4, scale_x4, name_x4, attr_x4, at_x4, rfl, h⟩ := h
  obtain ⟨w_x5, h_x6, h⟩ := ixR_or h
  replace h := un_imiissi_or h; obtain ⟨op_x7, args_x7, n_x7, scale_x7, name_x7, attr_x7, at_x7, rfl, h⟩ := h
  obtain ⟨v_x8, h_x9, h⟩ := bd_or h
  rcases bif_or h with ⟨h_x10, h⟩ | ⟨h_x10, h⟩
  ·
   rw [← Option.some.inj h]
   exact mF 0 hmix [aT 64, (some 69, .row [ic op_x4, .imm args_x4, ic n_x4, ic scale_x4, sc name_x4, sc attr_x4, ic at_x4]), (some 74, .row [ic op_x7, .imm args_x7, ic n_x7, ic scale_x7, sc name_x7, sc attr_x7, ic at_x7]), aC 77 (.c (bc v_x8)), aT 78] [_, _, _, _, _] (by kernel_rfl) ⟨h_x1, ix_row h_x3 rfl, ix_row h_x6 rfl, (evr9 (ih _ _ h_x9)), h_x10, trivial⟩
  ·
   exact mA 0 hmix (ih _ _ h) 16 [aT 64, (some 69, .row [ic op_x4, .imm args_x4, ic n_x4, ic scale_x4, sc name_x4, sc attr_x4, ic at_x4]), (some 74, .row [ic op_x7, .imm args_x7, ic n_x7, ic scale_x7, sc name_x7, sc attr_x7, ic at_x7]), aC 77 (.c (bc v_x8)), aF 78] [_, _, _, _, _] (bm 80 1208911984556573892542435) (by kernel_rfl) ⟨h_x1, ix_row h_x3 rfl, ix_row h_x6 rfl, (evr9 (ih _ _ h_x9)), h_x10, trivial⟩
 ·
  rw [← Option.some.inj h]
  exact mF 0 hmix [aF 64] [_] (by kernel_rfl) ⟨h_x1, trivial⟩
theorem ok9 : ∀ k s r, itS step9 k s = some r → P9 s r := itS_ok fun k rec ih s r h => match s, h with
 | .e a0_0 a0_1 a0_2 a0_3 a0_4 a0_5 a0_6 b1_0 b1_1 b1_2 b1_3 b1_4 b1_5 b1_6 places2, h => t9_e_ok k ih h
 | .h0 places2 t59 l4_0 l4_1 l4_2 l4_3 l4_4 l4_5 l4_6 l3_0 l3_1 l3_2 l3_3 l3_4 l3_5 l3_6, h => t9_h0_ok k ih h
 | .h1 places2 t62 t63 l4_0 l4_1 l4_2 l4_3 l4_4 l4_5 l4_6 l3_0 l3_1 l3_2 l3_3 l3_4 l3_5 l3_6, h => t9_h1_ok k ih h
theorem ev9 {k : Nat} {a0_0 : Int} {a0_1 : Rs} {a0_2 a0_3 : Int} {a0_4 a0_5 : ByteArray} {a0_6 b1_0 : Int} {b1_1 : Rs} {b1_2 b1_3 : Int} {b1_4 b1_5 : ByteArray} {b1_6 : Int} {places2 : Bool} {r : R9} (h : g9 k a0_0 a0_1 a0_2 a0_3 a0_4 a0_5 a0_6 b1_0 b1_1 b1_2 b1_3 b1_4 b1_5 b1_6 places2 = some r) : Ev Tryd.prog noHand 9 [.ag [ic a0_0, .imm a0_1, ic a0_2, ic a0_3, sc a0_4, sc a0_5, ic a0_6], .ag [ic b1_0, .imm b1_1, ic b1_2, ic b1_3, sc b1_4, sc b1_5, ic b1_6], .c (bc places2)] [] (res9 r) (bx9 r) := evr9 (ok9 _ _ _ h)
inductive S11 where
 | e (e0_0 : Int) (e0_1 : Rs) (e0_2 e0_3 : Int) (e0_4 e0_5 : ByteArray) (e0_6 : Int)
 | h0 (n3 t7 t8 l1_0 : Int) (l1_1 : Rs) (l1_2 l1_3 : Int) (l1_4 l1_5 : ByteArray) (l1_6 : Int)
abbrev R11 := Int
def res11 : R11 → ARes
 | r => .ret (.c (ic r))
def bx11 : R11 → List (List Cell)
 | r => []
noncomputable def t11_e (k : Nat) (rec : S11 → Option R11) (e0_0 : Int) (e0_1 : Rs) (e0_2 e0_3 : Int) (e0_4 e0_5 : ByteArray) (e0_6 : Int) : Option R11 :=
 rec (.h0 1 (e0_1.length : Int) 0 e0_0 e0_1 e0_2 e0_3 e0_4 e0_5 e0_6)
noncomputable def t11_h0 (k : Nat) (rec : S11 → Option R11) (n3 t7 t8 l1_0 : Int) (l1_1 : Rs) (l1_2 l1_3 : Int) (l1_4 l1_5 : ByteArray) (l1_6 : Int) : Option R11 :=
 bif decide (t8 < t7) then
  ixR l1_1 t8 fun w_x2 =>
  un_imiissi w_x2 fun op_x4 args_x4 n_x4 scale_x4 name_x4 attr_x4 at_x4 =>
  (rec (.e op_x4 args_x4 n_x4 scale_x4 name_x4 attr_x4 at_x4)).bind fun v_x5 =>
  rec (.h0 (IntKind.i64.wrap (n3 + v_x5)) t7 (IntKind.i64.wrap (t8 + 1)) l1_0 l1_1 l1_2 l1_3 l1_4 l1_5 l1_6)
 else
  some n3
noncomputable def step11 (k : Nat) (rec : S11 → Option R11) : S11 → Option R11
 | .e e0_0 e0_1 e0_2 e0_3 e0_4 e0_5 e0_6 => t11_e k rec e0_0 e0_1 e0_2 e0_3 e0_4 e0_5 e0_6
 | .h0 n3 t7 t8 l1_0 l1_1 l1_2 l1_3 l1_4 l1_5 l1_6 => t11_h0 k rec n3 t7 t8 l1_0 l1_1 l1_2 l1_3 l1_4 l1_5 l1_6
noncomputable def g11 (k : Nat) (e0_0 : Int) (e0_1 : Rs) (e0_2 e0_3 : Int) (e0_4 e0_5 : ByteArray) (e0_6 : Int) : Option R11 := itS step11 k (.e e0_0 e0_1 e0_2 e0_3 e0_4 e0_5 e0_6)
noncomputable def P11 : S11 → R11 → Prop
 | .e e0_0 e0_1 e0_2 e0_3 e0_4 e0_5 e0_6, r => Fin cx11 Tryd.f11 [.code body11] (fr0 Tryd.f11 [.ag [ic e0_0, .imm e0_1, ic e0_2, ic e0_3, sc e0_4, sc e0_5, ic e0_6]] []) (res11 r) (bx11 r)
 | .h0 n3 t7 t8 l1_0 l1_1 l1_2 l1_3 l1_4 l1_5 l1_6, r => Fin cx11 Tryd.f11 (kAt body11 [1, 1, 0, 1, 0, 4] []) ⟨[.deadv, pL 1, .deadv, .c (ic n3)] ++ rep 3 .deadv ++ [.c (ic t7), .c (ic t8)] ++ rep 12 .deadv, [(.loc 1, [ic l1_0, .imm l1_1, ic l1_2, ic l1_3, sc l1_4, sc l1_5, ic l1_6])]⟩ (res11 r) (bx11 r)
theorem evr11 {e0_0 : Int} {e0_1 : Rs} {e0_2 e0_3 : Int} {e0_4 e0_5 : ByteArray} {e0_6 : Int} {r : R11} (h : P11 (.e e0_0 e0_1 e0_2 e0_3 e0_4 e0_5 e0_6) r) : Ev Tryd.prog noHand 11 [.ag [ic e0_0, .imm e0_1, ic e0_2, ic e0_3, sc e0_4, sc e0_5, ic e0_6]] [] (res11 r) (bx11 r) := ev_of_fin (fn := Tryd.f11) (body := body11) (by kernel_rfl) (by kernel_rfl) (by kernel_rfl) rfl h
theorem t11_e_ok (k) {rec} (ih : ∀ s r, rec s = some r → P11 s r) {e0_0 e0_1 e0_2 e0_3 e0_4 e0_5 e0_6 r} (h : t11_e k rec e0_0 e0_1 e0_2 e0_3 e0_4 e0_5 e0_6 = some r) : P11 (.e e0_0 e0_1 e0_2 e0_3 e0_4 e0_5 e0_6) r := by
 unfold t11_e at h
 exact mA 0 hmix (ih _ _ h) 9 [] [] (bm 21 2096757) (by kernel_rfl) trivial
theorem t11_h0_ok (k) {rec} (ih : ∀ s r, rec s = some r → P11 s r) {n3 t7 t8 l1_0 l1_1 l1_2 l1_3 l1_4 l1_5 l1_6 r} (h : t11_h0 k rec n3 t7 t8 l1_0 l1_1 l1_2 l1_3 l1_4 l1_5 l1_6 = some r) : P11 (.h0 n3 t7 t8 l1_0 l1_1 l1_2 l1_3 l1_4 l1_5 l1_6) r := by
 unfold t11_h0 at h
 rcases bif_or h with ⟨h_x1, h⟩ | ⟨h_x1, h⟩
 ·
  obtain ⟨w_x2, h_x3, h⟩ := ixR_or h
  replace h := un_imiissi_or h; obtain ⟨op_x4, args_x4, n_x4, scale_x4, name_x4, attr_x4, at_x4, rfl, h⟩ := h
  obtain ⟨v_x5, h_x6, h⟩ := bd_or h
  exact mA 0 hmix (ih _ _ h) 13 [aT 9, (some 15, .row [ic op_x4, .imm args_x4, ic n_x4, ic scale_x4, sc name_x4, sc attr_x4, ic at_x4]), aC 17 (.c (ic v_x5))] [_, _, _] (bm 21 2096757) (by kernel_rfl) ⟨h_x1, ix_row h_x3 rfl, (evr11 (ih _ _ h_x6)), trivial⟩
 ·
  rw [← Option.some.inj h]
  exact mF 0 hmix [aF 9] [_] (by kernel_rfl) ⟨h_x1, trivial⟩
theorem ok11 : ∀ k s r, itS step11 k s = some r → P11 s r := itS_ok fun k rec ih s r h => match s, h with
 | .e e0_0 e0_1 e0_2 e0_3 e0_4 e0_5 e0_6, h => t11_e_ok k ih h
 | .h0 n3 t7 t8 l1_0 l1_1 l1_2 l1_3 l1_4 l1_5 l1_6, h => t11_h0_ok k ih h
theorem ev11 {k : Nat} {e0_0 : Int} {e0_1 : Rs} {e0_2 e0_3 : Int} {e0_4 e0_5 : ByteArray} {e0_6 : Int} {r : R11} (h : g11 k e0_0 e0_1 e0_2 e0_3 e0_4 e0_5 e0_6 = some r) : Ev Tryd.prog noHand 11 [.ag [ic e0_0, .imm e0_1, ic e0_2, ic e0_3, sc e0_4, sc e0_5, ic e0_6]] [] (res11 r) (bx11 r) := evr11 (ok11 _ _ _ h)
inductive S12 where
 | e (e0_0 : Int) (e0_1 : Rs) (e0_2 e0_3 : Int) (e0_4 e0_5 : ByteArray) (e0_6 : Int)
 | h0 (l3 : Rs) (t7 t8 l2_0 l2_2 l2_3 : Int) (l2_4 l2_5 : ByteArray) (l2_6 l1_0 : Int) (l1_1 : Rs) (l1_2 l1_3 : Int) (l1_4 l1_5 : ByteArray) (l1_6 : Int)
abbrev R12 := Int × Rs × Int × Int × ByteArray × ByteArray × Int
def res12 : R12 → ARes
 | (r_0, r_1, r_2, r_3, r_4, r_5, r_6) => .ret (.ag [ic r_0, .imm r_1, ic r_2, ic r_3, sc r_4, sc r_5, ic r_6])
def bx12 : R12 → List (List Cell)
 | (r_0, r_1, r_2, r_3, r_4, r_5, r_6) => []
noncomputable def t12_e (k : Nat) (rec : S12 → Option R12) (e0_0 : Int) (e0_1 : Rs) (e0_2 e0_3 : Int) (e0_4 e0_5 : ByteArray) (e0_6 : Int) : Option R12 :=
 rec (.h0 [] (e0_1.length : Int) 0 0 0 0 (strB []) (strB []) 0 e0_0 e0_1 e0_2 e0_3 e0_4 e0_5 e0_6)
noncomputable def t12_h0 (k : Nat) (rec : S12 → Option R12) (l3 : Rs) (t7 t8 l2_0 l2_2 l2_3 : Int) (l2_4 l2_5 : ByteArray) (l2_6 l1_0 : Int) (l1_1 : Rs) (l1_2 l1_3 : Int) (l1_4 l1_5 : ByteArray) (l1_6 : Int) : Option R12 :=
 bif decide (t8 < t7) then
  ixR l1_1 t8 fun w_x2 =>
  un_imiissi w_x2 fun op_x4 args_x4 n_x4 scale_x4 name_x4 attr_x4 at_x4 =>
  (rec (.e op_x4 args_x4 n_x4 scale_x4 name_x4 attr_x4 at_x4)).bind fun v_x5 =>
  tup7 v_x5 fun r0_x7 r1_x7 r2_x7 r3_x7 r4_x7 r5_x7 r6_x7 =>
  gd (apOk 88 7 l3 [[ic r0_x7, .imm r1_x7, ic r2_x7, ic r3_x7, sc r4_x7, sc r5_x7, ic r6_x7]]) <|
  rec (.h0 (l3 ++ [[ic r0_x7, .imm r1_x7, ic r2_x7, ic r3_x7, sc r4_x7, sc r5_x7, ic r6_x7]]) t7 (IntKind.i64.wrap (t8 + 1)) l2_0 l2_2 l2_3 l2_4 l2_5 l2_6 l1_0 l1_1 l1_2 l1_3 l1_4 l1_5 l1_6)
 else
  some (l1_0, immRs l3, l1_2, l1_3, l1_4, l1_5, l1_6)
noncomputable def step12 (k : Nat) (rec : S12 → Option R12) : S12 → Option R12
 | .e e0_0 e0_1 e0_2 e0_3 e0_4 e0_5 e0_6 => t12_e k rec e0_0 e0_1 e0_2 e0_3 e0_4 e0_5 e0_6
 | .h0 l3 t7 t8 l2_0 l2_2 l2_3 l2_4 l2_5 l2_6 l1_0 l1_1 l1_2 l1_3 l1_4 l1_5 l1_6 => t12_h0 k rec l3 t7 t8 l2_0 l2_2 l2_3 l2_4 l2_5 l2_6 l1_0 l1_1 l1_2 l1_3 l1_4 l1_5 l1_6
noncomputable def g12 (k : Nat) (e0_0 : Int) (e0_1 : Rs) (e0_2 e0_3 : Int) (e0_4 e0_5 : ByteArray) (e0_6 : Int) : Option R12 := itS step12 k (.e e0_0 e0_1 e0_2 e0_3 e0_4 e0_5 e0_6)
noncomputable def P12 : S12 → R12 → Prop
 | .e e0_0 e0_1 e0_2 e0_3 e0_4 e0_5 e0_6, r => Fin cx12 Tryd.f12 [.code body12] (fr0 Tryd.f12 [.ag [ic e0_0, .imm e0_1, ic e0_2, ic e0_3, sc e0_4, sc e0_5, ic e0_6]] []) (res12 r) (bx12 r)
 | .h0 l3 t7 t8 l2_0 l2_2 l2_3 l2_4 l2_5 l2_6 l1_0 l1_1 l1_2 l1_3 l1_4 l1_5 l1_6, r => Fin cx12 Tryd.f12 (kAt body12 [1, 1, 0, 1, 0, 4] []) ⟨[.deadv, pL 1, pL 2, .c (.own 7 l3)] ++ rep 3 .deadv ++ [.c (ic t7), .c (ic t8)] ++ rep 15 .deadv, [(.loc 2, [ic l2_0, .nil, ic l2_2, ic l2_3, sc l2_4, sc l2_5, ic l2_6]), (.loc 1, [ic l1_0, .imm l1_1, ic l1_2, ic l1_3, sc l1_4, sc l1_5, ic l1_6])]⟩ (res12 r) (bx12 r)
theorem evr12 {e0_0 : Int} {e0_1 : Rs} {e0_2 e0_3 : Int} {e0_4 e0_5 : ByteArray} {e0_6 : Int} {r : R12} (h : P12 (.e e0_0 e0_1 e0_2 e0_3 e0_4 e0_5 e0_6) r) : Ev Tryd.prog noHand 12 [.ag [ic e0_0, .imm e0_1, ic e0_2, ic e0_3, sc e0_4, sc e0_5, ic e0_6]] [] (res12 r) (bx12 r) := ev_of_fin (fn := Tryd.f12) (body := body12) (by kernel_rfl) (by kernel_rfl) (by kernel_rfl) rfl h
theorem t12_e_ok (k) {rec} (ih : ∀ s r, rec s = some r → P12 s r) {e0_0 e0_1 e0_2 e0_3 e0_4 e0_5 e0_6 r} (h : t12_e k rec e0_0 e0_1 e0_2 e0_3 e0_4 e0_5 e0_6 = some r) : P12 (.e e0_0 e0_1 e0_2 e0_3 e0_4 e0_5 e0_6) r := by
 unfold t12_e at h
 exact mgo_at (nb := 0) hmix (ih _ _ h) (n := 9) (ad := []) (ps := []) (m := bm 24 16776817) (ls := []) (cs := [(⟨⟨.slot 3, []⟩, 0, 0⟩, some 7)]) (by kernel_rfl) trivial
theorem t12_h0_ok (k) {rec} (ih : ∀ s r, rec s = some r → P12 s r) {l3 t7 t8 l2_0 l2_2 l2_3 l2_4 l2_5 l2_6 l1_0 l1_1 l1_2 l1_3 l1_4 l1_5 l1_6 r} (h : t12_h0 k rec l3 t7 t8 l2_0 l2_2 l2_3 l2_4 l2_5 l2_6 l1_0 l1_1 l1_2 l1_3 l1_4 l1_5 l1_6 = some r) : P12 (.h0 l3 t7 t8 l2_0 l2_2 l2_3 l2_4 l2_5 l2_6 l1_0 l1_1 l1_2 l1_3 l1_4 l1_5 l1_6) r := by
 unfold t12_h0 at h
 rcases bif_or h with ⟨h_x1, h⟩ | ⟨h_x1, h⟩
 ·
  obtain ⟨w_x2, h_x3, h⟩ := ixR_or h
  replace h := un_imiissi_or h; obtain ⟨op_x4, args_x4, n_x4, scale_x4, name_x4, attr_x4, at_x4, rfl, h⟩ := h
  obtain ⟨v_x5, h_x6, h⟩ := bd_or h
  replace h := tup7_or h; obtain ⟨r0_x7, r1_x7, r2_x7, r3_x7, r4_x7, r5_x7, r6_x7, rfl, h⟩ := h
  obtain ⟨h_x8, h⟩ := gd_or h
  exact mA 0 hmix (ih _ _ h) 13 [aT 9, (some 15, .row [ic op_x4, .imm args_x4, ic n_x4, ic scale_x4, sc name_x4, sc attr_x4, ic at_x4]), aC 17 (.ag [ic r0_x7, .imm r1_x7, ic r2_x7, ic r3_x7, sc r4_x7, sc r5_x7, ic r6_x7]), (some 19, .okE false)] [_, _, _, _] (bm 24 16776817) (by kernel_rfl) ⟨h_x1, ix_row h_x3 rfl, (evr12 (ih _ _ h_x6)), okF [[ic r0_x7, .imm r1_x7, ic r2_x7, ic r3_x7, sc r4_x7, sc r5_x7, ic r6_x7]] h_x8, trivial⟩
 ·
  rw [← Option.some.inj h]
  exact mF 0 hmix [aF 9] [_] (by kernel_rfl) ⟨h_x1, trivial⟩
theorem ok12 : ∀ k s r, itS step12 k s = some r → P12 s r := itS_ok fun k rec ih s r h => match s, h with
 | .e e0_0 e0_1 e0_2 e0_3 e0_4 e0_5 e0_6, h => t12_e_ok k ih h
 | .h0 l3 t7 t8 l2_0 l2_2 l2_3 l2_4 l2_5 l2_6 l1_0 l1_1 l1_2 l1_3 l1_4 l1_5 l1_6, h => t12_h0_ok k ih h
theorem ev12 {k : Nat} {e0_0 : Int} {e0_1 : Rs} {e0_2 e0_3 : Int} {e0_4 e0_5 : ByteArray} {e0_6 : Int} {r : R12} (h : g12 k e0_0 e0_1 e0_2 e0_3 e0_4 e0_5 e0_6 = some r) : Ev Tryd.prog noHand 12 [.ag [ic e0_0, .imm e0_1, ic e0_2, ic e0_3, sc e0_4, sc e0_5, ic e0_6]] [] (res12 r) (bx12 r) := evr12 (ok12 _ _ _ h)
inductive S3 where
 | e (a0_0 : Int) (a0_1 : Rs) (a0_2 a0_3 : Int) (a0_4 a0_5 : ByteArray) (a0_6 b1_0 : Int) (b1_1 : Rs) (b1_2 b1_3 : Int) (b1_4 b1_5 : ByteArray) (b1_6 : Int)
abbrev R3 := Bool
def res3 : R3 → ARes
 | r => .ret (.c (bc r))
def bx3 : R3 → List (List Cell)
 | r => []
noncomputable def t3_e (k : Nat) (rec : S3 → Option R3) (a0_0 : Int) (a0_1 : Rs) (a0_2 a0_3 : Int) (a0_4 a0_5 : ByteArray) (a0_6 b1_0 : Int) (b1_1 : Rs) (b1_2 b1_3 : Int) (b1_4 b1_5 : ByteArray) (b1_6 : Int) : Option R3 :=
 (g7 k).bind fun v_x1 =>
 bif v_x1 then
  (g8 k a0_0 a0_1 a0_2 a0_3 a0_4 a0_5 a0_6 b1_0 b1_1 b1_2 b1_3 b1_4 b1_5 b1_6).bind fun v_x3 =>
  (g9 k a0_0 a0_1 a0_2 a0_3 a0_4 a0_5 a0_6 b1_0 b1_1 b1_2 b1_3 b1_4 b1_5 b1_6 false).bind fun v_x5 =>
  bif v_x3 == v_x5 then
   (g10 k a0_0 a0_1 a0_2 a0_3 a0_4 a0_5 a0_6).bind fun v_x8 =>
   (g11 k a0_0 a0_1 a0_2 a0_3 a0_4 a0_5 a0_6).bind fun v_x10 =>
   bif v_x8 == v_x10 then
    (g12 k a0_0 a0_1 a0_2 a0_3 a0_4 a0_5 a0_6).bind fun v_x13 =>
    tup7 v_x13 fun r0_x15 r1_x15 r2_x15 r3_x15 r4_x15 r5_x15 r6_x15 =>
    (g8 k a0_0 a0_1 a0_2 a0_3 a0_4 a0_5 a0_6 r0_x15 r1_x15 r2_x15 r3_x15 r4_x15 r5_x15 r6_x15).bind fun v_x16 =>
    some v_x16
   else
    some false
  else
   some false
 else
  some false
noncomputable def step3 (k : Nat) (rec : S3 → Option R3) : S3 → Option R3
 | .e a0_0 a0_1 a0_2 a0_3 a0_4 a0_5 a0_6 b1_0 b1_1 b1_2 b1_3 b1_4 b1_5 b1_6 => t3_e k rec a0_0 a0_1 a0_2 a0_3 a0_4 a0_5 a0_6 b1_0 b1_1 b1_2 b1_3 b1_4 b1_5 b1_6
noncomputable def g3 (k : Nat) (a0_0 : Int) (a0_1 : Rs) (a0_2 a0_3 : Int) (a0_4 a0_5 : ByteArray) (a0_6 b1_0 : Int) (b1_1 : Rs) (b1_2 b1_3 : Int) (b1_4 b1_5 : ByteArray) (b1_6 : Int) : Option R3 := itS step3 k (.e a0_0 a0_1 a0_2 a0_3 a0_4 a0_5 a0_6 b1_0 b1_1 b1_2 b1_3 b1_4 b1_5 b1_6)
noncomputable def P3 : S3 → R3 → Prop
 | .e a0_0 a0_1 a0_2 a0_3 a0_4 a0_5 a0_6 b1_0 b1_1 b1_2 b1_3 b1_4 b1_5 b1_6, r => Fin cx3 Tryd.f3 [.code body3] (fr0 Tryd.f3 [.ag [ic a0_0, .imm a0_1, ic a0_2, ic a0_3, sc a0_4, sc a0_5, ic a0_6], .ag [ic b1_0, .imm b1_1, ic b1_2, ic b1_3, sc b1_4, sc b1_5, ic b1_6]] []) (res3 r) (bx3 r)
theorem evr3 {a0_0 : Int} {a0_1 : Rs} {a0_2 a0_3 : Int} {a0_4 a0_5 : ByteArray} {a0_6 b1_0 : Int} {b1_1 : Rs} {b1_2 b1_3 : Int} {b1_4 b1_5 : ByteArray} {b1_6 : Int} {r : R3} (h : P3 (.e a0_0 a0_1 a0_2 a0_3 a0_4 a0_5 a0_6 b1_0 b1_1 b1_2 b1_3 b1_4 b1_5 b1_6) r) : Ev Tryd.prog noHand 3 [.ag [ic a0_0, .imm a0_1, ic a0_2, ic a0_3, sc a0_4, sc a0_5, ic a0_6], .ag [ic b1_0, .imm b1_1, ic b1_2, ic b1_3, sc b1_4, sc b1_5, ic b1_6]] [] (res3 r) (bx3 r) := ev_of_fin (fn := Tryd.f3) (body := body3) (by kernel_rfl) (by kernel_rfl) (by kernel_rfl) rfl h
theorem t3_e_ok (k) {rec} (ih : ∀ s r, rec s = some r → P3 s r) {a0_0 a0_1 a0_2 a0_3 a0_4 a0_5 a0_6 b1_0 b1_1 b1_2 b1_3 b1_4 b1_5 b1_6 r} (h : t3_e k rec a0_0 a0_1 a0_2 a0_3 a0_4 a0_5 a0_6 b1_0 b1_1 b1_2 b1_3 b1_4 b1_5 b1_6 = some r) : P3 (.e a0_0 a0_1 a0_2 a0_3 a0_4 a0_5 a0_6 b1_0 b1_1 b1_2 b1_3 b1_4 b1_5 b1_6) r := by
 unfold t3_e at h
 obtain ⟨v_x1, h_x2, h⟩ := bd_or h
 replace h := bif_or h; rcases h with ⟨rfl, h⟩ | ⟨rfl, h⟩
 ·
  obtain ⟨v_x3, h_x4, h⟩ := bd_or h
  obtain ⟨v_x5, h_x6, h⟩ := bd_or h
  rcases bif_or h with ⟨h_x7, h⟩ | ⟨h_x7, h⟩
  ·
   obtain ⟨v_x8, h_x9, h⟩ := bd_or h
   obtain ⟨v_x10, h_x11, h⟩ := bd_or h
   rcases bif_or h with ⟨h_x12, h⟩ | ⟨h_x12, h⟩
   ·
    obtain ⟨v_x13, h_x14, h⟩ := bd_or h
    replace h := tup7_or h; obtain ⟨r0_x15, r1_x15, r2_x15, r3_x15, r4_x15, r5_x15, r6_x15, rfl, h⟩ := h
    obtain ⟨v_x16, h_x17, h⟩ := bd_or h
    rw [← Option.some.inj h]
    exact mF 0 hmix [aC 5 (.c (bc true)), aC 9 (.c (bc v_x3)), aC 12 (.c (bc v_x5)), aT 13, aC 17 (.c (ic v_x8)), aC 19 (.c (ic v_x10)), aT 20, aC 25 (.ag [ic r0_x15, .imm r1_x15, ic r2_x15, ic r3_x15, sc r4_x15, sc r5_x15, ic r6_x15]), aC 26 (.c (bc v_x16))] [_, _, _, _, _, _, _, _, _] (by kernel_rfl) ⟨(ev7 h_x2), (ev8 h_x4), (ev9 h_x6), h_x7, (ev10 h_x9), (ev11 h_x11), h_x12, (ev12 h_x14), (ev8 h_x17), trivial⟩
   ·
    rw [← Option.some.inj h]
    exact mF 0 hmix [aC 5 (.c (bc true)), aC 9 (.c (bc v_x3)), aC 12 (.c (bc v_x5)), aT 13, aC 17 (.c (ic v_x8)), aC 19 (.c (ic v_x10)), aF 20] [_, _, _, _, _, _, _] (by kernel_rfl) ⟨(ev7 h_x2), (ev8 h_x4), (ev9 h_x6), h_x7, (ev10 h_x9), (ev11 h_x11), h_x12, trivial⟩
  ·
   rw [← Option.some.inj h]
   exact mF 0 hmix [aC 5 (.c (bc true)), aC 9 (.c (bc v_x3)), aC 12 (.c (bc v_x5)), aF 13] [_, _, _, _] (by kernel_rfl) ⟨(ev7 h_x2), (ev8 h_x4), (ev9 h_x6), h_x7, trivial⟩
 ·
  rw [← Option.some.inj h]
  exact mF 0 hmix [aC 5 (.c (bc false))] [_] (by kernel_rfl) ⟨(ev7 h_x2), trivial⟩
theorem ok3 : ∀ k s r, itS step3 k s = some r → P3 s r := itS_ok fun k rec ih s r h => match s, h with
 | .e a0_0 a0_1 a0_2 a0_3 a0_4 a0_5 a0_6 b1_0 b1_1 b1_2 b1_3 b1_4 b1_5 b1_6, h => t3_e_ok k ih h
theorem ev3 {k : Nat} {a0_0 : Int} {a0_1 : Rs} {a0_2 a0_3 : Int} {a0_4 a0_5 : ByteArray} {a0_6 b1_0 : Int} {b1_1 : Rs} {b1_2 b1_3 : Int} {b1_4 b1_5 : ByteArray} {b1_6 : Int} {r : R3} (h : g3 k a0_0 a0_1 a0_2 a0_3 a0_4 a0_5 a0_6 b1_0 b1_1 b1_2 b1_3 b1_4 b1_5 b1_6 = some r) : Ev Tryd.prog noHand 3 [.ag [ic a0_0, .imm a0_1, ic a0_2, ic a0_3, sc a0_4, sc a0_5, ic a0_6], .ag [ic b1_0, .imm b1_1, ic b1_2, ic b1_3, sc b1_4, sc b1_5, ic b1_6]] [] (res3 r) (bx3 r) := evr3 (ok3 _ _ _ h)
end Ab
end Go.Proofs.YtfekohpjaafnhaaDoor
