/-
  Functions' ways, printed by a program: what each computes, and that this is what the interpreter computes.
-/
import Derived.Test.YtgghingfdcmelaaGreatFd
import Derived.KernelRfl
set_option linter.unusedVariables false
set_option linter.unusedSimpArgs false
namespace Go.Proofs.YtgghingfdcmelaaGreat
namespace Ab
def un_i {α : Type} (row : List Cell) (k : Int → Option α) : Option α := match row with
  | [.val (.int .i64 x0)] => k x0
  | _ => none
theorem un_i_or {α : Type} {row : List Cell} {k : Int → Option α} {r : α} (h : un_i row k = some r) : ∃ x0, row = [.val (.int .i64 x0)] ∧ k x0 = some r := by
  unfold un_i at h
  split at h
  · exact ⟨_, rfl, h⟩
  · cases h
def un_iibim3n {α : Type} (row : List Cell) (k : Int → Int → Bool → Int → Rs → Rs → Rs → Option α) : Option α := match row with
  | [.val (.int .i64 x0), .val (.int .i64 x1), .val (.bool x2), .val (.int .i64 x3), .imm x4, .imm x5, .imm x6, .nil] => k x0 x1 x2 x3 x4 x5 x6
  | _ => none
theorem un_iibim3n_or {α : Type} {row : List Cell} {k : Int → Int → Bool → Int → Rs → Rs → Rs → Option α} {r : α} (h : un_iibim3n row k = some r) : ∃ x0 x1 x2 x3 x4 x5 x6, row = [.val (.int .i64 x0), .val (.int .i64 x1), .val (.bool x2), .val (.int .i64 x3), .imm x4, .imm x5, .imm x6, .nil] ∧ k x0 x1 x2 x3 x4 x5 x6 = some r := by
  unfold un_iibim3n at h
  split at h
  · exact ⟨_, _, _, _, _, _, _, rfl, h⟩
  · cases h
def un_iibim3o3 {α : Type} (row : List Cell) (k : Int → Int → Bool → Int → Rs → Rs → Rs → Rs → Option α) : Option α := match row with
  | [.val (.int .i64 x0), .val (.int .i64 x1), .val (.bool x2), .val (.int .i64 x3), .imm x4, .imm x5, .imm x6, .own 3 x7] => k x0 x1 x2 x3 x4 x5 x6 x7
  | _ => none
theorem un_iibim3o3_or {α : Type} {row : List Cell} {k : Int → Int → Bool → Int → Rs → Rs → Rs → Rs → Option α} {r : α} (h : un_iibim3o3 row k = some r) : ∃ x0 x1 x2 x3 x4 x5 x6 x7, row = [.val (.int .i64 x0), .val (.int .i64 x1), .val (.bool x2), .val (.int .i64 x3), .imm x4, .imm x5, .imm x6, .own 3 x7] ∧ k x0 x1 x2 x3 x4 x5 x6 x7 = some r := by
  unfold un_iibim3o3 at h
  split at h
  · exact ⟨_, _, _, _, _, _, _, _, rfl, h⟩
  · cases h
def un_iibim4 {α : Type} (row : List Cell) (k : Int → Int → Bool → Int → Rs → Rs → Rs → Rs → Option α) : Option α := match row with
  | [.val (.int .i64 x0), .val (.int .i64 x1), .val (.bool x2), .val (.int .i64 x3), .imm x4, .imm x5, .imm x6, .imm x7] => k x0 x1 x2 x3 x4 x5 x6 x7
  | _ => none
theorem un_iibim4_or {α : Type} {row : List Cell} {k : Int → Int → Bool → Int → Rs → Rs → Rs → Rs → Option α} {r : α} (h : un_iibim4 row k = some r) : ∃ x0 x1 x2 x3 x4 x5 x6 x7, row = [.val (.int .i64 x0), .val (.int .i64 x1), .val (.bool x2), .val (.int .i64 x3), .imm x4, .imm x5, .imm x6, .imm x7] ∧ k x0 x1 x2 x3 x4 x5 x6 x7 = some r := by
  unfold un_iibim4 at h
  split at h
  · exact ⟨_, _, _, _, _, _, _, _, rfl, h⟩
  · cases h
def un_iibio2o7o7n {α : Type} (row : List Cell) (k : Int → Int → Bool → Int → Rs → Rs → Rs → Option α) : Option α := match row with
  | [.val (.int .i64 x0), .val (.int .i64 x1), .val (.bool x2), .val (.int .i64 x3), .own 2 x4, .own 7 x5, .own 7 x6, .nil] => k x0 x1 x2 x3 x4 x5 x6
  | _ => none
theorem un_iibio2o7o7n_or {α : Type} {row : List Cell} {k : Int → Int → Bool → Int → Rs → Rs → Rs → Option α} {r : α} (h : un_iibio2o7o7n row k = some r) : ∃ x0 x1 x2 x3 x4 x5 x6, row = [.val (.int .i64 x0), .val (.int .i64 x1), .val (.bool x2), .val (.int .i64 x3), .own 2 x4, .own 7 x5, .own 7 x6, .nil] ∧ k x0 x1 x2 x3 x4 x5 x6 = some r := by
  unfold un_iibio2o7o7n at h
  split at h
  · exact ⟨_, _, _, _, _, _, _, rfl, h⟩
  · cases h
def un_iibio2o7o7o3 {α : Type} (row : List Cell) (k : Int → Int → Bool → Int → Rs → Rs → Rs → Rs → Option α) : Option α := match row with
  | [.val (.int .i64 x0), .val (.int .i64 x1), .val (.bool x2), .val (.int .i64 x3), .own 2 x4, .own 7 x5, .own 7 x6, .own 3 x7] => k x0 x1 x2 x3 x4 x5 x6 x7
  | _ => none
theorem un_iibio2o7o7o3_or {α : Type} {row : List Cell} {k : Int → Int → Bool → Int → Rs → Rs → Rs → Rs → Option α} {r : α} (h : un_iibio2o7o7o3 row k = some r) : ∃ x0 x1 x2 x3 x4 x5 x6 x7, row = [.val (.int .i64 x0), .val (.int .i64 x1), .val (.bool x2), .val (.int .i64 x3), .own 2 x4, .own 7 x5, .own 7 x6, .own 3 x7] ∧ k x0 x1 x2 x3 x4 x5 x6 x7 = some r := by
  unfold un_iibio2o7o7o3 at h
  split at h
  · exact ⟨_, _, _, _, _, _, _, _, rfl, h⟩
  · cases h
def un_iimiuii {α : Type} (row : List Cell) (k : Int → Int → Rs → Int → Int → Int → Int → Option α) : Option α := match row with
  | [.val (.int .i64 x0), .val (.int .i64 x1), .imm x2, .val (.int .i64 x3), .val (.int .u64 x4), .val (.int .i64 x5), .val (.int .i64 x6)] => k x0 x1 x2 x3 x4 x5 x6
  | _ => none
theorem un_iimiuii_or {α : Type} {row : List Cell} {k : Int → Int → Rs → Int → Int → Int → Int → Option α} {r : α} (h : un_iimiuii row k = some r) : ∃ x0 x1 x2 x3 x4 x5 x6, row = [.val (.int .i64 x0), .val (.int .i64 x1), .imm x2, .val (.int .i64 x3), .val (.int .u64 x4), .val (.int .i64 x5), .val (.int .i64 x6)] ∧ k x0 x1 x2 x3 x4 x5 x6 = some r := by
  unfold un_iimiuii at h
  split at h
  · exact ⟨_, _, _, _, _, _, _, rfl, h⟩
  · cases h
def un_im {α : Type} (row : List Cell) (k : Int → Rs → Option α) : Option α := match row with
  | [.val (.int .i64 x0), .imm x1] => k x0 x1
  | _ => none
theorem un_im_or {α : Type} {row : List Cell} {k : Int → Rs → Option α} {r : α} (h : un_im row k = some r) : ∃ x0 x1, row = [.val (.int .i64 x0), .imm x1] ∧ k x0 x1 = some r := by
  unfold un_im at h
  split at h
  · exact ⟨_, _, rfl, h⟩
  · cases h
def un_imm {α : Type} (row : List Cell) (k : Int → Rs → Rs → Option α) : Option α := match row with
  | [.val (.int .i64 x0), .imm x1, .imm x2] => k x0 x1 x2
  | _ => none
theorem un_imm_or {α : Type} {row : List Cell} {k : Int → Rs → Rs → Option α} {r : α} (h : un_imm row k = some r) : ∃ x0 x1 x2, row = [.val (.int .i64 x0), .imm x1, .imm x2] ∧ k x0 x1 x2 = some r := by
  unfold un_imm at h
  split at h
  · exact ⟨_, _, _, rfl, h⟩
  · cases h
def ua_iibim3n_iibim3o3 {α : Type} (row : List Cell) (k0 : Int → Int → Bool → Int → Rs → Rs → Rs → Option α) (k1 : Int → Int → Bool → Int → Rs → Rs → Rs → Rs → Option α) : Option α := match row with
  | [.val (.int .i64 x0), .val (.int .i64 x1), .val (.bool x2), .val (.int .i64 x3), .imm x4, .imm x5, .imm x6, .nil] => k0 x0 x1 x2 x3 x4 x5 x6
  | [.val (.int .i64 x0), .val (.int .i64 x1), .val (.bool x2), .val (.int .i64 x3), .imm x4, .imm x5, .imm x6, .own 3 x7] => k1 x0 x1 x2 x3 x4 x5 x6 x7
  | _ => none
theorem ua_iibim3n_iibim3o3_or {α : Type} {row : List Cell} {k0 : Int → Int → Bool → Int → Rs → Rs → Rs → Option α} {k1 : Int → Int → Bool → Int → Rs → Rs → Rs → Rs → Option α} {r : α} (h : ua_iibim3n_iibim3o3 row k0 k1 = some r) : (∃ x0 x1 x2 x3 x4 x5 x6, row = [.val (.int .i64 x0), .val (.int .i64 x1), .val (.bool x2), .val (.int .i64 x3), .imm x4, .imm x5, .imm x6, .nil] ∧ k0 x0 x1 x2 x3 x4 x5 x6 = some r) ∨ (∃ x0 x1 x2 x3 x4 x5 x6 x7, row = [.val (.int .i64 x0), .val (.int .i64 x1), .val (.bool x2), .val (.int .i64 x3), .imm x4, .imm x5, .imm x6, .own 3 x7] ∧ k1 x0 x1 x2 x3 x4 x5 x6 x7 = some r) := by
  unfold ua_iibim3n_iibim3o3 at h
  split at h
  · exact .inl ⟨_, _, _, _, _, _, _, rfl, h⟩
  · exact .inr (⟨_, _, _, _, _, _, _, _, rfl, h⟩)
  · cases h
def ua_iibio2o7o7n_iibio2o7o7o3 {α : Type} (row : List Cell) (k0 : Int → Int → Bool → Int → Rs → Rs → Rs → Option α) (k1 : Int → Int → Bool → Int → Rs → Rs → Rs → Rs → Option α) : Option α := match row with
  | [.val (.int .i64 x0), .val (.int .i64 x1), .val (.bool x2), .val (.int .i64 x3), .own 2 x4, .own 7 x5, .own 7 x6, .nil] => k0 x0 x1 x2 x3 x4 x5 x6
  | [.val (.int .i64 x0), .val (.int .i64 x1), .val (.bool x2), .val (.int .i64 x3), .own 2 x4, .own 7 x5, .own 7 x6, .own 3 x7] => k1 x0 x1 x2 x3 x4 x5 x6 x7
  | _ => none
theorem ua_iibio2o7o7n_iibio2o7o7o3_or {α : Type} {row : List Cell} {k0 : Int → Int → Bool → Int → Rs → Rs → Rs → Option α} {k1 : Int → Int → Bool → Int → Rs → Rs → Rs → Rs → Option α} {r : α} (h : ua_iibio2o7o7n_iibio2o7o7o3 row k0 k1 = some r) : (∃ x0 x1 x2 x3 x4 x5 x6, row = [.val (.int .i64 x0), .val (.int .i64 x1), .val (.bool x2), .val (.int .i64 x3), .own 2 x4, .own 7 x5, .own 7 x6, .nil] ∧ k0 x0 x1 x2 x3 x4 x5 x6 = some r) ∨ (∃ x0 x1 x2 x3 x4 x5 x6 x7, row = [.val (.int .i64 x0), .val (.int .i64 x1), .val (.bool x2), .val (.int .i64 x3), .own 2 x4, .own 7 x5, .own 7 x6, .own 3 x7] ∧ k1 x0 x1 x2 x3 x4 x5 x6 x7 = some r) := by
  unfold ua_iibio2o7o7n_iibio2o7o7o3 at h
  split at h
  · exact .inl ⟨_, _, _, _, _, _, _, rfl, h⟩
  · exact .inr (⟨_, _, _, _, _, _, _, _, rfl, h⟩)
  · cases h
-- auspice/auspiceref14.Good
inductive S4 where
  | e (a0_0 : Int) (a0_1 : Rs) (a0_2 : Rs)
  | h0 (ok3 : Bool) (t23 : Rs) (t24 : Int) (t25 : Int)
  | h1 (ok3 : Bool) (t23 : Rs) (t24 : Int) (t25 : Int) (t58 : Rs) (t59 : Int) (t60 : Int)
  | h2 (ok3 : Bool) (t23 : Rs) (t24 : Int) (t25 : Int) (t58 : Rs) (t59 : Int) (t60 : Int)
abbrev R4 := Bool
def res4 : R4 → ARes
  | r => .ret (.c (bc r))
def bx4 : R4 → List (List Cell)
  | r => []
noncomputable def t4_e (k : Nat) (rec : S4 → Option R4) (a0_0 : Int) (a0_1 : Rs) (a0_2 : Rs) : Option R4 :=
  bif decide (a0_0 ≥ 1) then
    bif decide (a0_0 ≤ 3) then
      rec (.h0 (decide ((a0_2.length : Int) ≤ 32)) a0_2 (a0_2.length : Int) 0)
    else
      rec (.h0 false a0_2 (a0_2.length : Int) 0)
  else
    rec (.h0 false a0_2 (a0_2.length : Int) 0)
noncomputable def t4_h0 (k : Nat) (rec : S4 → Option R4) (ok3 : Bool) (t23 : Rs) (t24 : Int) (t25 : Int) : Option R4 :=
  bif decide (t25 < t24) then
    ixR t23 t25 fun w_x2 =>
    un_iibim4 w_x2 fun parent_x4 type_x4 many_x4 window_x4 bars_x4 leaves_x4 guards_x4 ends_x4 =>
    bif ok3 then
      bif decide (parent_x4 ≥ (-1)) then
        bif decide (parent_x4 < t25) then
          bif decide (type_x4 ≥ 0) then
            bif decide (window_x4 ≥ 0) then
              rec (.h1 (decide (window_x4 ≤ 1152921504606846976)) t23 t24 t25 ends_x4 (ends_x4.length : Int) 0)
            else
              rec (.h1 false t23 t24 t25 ends_x4 (ends_x4.length : Int) 0)
          else
            rec (.h1 false t23 t24 t25 ends_x4 (ends_x4.length : Int) 0)
        else
          rec (.h1 false t23 t24 t25 ends_x4 (ends_x4.length : Int) 0)
      else
        rec (.h1 false t23 t24 t25 ends_x4 (ends_x4.length : Int) 0)
    else
      rec (.h1 false t23 t24 t25 ends_x4 (ends_x4.length : Int) 0)
  else
    some ok3
noncomputable def t4_h1 (k : Nat) (rec : S4 → Option R4) (ok3 : Bool) (t23 : Rs) (t24 : Int) (t25 : Int) (t58 : Rs) (t59 : Int) (t60 : Int) : Option R4 :=
  bif decide (t60 < t59) then
    ixR t58 t60 fun w_x2 =>
    un_imm w_x2 fun branch_x4 closes_x4 bars_x4 =>
    bif ok3 then
      rec (.h2 (decide (branch_x4 ≥ 0)) t23 t24 t25 t58 t59 t60)
    else
      rec (.h2 false t23 t24 t25 t58 t59 t60)
  else
    rec (.h0 ok3 t23 t24 (IntKind.i64.wrap (t25 + 1)))
noncomputable def t4_h2 (k : Nat) (rec : S4 → Option R4) (ok3 : Bool) (t23 : Rs) (t24 : Int) (t25 : Int) (t58 : Rs) (t59 : Int) (t60 : Int) : Option R4 :=
  rec (.h1 ok3 t23 t24 t25 t58 t59 (IntKind.i64.wrap (t60 + 1)))
noncomputable def step4 (k : Nat) (rec : S4 → Option R4) : S4 → Option R4
  | .e a0_0 a0_1 a0_2 => t4_e k rec a0_0 a0_1 a0_2
  | .h0 ok3 t23 t24 t25 => t4_h0 k rec ok3 t23 t24 t25
  | .h1 ok3 t23 t24 t25 t58 t59 t60 => t4_h1 k rec ok3 t23 t24 t25 t58 t59 t60
  | .h2 ok3 t23 t24 t25 t58 t59 t60 => t4_h2 k rec ok3 t23 t24 t25 t58 t59 t60
noncomputable def g4 (k : Nat) (a0_0 : Int) (a0_1 : Rs) (a0_2 : Rs) : Option R4 := itS step4 k (.e a0_0 a0_1 a0_2)
noncomputable def P4 : S4 → R4 → Prop
  | .e a0_0 a0_1 a0_2, r => Fin cx4 Tryz.f4 [.code body4] (fr0 Tryz.f4 [.ag [ic a0_0, .imm a0_1, .imm a0_2]] []) (res4 r) (bx4 r)
  | .h0 ok3 t23 t24 t25, r => Fin cx4 Tryz.f4 (kAt body4 [1, 1, 0, 1, 0, 4] []) ⟨rep 3 .deadv ++ [.c (bc ok3)] ++ rep 19 .deadv ++ [.c (.imm t23), .c (ic t24), .c (ic t25)] ++ rep 47 .deadv, []⟩ (res4 r) (bx4 r)
  | .h1 ok3 t23 t24 t25 t58 t59 t60, r => Fin cx4 Tryz.f4 (kAt body4 [1, 1, 0, 1, 0, 0, 1, 1, 0, 0, 1, 1, 1, 0, 4] []) ⟨rep 3 .deadv ++ [.c (bc ok3)] ++ rep 19 .deadv ++ [.c (.imm t23), .c (ic t24), .c (ic t25)] ++ rep 32 .deadv ++ [.c (.imm t58), .c (ic t59), .c (ic t60)] ++ rep 12 .deadv, []⟩ (res4 r) (bx4 r)
  | .h2 ok3 t23 t24 t25 t58 t59 t60, r => Fin cx4 Tryz.f4 (kAt body4 [1, 1, 0, 1, 0, 0, 1, 1, 0, 0, 1, 1, 1, 0, 0, 1, 1, 1, 2] []) ⟨rep 3 .deadv ++ [.c (bc ok3)] ++ rep 19 .deadv ++ [.c (.imm t23), .c (ic t24), .c (ic t25)] ++ rep 32 .deadv ++ [.c (.imm t58), .c (ic t59), .c (ic t60)] ++ rep 12 .deadv, []⟩ (res4 r) (bx4 r)
theorem evr4 {a0_0 : Int} {a0_1 : Rs} {a0_2 : Rs} {r : R4} (h : P4 (.e a0_0 a0_1 a0_2) r) : Ev Tryz.prog noHand 4 [.ag [ic a0_0, .imm a0_1, .imm a0_2]] [] (res4 r) (bx4 r) := ev_of_fin (fn := Tryz.f4) (body := body4) (by kernel_rfl) (by kernel_rfl) (by kernel_rfl) rfl h
theorem t4_e_ok (k : Nat) (rec : S4 → Option R4) (ih : ∀ s r, rec s = some r → P4 s r) (a0_0 : Int) (a0_1 : Rs) (a0_2 : Rs) (r : R4) (h : t4_e k rec a0_0 a0_1 a0_2 = some r) : P4 (.e a0_0 a0_1 a0_2) r := by
  unfold t4_e at h
  rcases bif_or h with ⟨h_x1, h⟩ | ⟨h_x1, h⟩
  ·
    rcases bif_or h with ⟨h_x2, h⟩ | ⟨h_x2, h⟩
    ·
      exact mgo_at (nb := 0) hmix (ih _ _ h) (n := 9) (ad := [(some 10, .test true), (some 14, .test true)]) (ps := [_, _]) (m := bm 73 9444732965739231707127) (ls := [1]) (cs := []) (by kernel_rfl) ⟨h_x1, h_x2, trivial⟩
    ·
      exact mgo_at (nb := 0) hmix (ih _ _ h) (n := 9) (ad := [(some 10, .test true), (some 14, .test false)]) (ps := [_, _]) (m := bm 73 9444732965739231707127) (ls := [1]) (cs := []) (by kernel_rfl) ⟨h_x1, h_x2, trivial⟩
  ·
    exact mgo_at (nb := 0) hmix (ih _ _ h) (n := 9) (ad := [(some 10, .test false)]) (ps := [_]) (m := bm 73 9444732965739231707127) (ls := [1]) (cs := []) (by kernel_rfl) ⟨h_x1, trivial⟩
theorem t4_h0_ok (k : Nat) (rec : S4 → Option R4) (ih : ∀ s r, rec s = some r → P4 s r) (ok3 : Bool) (t23 : Rs) (t24 : Int) (t25 : Int) (r : R4) (h : t4_h0 k rec ok3 t23 t24 t25 = some r) : P4 (.h0 ok3 t23 t24 t25) r := by
  unfold t4_h0 at h
  rcases bif_or h with ⟨h_x1, h⟩ | ⟨h_x1, h⟩
  ·
    obtain ⟨w_x2, h_x3, h⟩ := ixR_or h
    obtain ⟨parent_x4, type_x4, many_x4, window_x4, bars_x4, leaves_x4, guards_x4, ends_x4, hq, h1'⟩ := un_iibim4_or h
    clear h; subst hq; have h := h1'; clear h1'
    rcases bif_or h with ⟨hq, h1'⟩ | ⟨hq, h1'⟩
    · clear h; subst hq; have h := h1'; clear h1'
      rcases bif_or h with ⟨h_x5, h⟩ | ⟨h_x5, h⟩
      ·
        rcases bif_or h with ⟨h_x6, h⟩ | ⟨h_x6, h⟩
        ·
          rcases bif_or h with ⟨h_x7, h⟩ | ⟨h_x7, h⟩
          ·
            rcases bif_or h with ⟨h_x8, h⟩ | ⟨h_x8, h⟩
            ·
              exact mgo_at (nb := 0) hmix (ih _ _ h) (n := 16) (ad := [(some 26, .test true), (some 28, .row [ic parent_x4, ic type_x4, bc many_x4, ic window_x4, .imm bars_x4, .imm leaves_x4, .imm guards_x4, .imm ends_x4]), (some 34, .test true), (some 40, .test true), (some 45, .test true), (some 50, .test true)]) (ps := [_, _, _, _, _, _]) (m := bm 73 9442715353106169724919) (ls := [5]) (cs := []) (by kernel_rfl) ⟨h_x1, ix_row h_x3 rfl, h_x5, h_x6, h_x7, h_x8, trivial⟩
            ·
              exact mgo_at (nb := 0) hmix (ih _ _ h) (n := 16) (ad := [(some 26, .test true), (some 28, .row [ic parent_x4, ic type_x4, bc many_x4, ic window_x4, .imm bars_x4, .imm leaves_x4, .imm guards_x4, .imm ends_x4]), (some 34, .test true), (some 40, .test true), (some 45, .test true), (some 50, .test false)]) (ps := [_, _, _, _, _, _]) (m := bm 73 9442715353106169724919) (ls := [5]) (cs := []) (by kernel_rfl) ⟨h_x1, ix_row h_x3 rfl, h_x5, h_x6, h_x7, h_x8, trivial⟩
          ·
            exact mgo_at (nb := 0) hmix (ih _ _ h) (n := 16) (ad := [(some 26, .test true), (some 28, .row [ic parent_x4, ic type_x4, bc many_x4, ic window_x4, .imm bars_x4, .imm leaves_x4, .imm guards_x4, .imm ends_x4]), (some 34, .test true), (some 40, .test true), (some 45, .test false)]) (ps := [_, _, _, _, _]) (m := bm 73 9442715353106169724919) (ls := [5]) (cs := []) (by kernel_rfl) ⟨h_x1, ix_row h_x3 rfl, h_x5, h_x6, h_x7, trivial⟩
        ·
          exact mgo_at (nb := 0) hmix (ih _ _ h) (n := 16) (ad := [(some 26, .test true), (some 28, .row [ic parent_x4, ic type_x4, bc many_x4, ic window_x4, .imm bars_x4, .imm leaves_x4, .imm guards_x4, .imm ends_x4]), (some 34, .test true), (some 40, .test false)]) (ps := [_, _, _, _]) (m := bm 73 9442715353106169724919) (ls := [5]) (cs := []) (by kernel_rfl) ⟨h_x1, ix_row h_x3 rfl, h_x5, h_x6, trivial⟩
      ·
        exact mgo_at (nb := 0) hmix (ih _ _ h) (n := 16) (ad := [(some 26, .test true), (some 28, .row [ic parent_x4, ic type_x4, bc many_x4, ic window_x4, .imm bars_x4, .imm leaves_x4, .imm guards_x4, .imm ends_x4]), (some 34, .test false)]) (ps := [_, _, _]) (m := bm 73 9442715353106169724919) (ls := [5]) (cs := []) (by kernel_rfl) ⟨h_x1, ix_row h_x3 rfl, h_x5, trivial⟩
    · clear h; subst hq; have h := h1'; clear h1'
      exact mgo_at (nb := 0) hmix (ih _ _ h) (n := 16) (ad := [(some 26, .test true), (some 28, .row [ic parent_x4, ic type_x4, bc many_x4, ic window_x4, .imm bars_x4, .imm leaves_x4, .imm guards_x4, .imm ends_x4])]) (ps := [_, _]) (m := bm 73 9442715353106169724919) (ls := [5]) (cs := []) (by kernel_rfl) ⟨h_x1, ix_row h_x3 rfl, trivial⟩
  ·
    rw [← Option.some.inj h]
    exact mgo_fin (nb := 0) hmix (n := 2000) (ad := [(some 26, .test false)]) (ps := [_]) (by kernel_rfl) ⟨h_x1, trivial⟩
theorem t4_h1_ok (k : Nat) (rec : S4 → Option R4) (ih : ∀ s r, rec s = some r → P4 s r) (ok3 : Bool) (t23 : Rs) (t24 : Int) (t25 : Int) (t58 : Rs) (t59 : Int) (t60 : Int) (r : R4) (h : t4_h1 k rec ok3 t23 t24 t25 t58 t59 t60 = some r) : P4 (.h1 ok3 t23 t24 t25 t58 t59 t60) r := by
  unfold t4_h1 at h
  rcases bif_or h with ⟨h_x1, h⟩ | ⟨h_x1, h⟩
  ·
    obtain ⟨w_x2, h_x3, h⟩ := ixR_or h
    obtain ⟨branch_x4, closes_x4, bars_x4, hq, h1'⟩ := un_imm_or h
    clear h; subst hq; have h := h1'; clear h1'
    rcases bif_or h with ⟨hq, h1'⟩ | ⟨hq, h1'⟩
    · clear h; subst hq; have h := h1'; clear h1'
      exact mgo_at (nb := 0) hmix (ih _ _ h) (n := 12) (ad := [(some 61, .test true), (some 62, .row [ic branch_x4, .imm closes_x4, .imm bars_x4])]) (ps := [_, _]) (m := bm 73 9442715353106169724919) (ls := [7]) (cs := []) (by kernel_rfl) ⟨h_x1, ix_row h_x3 rfl, trivial⟩
    · clear h; subst hq; have h := h1'; clear h1'
      exact mgo_at (nb := 0) hmix (ih _ _ h) (n := 12) (ad := [(some 61, .test true), (some 62, .row [ic branch_x4, .imm closes_x4, .imm bars_x4])]) (ps := [_, _]) (m := bm 73 9442715353106169724919) (ls := [7]) (cs := []) (by kernel_rfl) ⟨h_x1, ix_row h_x3 rfl, trivial⟩
  ·
    exact mgo_at (nb := 0) hmix (ih _ _ h) (n := 8) (ad := [(some 61, .test false)]) (ps := [_]) (m := bm 73 9444732965739231707127) (ls := []) (cs := []) (by kernel_rfl) ⟨h_x1, trivial⟩
theorem t4_h2_ok (k : Nat) (rec : S4 → Option R4) (ih : ∀ s r, rec s = some r → P4 s r) (ok3 : Bool) (t23 : Rs) (t24 : Int) (t25 : Int) (t58 : Rs) (t59 : Int) (t60 : Int) (r : R4) (h : t4_h2 k rec ok3 t23 t24 t25 t58 t59 t60 = some r) : P4 (.h2 ok3 t23 t24 t25 t58 t59 t60) r := by
  unfold t4_h2 at h
  exact mgo_at (nb := 0) hmix (ih _ _ h) (n := 1) (ad := []) (ps := []) (m := bm 73 9442715353106169724919) (ls := []) (cs := []) (by kernel_rfl) trivial
theorem ok4 : ∀ k s r, itS step4 k s = some r → P4 s r := itS_ok fun k rec ih s r h => match s, h with
  | .e a0_0 a0_1 a0_2, h => t4_e_ok k rec ih a0_0 a0_1 a0_2 r h
  | .h0 ok3 t23 t24 t25, h => t4_h0_ok k rec ih ok3 t23 t24 t25 r h
  | .h1 ok3 t23 t24 t25 t58 t59 t60, h => t4_h1_ok k rec ih ok3 t23 t24 t25 t58 t59 t60 r h
  | .h2 ok3 t23 t24 t25 t58 t59 t60, h => t4_h2_ok k rec ih ok3 t23 t24 t25 t58 t59 t60 r h
theorem ev4 {k : Nat} {a0_0 : Int} {a0_1 : Rs} {a0_2 : Rs} {r : R4} (h : g4 k a0_0 a0_1 a0_2 = some r) : Ev Tryz.prog noHand 4 [.ag [ic a0_0, .imm a0_1, .imm a0_2]] [] (res4 r) (bx4 r) := evr4 (ok4 _ _ _ h)
-- auspice/auspiceref08.TwinNodes
inductive S15 where
  | e (l0 : Rs)
  | h0 (l0 : Rs) (out3 : Rs) (t7 : Int) (t8 : Int)
abbrev R15 := Rs
def res15 : R15 → ARes
  | r => .ret (.c (.own 7 r))
def bx15 : R15 → List (List Cell)
  | r => []
noncomputable def t15_e (k : Nat) (rec : S15 → Option R15) (l0 : Rs) : Option R15 :=
  rec (.h0 l0 [] (l0.length : Int) 0)
noncomputable def t15_h0 (k : Nat) (rec : S15 → Option R15) (l0 : Rs) (out3 : Rs) (t7 : Int) (t8 : Int) : Option R15 :=
  bif decide (t8 < t7) then
    ixR l0 t8 fun w_x2 =>
    un_iimiuii w_x2 fun op_x4 kind_x4 args_x4 valueKind_x4 valueBits_x4 pos_x4 attr_x4 =>
    (rec (.e args_x4)).bind fun v_x5 =>
    gd (apOk 72 7 out3 [[ic op_x4, ic kind_x4, .imm (immRs v_x5), ic valueKind_x4, .val (.int .u64 valueBits_x4), ic pos_x4, ic attr_x4]]) <|
    rec (.h0 l0 (out3 ++ [[ic op_x4, ic kind_x4, .imm (immRs v_x5), ic valueKind_x4, .val (.int .u64 valueBits_x4), ic pos_x4, ic attr_x4]]) t7 (IntKind.i64.wrap (t8 + 1)))
  else
    some out3
noncomputable def step15 (k : Nat) (rec : S15 → Option R15) : S15 → Option R15
  | .e l0 => t15_e k rec l0
  | .h0 l0 out3 t7 t8 => t15_h0 k rec l0 out3 t7 t8
noncomputable def g15 (k : Nat) (l0 : Rs) : Option R15 := itS step15 k (.e l0)
noncomputable def P15 : S15 → R15 → Prop
  | .e l0, r => Fin cx15 Tryz.f15 [.code body15] (fr0 Tryz.f15 [.c (.imm l0)] []) (res15 r) (bx15 r)
  | .h0 l0 out3 t7 t8, r => Fin cx15 Tryz.f15 (kAt body15 [1, 1, 0, 1, 0, 4] []) ⟨[.c (.imm l0), .deadv, .deadv, .c (.own 7 out3)] ++ rep 3 .deadv ++ [.c (ic t7), .c (ic t8)] ++ rep 16 .deadv, []⟩ (res15 r) (bx15 r)
theorem evr15 {l0 : Rs} {r : R15} (h : P15 (.e l0) r) : Ev Tryz.prog noHand 15 [.c (.imm l0)] [] (res15 r) (bx15 r) := ev_of_fin (fn := Tryz.f15) (body := body15) (by kernel_rfl) (by kernel_rfl) (by kernel_rfl) rfl h
theorem t15_e_ok (k : Nat) (rec : S15 → Option R15) (ih : ∀ s r, rec s = some r → P15 s r) (l0 : Rs) (r : R15) (h : t15_e k rec l0 = some r) : P15 (.e l0) r := by
  unfold t15_e at h
  exact mgo_at (nb := 0) hmix (ih _ _ h) (n := 9) (ad := []) (ps := []) (m := bm 25 33554038) (ls := []) (cs := [(⟨⟨.slot 3, []⟩, 0, 0⟩, some 7)]) (by kernel_rfl) trivial
theorem t15_h0_ok (k : Nat) (rec : S15 → Option R15) (ih : ∀ s r, rec s = some r → P15 s r) (l0 : Rs) (out3 : Rs) (t7 : Int) (t8 : Int) (r : R15) (h : t15_h0 k rec l0 out3 t7 t8 = some r) : P15 (.h0 l0 out3 t7 t8) r := by
  unfold t15_h0 at h
  rcases bif_or h with ⟨h_x1, h⟩ | ⟨h_x1, h⟩
  ·
    obtain ⟨w_x2, h_x3, h⟩ := ixR_or h
    obtain ⟨op_x4, kind_x4, args_x4, valueKind_x4, valueBits_x4, pos_x4, attr_x4, hq, h1'⟩ := un_iimiuii_or h
    clear h; subst hq; have h := h1'; clear h1'
    obtain ⟨v_x5, h_x6, h⟩ := bd_or h
    obtain ⟨h_x7, h⟩ := gd_or h
    exact mgo_at (nb := 0) hmix (ih _ _ h) (n := 17) (ad := [(some 9, .test true), (some 13, .row [ic op_x4, ic kind_x4, .imm args_x4, ic valueKind_x4, .val (.int .u64 valueBits_x4), ic pos_x4, ic attr_x4]), (some 17, .call (.ret (.c (.own 7 v_x5))) [] false), (some 22, .okE false)]) (ps := [_, _, _, _]) (m := bm 25 33554038) (ls := [5]) (cs := []) (by kernel_rfl) ⟨h_x1, ix_row h_x3 rfl, (evr15 (ih _ _ h_x6)), okF [[ic op_x4, ic kind_x4, .imm (immRs v_x5), ic valueKind_x4, .val (.int .u64 valueBits_x4), ic pos_x4, ic attr_x4]] h_x7, trivial⟩
  ·
    rw [← Option.some.inj h]
    exact mgo_fin (nb := 0) hmix (n := 2000) (ad := [(some 9, .test false)]) (ps := [_]) (by kernel_rfl) ⟨h_x1, trivial⟩
theorem ok15 : ∀ k s r, itS step15 k s = some r → P15 s r := itS_ok fun k rec ih s r h => match s, h with
  | .e l0, h => t15_e_ok k rec ih l0 r h
  | .h0 l0 out3 t7 t8, h => t15_h0_ok k rec ih l0 out3 t7 t8 r h
theorem ev15 {k : Nat} {l0 : Rs} {r : R15} (h : g15 k l0 = some r) : Ev Tryz.prog noHand 15 [.c (.imm l0)] [] (res15 r) (bx15 r) := evr15 (ok15 _ _ _ h)
-- auspice/auspiceref14.TwinBars
inductive S14 where
  | e (l0 : Rs)
  | h0 (out3 : Rs) (t6 : Rs) (t7 : Int) (t8 : Int)
abbrev R14 := Rs
def res14 : R14 → ARes
  | r => .ret (.c (.own 2 r))
def bx14 : R14 → List (List Cell)
  | r => []
noncomputable def t14_e (k : Nat) (rec : S14 → Option R14) (l0 : Rs) : Option R14 :=
  rec (.h0 [] l0 (l0.length : Int) 0)
noncomputable def t14_h0 (k : Nat) (rec : S14 → Option R14) (out3 : Rs) (t6 : Rs) (t7 : Int) (t8 : Int) : Option R14 :=
  bif decide (t8 < t7) then
    ixR t6 t8 fun w_x2 =>
    un_im w_x2 fun type_x4 guards_x4 =>
    (g15 k guards_x4).bind fun v_x5 =>
    gd (apOk 32 2 out3 [[ic type_x4, .imm (immRs v_x5)]]) <|
    rec (.h0 (out3 ++ [[ic type_x4, .imm (immRs v_x5)]]) t6 t7 (IntKind.i64.wrap (t8 + 1)))
  else
    some out3
noncomputable def step14 (k : Nat) (rec : S14 → Option R14) : S14 → Option R14
  | .e l0 => t14_e k rec l0
  | .h0 out3 t6 t7 t8 => t14_h0 k rec out3 t6 t7 t8
noncomputable def g14 (k : Nat) (l0 : Rs) : Option R14 := itS step14 k (.e l0)
noncomputable def P14 : S14 → R14 → Prop
  | .e l0, r => Fin cx14 Tryz.f14 [.code body14] (fr0 Tryz.f14 [.c (.imm l0)] []) (res14 r) (bx14 r)
  | .h0 out3 t6 t7 t8, r => Fin cx14 Tryz.f14 (kAt body14 [1, 1, 0, 1, 0, 4] []) ⟨rep 3 .deadv ++ [.c (.own 2 out3), .deadv, .deadv, .c (.imm t6), .c (ic t7), .c (ic t8)] ++ rep 13 .deadv, []⟩ (res14 r) (bx14 r)
theorem evr14 {l0 : Rs} {r : R14} (h : P14 (.e l0) r) : Ev Tryz.prog noHand 14 [.c (.imm l0)] [] (res14 r) (bx14 r) := ev_of_fin (fn := Tryz.f14) (body := body14) (by kernel_rfl) (by kernel_rfl) (by kernel_rfl) rfl h
theorem t14_e_ok (k : Nat) (rec : S14 → Option R14) (ih : ∀ s r, rec s = some r → P14 s r) (l0 : Rs) (r : R14) (h : t14_e k rec l0 = some r) : P14 (.e l0) r := by
  unfold t14_e at h
  exact mgo_at (nb := 0) hmix (ih _ _ h) (n := 9) (ad := []) (ps := []) (m := bm 22 4193847) (ls := []) (cs := [(⟨⟨.slot 3, []⟩, 0, 0⟩, some 2)]) (by kernel_rfl) trivial
theorem t14_h0_ok (k : Nat) (rec : S14 → Option R14) (ih : ∀ s r, rec s = some r → P14 s r) (out3 : Rs) (t6 : Rs) (t7 : Int) (t8 : Int) (r : R14) (h : t14_h0 k rec out3 t6 t7 t8 = some r) : P14 (.h0 out3 t6 t7 t8) r := by
  unfold t14_h0 at h
  rcases bif_or h with ⟨h_x1, h⟩ | ⟨h_x1, h⟩
  ·
    obtain ⟨w_x2, h_x3, h⟩ := ixR_or h
    obtain ⟨type_x4, guards_x4, hq, h1'⟩ := un_im_or h
    clear h; subst hq; have h := h1'; clear h1'
    obtain ⟨v_x5, h_x6, h⟩ := bd_or h
    obtain ⟨h_x7, h⟩ := gd_or h
    exact mgo_at (nb := 0) hmix (ih _ _ h) (n := 15) (ad := [(some 9, .test true), (some 10, .row [ic type_x4, .imm guards_x4]), (some 14, .call (.ret (.c (.own 7 v_x5))) [] false), (some 19, .okE false)]) (ps := [_, _, _, _]) (m := bm 22 4193847) (ls := [5]) (cs := []) (by kernel_rfl) ⟨h_x1, ix_row h_x3 rfl, (ev15 h_x6), okF [[ic type_x4, .imm (immRs v_x5)]] h_x7, trivial⟩
  ·
    rw [← Option.some.inj h]
    exact mgo_fin (nb := 0) hmix (n := 2000) (ad := [(some 9, .test false)]) (ps := [_]) (by kernel_rfl) ⟨h_x1, trivial⟩
theorem ok14 : ∀ k s r, itS step14 k s = some r → P14 s r := itS_ok fun k rec ih s r h => match s, h with
  | .e l0, h => t14_e_ok k rec ih l0 r h
  | .h0 out3 t6 t7 t8, h => t14_h0_ok k rec ih out3 t6 t7 t8 r h
theorem ev14 {k : Nat} {l0 : Rs} {r : R14} (h : g14 k l0 = some r) : Ev Tryz.prog noHand 14 [.c (.imm l0)] [] (res14 r) (bx14 r) := evr14 (ok14 _ _ _ h)
-- auspice/auspiceref14.Twin
inductive S6 where
  | e (a0_0 : Int) (a0_1 : Rs) (a0_2 : Rs)
  | h0 (t16 : Rs) (t17 : Int) (t18 : Int) (loc3_0 : Int) (loc3_1 : Rs) (loc3_2 : Rs) (loc2_0 : Int)
  | h1 (ends6 : Rs) (t16 : Rs) (t17 : Int) (t18 : Int) (t35 : Rs) (t36 : Int) (t37 : Int) (loc5_0 : Int) (loc5_1 : Int) (loc5_2 : Bool) (loc5_3 : Int) (loc5_4 : Rs) (loc5_5 : Rs) (loc5_6 : Rs) (loc5_7 : Rs) (loc3_0 : Int) (loc3_1 : Rs) (loc3_2 : Rs) (loc2_0 : Int)
abbrev R6 := Int × Rs × Rs
def res6 : R6 → ARes
  | (r_0, r_1, r_2) => .ret (.ag [ic r_0, .own 1 r_1, .own 8 r_2])
def bx6 : R6 → List (List Cell)
  | (r_0, r_1, r_2) => []
noncomputable def t6_e (k : Nat) (rec : S6 → Option R6) (a0_0 : Int) (a0_1 : Rs) (a0_2 : Rs) : Option R6 :=
  bif a0_1.isEmpty then
    gd (apOk 8 1 [] a0_1) <|
    rec (.h0 a0_2 (a0_2.length : Int) 0 a0_0 [] [] 0)
  else
    gd (apOk 8 1 [] a0_1) <|
    rec (.h0 a0_2 (a0_2.length : Int) 0 a0_0 (([] : Rs) ++ a0_1) [] 0)
noncomputable def t6_h0 (k : Nat) (rec : S6 → Option R6) (t16 : Rs) (t17 : Int) (t18 : Int) (loc3_0 : Int) (loc3_1 : Rs) (loc3_2 : Rs) (loc2_0 : Int) : Option R6 :=
  bif decide (t18 < t17) then
    ixR t16 t18 fun w_x2 =>
    un_iibim4 w_x2 fun parent_x4 type_x4 many_x4 window_x4 bars_x4 leaves_x4 guards_x4 ends_x4 =>
    (g14 k bars_x4).bind fun v_x5 =>
    (g15 k leaves_x4).bind fun v_x7 =>
    (g15 k guards_x4).bind fun v_x9 =>
    rec (.h1 [] t16 t17 t18 ends_x4 (ends_x4.length : Int) 0 parent_x4 type_x4 many_x4 window_x4 v_x5 v_x7 v_x9 ends_x4 loc3_0 loc3_1 loc3_2 loc2_0)
  else
    some (loc3_0, loc3_1, loc3_2)
noncomputable def t6_h1 (k : Nat) (rec : S6 → Option R6) (ends6 : Rs) (t16 : Rs) (t17 : Int) (t18 : Int) (t35 : Rs) (t36 : Int) (t37 : Int) (loc5_0 : Int) (loc5_1 : Int) (loc5_2 : Bool) (loc5_3 : Int) (loc5_4 : Rs) (loc5_5 : Rs) (loc5_6 : Rs) (loc5_7 : Rs) (loc3_0 : Int) (loc3_1 : Rs) (loc3_2 : Rs) (loc2_0 : Int) : Option R6 :=
  bif decide (t37 < t36) then
    ixR t35 t37 fun w_x2 =>
    un_imm w_x2 fun branch_x4 closes_x4 bars_x4 =>
    (g15 k closes_x4).bind fun v_x5 =>
    (g14 k bars_x4).bind fun v_x7 =>
    gd (apOk 56 3 ends6 [[ic branch_x4, .imm (immRs v_x5), .imm (immRs v_x7)]]) <|
    rec (.h1 (ends6 ++ [[ic branch_x4, .imm (immRs v_x5), .imm (immRs v_x7)]]) t16 t17 t18 t35 t36 (IntKind.i64.wrap (t37 + 1)) loc5_0 loc5_1 loc5_2 loc5_3 loc5_4 loc5_5 loc5_6 loc5_7 loc3_0 loc3_1 loc3_2 loc2_0)
  else
    gd (apOk 128 8 loc3_2 [[ic loc5_0, ic loc5_1, bc loc5_2, ic loc5_3, .own 2 loc5_4, .own 7 loc5_5, .own 7 loc5_6, .own 3 ends6]]) <|
    rec (.h0 t16 t17 (IntKind.i64.wrap (t18 + 1)) loc3_0 loc3_1 (loc3_2 ++ [[ic loc5_0, ic loc5_1, bc loc5_2, ic loc5_3, .own 2 loc5_4, .own 7 loc5_5, .own 7 loc5_6, .own 3 ends6]]) loc2_0)
noncomputable def step6 (k : Nat) (rec : S6 → Option R6) : S6 → Option R6
  | .e a0_0 a0_1 a0_2 => t6_e k rec a0_0 a0_1 a0_2
  | .h0 t16 t17 t18 loc3_0 loc3_1 loc3_2 loc2_0 => t6_h0 k rec t16 t17 t18 loc3_0 loc3_1 loc3_2 loc2_0
  | .h1 ends6 t16 t17 t18 t35 t36 t37 loc5_0 loc5_1 loc5_2 loc5_3 loc5_4 loc5_5 loc5_6 loc5_7 loc3_0 loc3_1 loc3_2 loc2_0 => t6_h1 k rec ends6 t16 t17 t18 t35 t36 t37 loc5_0 loc5_1 loc5_2 loc5_3 loc5_4 loc5_5 loc5_6 loc5_7 loc3_0 loc3_1 loc3_2 loc2_0
noncomputable def g6 (k : Nat) (a0_0 : Int) (a0_1 : Rs) (a0_2 : Rs) : Option R6 := itS step6 k (.e a0_0 a0_1 a0_2)
noncomputable def P6 : S6 → R6 → Prop
  | .e a0_0 a0_1 a0_2, r => Fin cx6 Tryz.f6 [.code body6] (fr0 Tryz.f6 [.ag [ic a0_0, .imm a0_1, .imm a0_2]] []) (res6 r) (bx6 r)
  | .h0 t16 t17 t18 loc3_0 loc3_1 loc3_2 loc2_0, r => Fin cx6 Tryz.f6 (kAt body6 [1, 1, 0, 1, 0, 4] []) ⟨[.deadv, .deadv, .c (.ptr ⟨⟨.loc 2, []⟩, 0, 0⟩), .c (.ptr ⟨⟨.loc 3, []⟩, 0, 0⟩)] ++ rep 12 .deadv ++ [.c (.imm t16), .c (ic t17), .c (ic t18)] ++ rep 45 .deadv, [(.loc 3, [ic loc3_0, .own 1 loc3_1, .own 8 loc3_2]), (.loc 2, [ic loc2_0, .nil, .nil])]⟩ (res6 r) (bx6 r)
  | .h1 ends6 t16 t17 t18 t35 t36 t37 loc5_0 loc5_1 loc5_2 loc5_3 loc5_4 loc5_5 loc5_6 loc5_7 loc3_0 loc3_1 loc3_2 loc2_0, r => Fin cx6 Tryz.f6 (kAt body6 [1, 1, 0, 1, 0, 0, 1, 1, 0, 0, 1, 1, 1, 0, 1, 0, 4] []) ⟨[.deadv, .deadv, .c (.ptr ⟨⟨.loc 2, []⟩, 0, 0⟩), .c (.ptr ⟨⟨.loc 3, []⟩, 0, 0⟩), .deadv, .c (.ptr ⟨⟨.loc 5, []⟩, 0, 0⟩), .c (.own 3 ends6)] ++ rep 9 .deadv ++ [.c (.imm t16), .c (ic t17), .c (ic t18)] ++ rep 16 .deadv ++ [.c (.imm t35), .c (ic t36), .c (ic t37)] ++ rep 26 .deadv, [(.loc 5, [ic loc5_0, ic loc5_1, bc loc5_2, ic loc5_3, .own 2 loc5_4, .own 7 loc5_5, .own 7 loc5_6, .imm loc5_7]), (.loc 3, [ic loc3_0, .own 1 loc3_1, .own 8 loc3_2]), (.loc 2, [ic loc2_0, .nil, .nil])]⟩ (res6 r) (bx6 r)
theorem evr6 {a0_0 : Int} {a0_1 : Rs} {a0_2 : Rs} {r : R6} (h : P6 (.e a0_0 a0_1 a0_2) r) : Ev Tryz.prog noHand 6 [.ag [ic a0_0, .imm a0_1, .imm a0_2]] [] (res6 r) (bx6 r) := ev_of_fin (fn := Tryz.f6) (body := body6) (by kernel_rfl) (by kernel_rfl) (by kernel_rfl) rfl h
theorem t6_e_ok (k : Nat) (rec : S6 → Option R6) (ih : ∀ s r, rec s = some r → P6 s r) (a0_0 : Int) (a0_1 : Rs) (a0_2 : Rs) (r : R6) (h : t6_e k rec a0_0 a0_1 a0_2 = some r) : P6 (.e a0_0 a0_1 a0_2) r := by
  unfold t6_e at h
  rcases bif_or h with ⟨h_x1, h⟩ | ⟨h_x1, h⟩
  ·
    obtain ⟨h_x2, h⟩ := gd_or h
    exact mgo_at (nb := 0) hmix (ih _ _ h) (n := 9) (ad := [(some 13, .okE true)]) (ps := [_]) (m := bm 64 18446744073709092851) (ls := [1]) (cs := [(⟨⟨.loc 3, []⟩, 0, 1⟩, some 1), (⟨⟨.loc 3, []⟩, 0, 2⟩, some 8)]) (by kernel_rfl) ⟨okT h_x2 h_x1, trivial⟩
  ·
    obtain ⟨h_x2, h⟩ := gd_or h
    exact mgo_at (nb := 0) hmix (ih _ _ h) (n := 9) (ad := [(some 13, .okE false)]) (ps := [_]) (m := bm 64 18446744073709092851) (ls := [1]) (cs := [(⟨⟨.loc 3, []⟩, 0, 2⟩, some 8)]) (by kernel_rfl) ⟨okT h_x2 h_x1, trivial⟩
theorem t6_h0_ok (k : Nat) (rec : S6 → Option R6) (ih : ∀ s r, rec s = some r → P6 s r) (t16 : Rs) (t17 : Int) (t18 : Int) (loc3_0 : Int) (loc3_1 : Rs) (loc3_2 : Rs) (loc2_0 : Int) (r : R6) (h : t6_h0 k rec t16 t17 t18 loc3_0 loc3_1 loc3_2 loc2_0 = some r) : P6 (.h0 t16 t17 t18 loc3_0 loc3_1 loc3_2 loc2_0) r := by
  unfold t6_h0 at h
  rcases bif_or h with ⟨h_x1, h⟩ | ⟨h_x1, h⟩
  ·
    obtain ⟨w_x2, h_x3, h⟩ := ixR_or h
    obtain ⟨parent_x4, type_x4, many_x4, window_x4, bars_x4, leaves_x4, guards_x4, ends_x4, hq, h1'⟩ := un_iibim4_or h
    clear h; subst hq; have h := h1'; clear h1'
    obtain ⟨v_x5, h_x6, h⟩ := bd_or h
    obtain ⟨v_x7, h_x8, h⟩ := bd_or h
    obtain ⟨v_x9, h_x10, h⟩ := bd_or h
    exact mgo_at (nb := 0) hmix (ih _ _ h) (n := 19) (ad := [(some 19, .test true), (some 20, .row [ic parent_x4, ic type_x4, bc many_x4, ic window_x4, .imm bars_x4, .imm leaves_x4, .imm guards_x4, .imm ends_x4]), (some 24, .call (.ret (.c (.own 2 v_x5))) [] false), (some 27, .call (.ret (.c (.own 7 v_x7))) [] false), (some 30, .call (.ret (.c (.own 7 v_x9))) [] false)]) (ps := [_, _, _, _, _]) (m := bm 64 18446743833190924179) (ls := []) (cs := [(⟨⟨.slot 6, []⟩, 0, 0⟩, some 3)]) (by kernel_rfl) ⟨h_x1, ix_row h_x3 rfl, (ev14 h_x6), (ev15 h_x8), (ev15 h_x10), trivial⟩
  ·
    rw [← Option.some.inj h]
    exact mgo_fin (nb := 0) hmix (n := 2000) (ad := [(some 19, .test false)]) (ps := [_]) (by kernel_rfl) ⟨h_x1, trivial⟩
theorem t6_h1_ok (k : Nat) (rec : S6 → Option R6) (ih : ∀ s r, rec s = some r → P6 s r) (ends6 : Rs) (t16 : Rs) (t17 : Int) (t18 : Int) (t35 : Rs) (t36 : Int) (t37 : Int) (loc5_0 : Int) (loc5_1 : Int) (loc5_2 : Bool) (loc5_3 : Int) (loc5_4 : Rs) (loc5_5 : Rs) (loc5_6 : Rs) (loc5_7 : Rs) (loc3_0 : Int) (loc3_1 : Rs) (loc3_2 : Rs) (loc2_0 : Int) (r : R6) (h : t6_h1 k rec ends6 t16 t17 t18 t35 t36 t37 loc5_0 loc5_1 loc5_2 loc5_3 loc5_4 loc5_5 loc5_6 loc5_7 loc3_0 loc3_1 loc3_2 loc2_0 = some r) : P6 (.h1 ends6 t16 t17 t18 t35 t36 t37 loc5_0 loc5_1 loc5_2 loc5_3 loc5_4 loc5_5 loc5_6 loc5_7 loc3_0 loc3_1 loc3_2 loc2_0) r := by
  unfold t6_h1 at h
  rcases bif_or h with ⟨h_x1, h⟩ | ⟨h_x1, h⟩
  ·
    obtain ⟨w_x2, h_x3, h⟩ := ixR_or h
    obtain ⟨branch_x4, closes_x4, bars_x4, hq, h1'⟩ := un_imm_or h
    clear h; subst hq; have h := h1'; clear h1'
    obtain ⟨v_x5, h_x6, h⟩ := bd_or h
    obtain ⟨v_x7, h_x8, h⟩ := bd_or h
    obtain ⟨h_x9, h⟩ := gd_or h
    exact mgo_at (nb := 0) hmix (ih _ _ h) (n := 15) (ad := [(some 38, .test true), (some 39, .row [ic branch_x4, .imm closes_x4, .imm bars_x4]), (some 43, .call (.ret (.c (.own 7 v_x5))) [] false), (some 46, .call (.ret (.c (.own 2 v_x7))) [] false), (some 52, .okE false)]) (ps := [_, _, _, _, _]) (m := bm 64 18446743833190924179) (ls := [8]) (cs := []) (by kernel_rfl) ⟨h_x1, ix_row h_x3 rfl, (ev15 h_x6), (ev14 h_x8), okF [[ic branch_x4, .imm (immRs v_x5), .imm (immRs v_x7)]] h_x9, trivial⟩
  ·
    obtain ⟨h_x2, h⟩ := gd_or h
    exact mgo_at (nb := 0) hmix (ih _ _ h) (n := 11) (ad := [(some 38, .test false), (some 60, .okE false)]) (ps := [_, _]) (m := bm 64 18446744073709092851) (ls := [5]) (cs := []) (by kernel_rfl) ⟨h_x1, okF [[ic loc5_0, ic loc5_1, bc loc5_2, ic loc5_3, .own 2 loc5_4, .own 7 loc5_5, .own 7 loc5_6, .own 3 ends6]] h_x2, trivial⟩
theorem ok6 : ∀ k s r, itS step6 k s = some r → P6 s r := itS_ok fun k rec ih s r h => match s, h with
  | .e a0_0 a0_1 a0_2, h => t6_e_ok k rec ih a0_0 a0_1 a0_2 r h
  | .h0 t16 t17 t18 loc3_0 loc3_1 loc3_2 loc2_0, h => t6_h0_ok k rec ih t16 t17 t18 loc3_0 loc3_1 loc3_2 loc2_0 r h
  | .h1 ends6 t16 t17 t18 t35 t36 t37 loc5_0 loc5_1 loc5_2 loc5_3 loc5_4 loc5_5 loc5_6 loc5_7 loc3_0 loc3_1 loc3_2 loc2_0, h => t6_h1_ok k rec ih ends6 t16 t17 t18 t35 t36 t37 loc5_0 loc5_1 loc5_2 loc5_3 loc5_4 loc5_5 loc5_6 loc5_7 loc3_0 loc3_1 loc3_2 loc2_0 r h
theorem ev6 {k : Nat} {a0_0 : Int} {a0_1 : Rs} {a0_2 : Rs} {r : R6} (h : g6 k a0_0 a0_1 a0_2 = some r) : Ev Tryz.prog noHand 6 [.ag [ic a0_0, .imm a0_1, .imm a0_2]] [] (res6 r) (bx6 r) := evr6 (ok6 _ _ _ h)
-- auspice/merge.twin
inductive S20 where
  | e (l0 : Rs)
  | h0 (out3 : Rs) (t6 : Rs) (t7 : Int) (t8 : Int)
abbrev R20 := Rs
def res20 : R20 → ARes
  | r => .ret (.c (.own 7 r))
def bx20 : R20 → List (List Cell)
  | r => []
noncomputable def t20_e (k : Nat) (rec : S20 → Option R20) (l0 : Rs) : Option R20 :=
  rec (.h0 [] l0 (l0.length : Int) 0)
noncomputable def t20_h0 (k : Nat) (rec : S20 → Option R20) (out3 : Rs) (t6 : Rs) (t7 : Int) (t8 : Int) : Option R20 :=
  bif decide (t8 < t7) then
    ixR t6 t8 fun w_x2 =>
    un_iimiuii w_x2 fun op_x4 kind_x4 args_x4 valueKind_x4 valueBits_x4 pos_x4 attr_x4 =>
    (rec (.e args_x4)).bind fun v_x5 =>
    gd (apOk 72 7 out3 [[ic op_x4, ic kind_x4, .imm (immRs v_x5), ic valueKind_x4, .val (.int .u64 valueBits_x4), ic pos_x4, ic attr_x4]]) <|
    rec (.h0 (out3 ++ [[ic op_x4, ic kind_x4, .imm (immRs v_x5), ic valueKind_x4, .val (.int .u64 valueBits_x4), ic pos_x4, ic attr_x4]]) t6 t7 (IntKind.i64.wrap (t8 + 1)))
  else
    some out3
noncomputable def step20 (k : Nat) (rec : S20 → Option R20) : S20 → Option R20
  | .e l0 => t20_e k rec l0
  | .h0 out3 t6 t7 t8 => t20_h0 k rec out3 t6 t7 t8
noncomputable def g20 (k : Nat) (l0 : Rs) : Option R20 := itS step20 k (.e l0)
noncomputable def P20 : S20 → R20 → Prop
  | .e l0, r => Fin cx20 Tryz.f20 [.code body20] (fr0 Tryz.f20 [.c (.imm l0)] []) (res20 r) (bx20 r)
  | .h0 out3 t6 t7 t8, r => Fin cx20 Tryz.f20 (kAt body20 [1, 1, 0, 1, 0, 4] []) ⟨rep 3 .deadv ++ [.c (.own 7 out3), .deadv, .deadv, .c (.imm t6), .c (ic t7), .c (ic t8)] ++ rep 13 .deadv, []⟩ (res20 r) (bx20 r)
theorem evr20 {l0 : Rs} {r : R20} (h : P20 (.e l0) r) : Ev Tryz.prog noHand 20 [.c (.imm l0)] [] (res20 r) (bx20 r) := ev_of_fin (fn := Tryz.f20) (body := body20) (by kernel_rfl) (by kernel_rfl) (by kernel_rfl) rfl h
theorem t20_e_ok (k : Nat) (rec : S20 → Option R20) (ih : ∀ s r, rec s = some r → P20 s r) (l0 : Rs) (r : R20) (h : t20_e k rec l0 = some r) : P20 (.e l0) r := by
  unfold t20_e at h
  exact mgo_at (nb := 0) hmix (ih _ _ h) (n := 9) (ad := []) (ps := []) (m := bm 22 4193847) (ls := []) (cs := [(⟨⟨.slot 3, []⟩, 0, 0⟩, some 7)]) (by kernel_rfl) trivial
theorem t20_h0_ok (k : Nat) (rec : S20 → Option R20) (ih : ∀ s r, rec s = some r → P20 s r) (out3 : Rs) (t6 : Rs) (t7 : Int) (t8 : Int) (r : R20) (h : t20_h0 k rec out3 t6 t7 t8 = some r) : P20 (.h0 out3 t6 t7 t8) r := by
  unfold t20_h0 at h
  rcases bif_or h with ⟨h_x1, h⟩ | ⟨h_x1, h⟩
  ·
    obtain ⟨w_x2, h_x3, h⟩ := ixR_or h
    obtain ⟨op_x4, kind_x4, args_x4, valueKind_x4, valueBits_x4, pos_x4, attr_x4, hq, h1'⟩ := un_iimiuii_or h
    clear h; subst hq; have h := h1'; clear h1'
    obtain ⟨v_x5, h_x6, h⟩ := bd_or h
    obtain ⟨h_x7, h⟩ := gd_or h
    exact mgo_at (nb := 0) hmix (ih _ _ h) (n := 15) (ad := [(some 9, .test true), (some 10, .row [ic op_x4, ic kind_x4, .imm args_x4, ic valueKind_x4, .val (.int .u64 valueBits_x4), ic pos_x4, ic attr_x4]), (some 14, .call (.ret (.c (.own 7 v_x5))) [] false), (some 19, .okE false)]) (ps := [_, _, _, _]) (m := bm 22 4193847) (ls := [5]) (cs := []) (by kernel_rfl) ⟨h_x1, ix_row h_x3 rfl, (evr20 (ih _ _ h_x6)), okF [[ic op_x4, ic kind_x4, .imm (immRs v_x5), ic valueKind_x4, .val (.int .u64 valueBits_x4), ic pos_x4, ic attr_x4]] h_x7, trivial⟩
  ·
    rw [← Option.some.inj h]
    exact mgo_fin (nb := 0) hmix (n := 2000) (ad := [(some 9, .test false)]) (ps := [_]) (by kernel_rfl) ⟨h_x1, trivial⟩
theorem ok20 : ∀ k s r, itS step20 k s = some r → P20 s r := itS_ok fun k rec ih s r h => match s, h with
  | .e l0, h => t20_e_ok k rec ih l0 r h
  | .h0 out3 t6 t7 t8, h => t20_h0_ok k rec ih out3 t6 t7 t8 r h
theorem ev20 {k : Nat} {l0 : Rs} {r : R20} (h : g20 k l0 = some r) : Ev Tryz.prog noHand 20 [.c (.imm l0)] [] (res20 r) (bx20 r) := evr20 (ok20 _ _ _ h)
-- auspice/merge.twinBars
inductive S19 where
  | e (l0 : Rs)
  | h0 (out3 : Rs) (t6 : Rs) (t7 : Int) (t8 : Int)
abbrev R19 := Rs
def res19 : R19 → ARes
  | r => .ret (.c (.own 2 r))
def bx19 : R19 → List (List Cell)
  | r => []
noncomputable def t19_e (k : Nat) (rec : S19 → Option R19) (l0 : Rs) : Option R19 :=
  rec (.h0 [] l0 (l0.length : Int) 0)
noncomputable def t19_h0 (k : Nat) (rec : S19 → Option R19) (out3 : Rs) (t6 : Rs) (t7 : Int) (t8 : Int) : Option R19 :=
  bif decide (t8 < t7) then
    ixR t6 t8 fun w_x2 =>
    un_im w_x2 fun type_x4 guards_x4 =>
    (g20 k guards_x4).bind fun v_x5 =>
    gd (apOk 32 2 out3 [[ic type_x4, .imm (immRs v_x5)]]) <|
    rec (.h0 (out3 ++ [[ic type_x4, .imm (immRs v_x5)]]) t6 t7 (IntKind.i64.wrap (t8 + 1)))
  else
    some out3
noncomputable def step19 (k : Nat) (rec : S19 → Option R19) : S19 → Option R19
  | .e l0 => t19_e k rec l0
  | .h0 out3 t6 t7 t8 => t19_h0 k rec out3 t6 t7 t8
noncomputable def g19 (k : Nat) (l0 : Rs) : Option R19 := itS step19 k (.e l0)
noncomputable def P19 : S19 → R19 → Prop
  | .e l0, r => Fin cx19 Tryz.f19 [.code body19] (fr0 Tryz.f19 [.c (.imm l0)] []) (res19 r) (bx19 r)
  | .h0 out3 t6 t7 t8, r => Fin cx19 Tryz.f19 (kAt body19 [1, 1, 0, 1, 0, 4] []) ⟨rep 3 .deadv ++ [.c (.own 2 out3), .deadv, .deadv, .c (.imm t6), .c (ic t7), .c (ic t8)] ++ rep 13 .deadv, []⟩ (res19 r) (bx19 r)
theorem evr19 {l0 : Rs} {r : R19} (h : P19 (.e l0) r) : Ev Tryz.prog noHand 19 [.c (.imm l0)] [] (res19 r) (bx19 r) := ev_of_fin (fn := Tryz.f19) (body := body19) (by kernel_rfl) (by kernel_rfl) (by kernel_rfl) rfl h
theorem t19_e_ok (k : Nat) (rec : S19 → Option R19) (ih : ∀ s r, rec s = some r → P19 s r) (l0 : Rs) (r : R19) (h : t19_e k rec l0 = some r) : P19 (.e l0) r := by
  unfold t19_e at h
  exact mgo_at (nb := 0) hmix (ih _ _ h) (n := 9) (ad := []) (ps := []) (m := bm 22 4193847) (ls := []) (cs := [(⟨⟨.slot 3, []⟩, 0, 0⟩, some 2)]) (by kernel_rfl) trivial
theorem t19_h0_ok (k : Nat) (rec : S19 → Option R19) (ih : ∀ s r, rec s = some r → P19 s r) (out3 : Rs) (t6 : Rs) (t7 : Int) (t8 : Int) (r : R19) (h : t19_h0 k rec out3 t6 t7 t8 = some r) : P19 (.h0 out3 t6 t7 t8) r := by
  unfold t19_h0 at h
  rcases bif_or h with ⟨h_x1, h⟩ | ⟨h_x1, h⟩
  ·
    obtain ⟨w_x2, h_x3, h⟩ := ixR_or h
    obtain ⟨type_x4, guards_x4, hq, h1'⟩ := un_im_or h
    clear h; subst hq; have h := h1'; clear h1'
    obtain ⟨v_x5, h_x6, h⟩ := bd_or h
    obtain ⟨h_x7, h⟩ := gd_or h
    exact mgo_at (nb := 0) hmix (ih _ _ h) (n := 15) (ad := [(some 9, .test true), (some 10, .row [ic type_x4, .imm guards_x4]), (some 14, .call (.ret (.c (.own 7 v_x5))) [] false), (some 19, .okE false)]) (ps := [_, _, _, _]) (m := bm 22 4193847) (ls := [5]) (cs := []) (by kernel_rfl) ⟨h_x1, ix_row h_x3 rfl, (ev20 h_x6), okF [[ic type_x4, .imm (immRs v_x5)]] h_x7, trivial⟩
  ·
    rw [← Option.some.inj h]
    exact mgo_fin (nb := 0) hmix (n := 2000) (ad := [(some 9, .test false)]) (ps := [_]) (by kernel_rfl) ⟨h_x1, trivial⟩
theorem ok19 : ∀ k s r, itS step19 k s = some r → P19 s r := itS_ok fun k rec ih s r h => match s, h with
  | .e l0, h => t19_e_ok k rec ih l0 r h
  | .h0 out3 t6 t7 t8, h => t19_h0_ok k rec ih out3 t6 t7 t8 r h
theorem ev19 {k : Nat} {l0 : Rs} {r : R19} (h : g19 k l0 = some r) : Ev Tryz.prog noHand 19 [.c (.imm l0)] [] (res19 r) (bx19 r) := evr19 (ok19 _ _ _ h)
-- auspice/merge.of
inductive S40 where
  | e (s0_0 : Int) (s0_1 : Int) (s0_2 : Bool) (s0_3 : Int) (s0_4 : Rs) (s0_5 : Rs) (s0_6 : Rs) (s0_7 : Rs)
abbrev R40 := Int × Int × Bool × Int
def res40 : R40 → ARes
  | (r_0, r_1, r_2, r_3) => .ret (.ag [ic r_0, ic r_1, bc r_2, ic r_3])
def bx40 : R40 → List (List Cell)
  | (r_0, r_1, r_2, r_3) => []
noncomputable def t40_e (k : Nat) (rec : S40 → Option R40) (s0_0 : Int) (s0_1 : Int) (s0_2 : Bool) (s0_3 : Int) (s0_4 : Rs) (s0_5 : Rs) (s0_6 : Rs) (s0_7 : Rs) : Option R40 :=
  some (s0_0, s0_1, s0_2, s0_3)
noncomputable def step40 (k : Nat) (rec : S40 → Option R40) : S40 → Option R40
  | .e s0_0 s0_1 s0_2 s0_3 s0_4 s0_5 s0_6 s0_7 => t40_e k rec s0_0 s0_1 s0_2 s0_3 s0_4 s0_5 s0_6 s0_7
noncomputable def g40 (k : Nat) (s0_0 : Int) (s0_1 : Int) (s0_2 : Bool) (s0_3 : Int) (s0_4 : Rs) (s0_5 : Rs) (s0_6 : Rs) (s0_7 : Rs) : Option R40 := itS step40 k (.e s0_0 s0_1 s0_2 s0_3 s0_4 s0_5 s0_6 s0_7)
noncomputable def P40 : S40 → R40 → Prop
  | .e s0_0 s0_1 s0_2 s0_3 s0_4 s0_5 s0_6 s0_7, r => Fin cx40 Tryz.f40 [.code body40] (fr0 Tryz.f40 [.ag [ic s0_0, ic s0_1, bc s0_2, ic s0_3, .imm s0_4, .imm s0_5, .imm s0_6, .imm s0_7]] []) (res40 r) (bx40 r)
theorem evr40 {s0_0 : Int} {s0_1 : Int} {s0_2 : Bool} {s0_3 : Int} {s0_4 : Rs} {s0_5 : Rs} {s0_6 : Rs} {s0_7 : Rs} {r : R40} (h : P40 (.e s0_0 s0_1 s0_2 s0_3 s0_4 s0_5 s0_6 s0_7) r) : Ev Tryz.prog noHand 40 [.ag [ic s0_0, ic s0_1, bc s0_2, ic s0_3, .imm s0_4, .imm s0_5, .imm s0_6, .imm s0_7]] [] (res40 r) (bx40 r) := ev_of_fin (fn := Tryz.f40) (body := body40) (by kernel_rfl) (by kernel_rfl) (by kernel_rfl) rfl h
theorem t40_e_ok (k : Nat) (rec : S40 → Option R40) (ih : ∀ s r, rec s = some r → P40 s r) (s0_0 : Int) (s0_1 : Int) (s0_2 : Bool) (s0_3 : Int) (s0_4 : Rs) (s0_5 : Rs) (s0_6 : Rs) (s0_7 : Rs) (r : R40) (h : t40_e k rec s0_0 s0_1 s0_2 s0_3 s0_4 s0_5 s0_6 s0_7 = some r) : P40 (.e s0_0 s0_1 s0_2 s0_3 s0_4 s0_5 s0_6 s0_7) r := by
  unfold t40_e at h
  rw [← Option.some.inj h]
  exact mgo_fin (nb := 0) hmix (n := 2000) (ad := []) (ps := []) (by kernel_rfl) trivial
theorem ok40 : ∀ k s r, itS step40 k s = some r → P40 s r := itS_ok fun k rec ih s r h => match s, h with
  | .e s0_0 s0_1 s0_2 s0_3 s0_4 s0_5 s0_6 s0_7, h => t40_e_ok k rec ih s0_0 s0_1 s0_2 s0_3 s0_4 s0_5 s0_6 s0_7 r h
theorem ev40 {k : Nat} {s0_0 : Int} {s0_1 : Int} {s0_2 : Bool} {s0_3 : Int} {s0_4 : Rs} {s0_5 : Rs} {s0_6 : Rs} {s0_7 : Rs} {r : R40} (h : g40 k s0_0 s0_1 s0_2 s0_3 s0_4 s0_5 s0_6 s0_7 = some r) : Ev Tryz.prog noHand 40 [.ag [ic s0_0, ic s0_1, bc s0_2, ic s0_3, .imm s0_4, .imm s0_5, .imm s0_6, .imm s0_7]] [] (res40 r) (bx40 r) := evr40 (ok40 _ _ _ h)
-- auspice/merge.bare
inductive S42 where
  | e (s0_0 : Int) (s0_1 : Int) (s0_2 : Bool) (s0_3 : Int) (s0_4 : Rs) (s0_5 : Rs) (s0_6 : Rs) (s0_7 : Rs)
abbrev R42 := Int × Rs
def res42 : R42 → ARes
  | (r_0, r_2) => .ret (.ag [ic r_0, .nil, .own 8 r_2])
def bx42 : R42 → List (List Cell)
  | (r_0, r_2) => []
noncomputable def t42_e (k : Nat) (rec : S42 → Option R42) (s0_0 : Int) (s0_1 : Int) (s0_2 : Bool) (s0_3 : Int) (s0_4 : Rs) (s0_5 : Rs) (s0_6 : Rs) (s0_7 : Rs) : Option R42 :=
  some (0, [[ic s0_0, ic s0_1, bc s0_2, ic s0_3, .imm s0_4, .imm s0_5, .imm s0_6, .nil]])
noncomputable def step42 (k : Nat) (rec : S42 → Option R42) : S42 → Option R42
  | .e s0_0 s0_1 s0_2 s0_3 s0_4 s0_5 s0_6 s0_7 => t42_e k rec s0_0 s0_1 s0_2 s0_3 s0_4 s0_5 s0_6 s0_7
noncomputable def g42 (k : Nat) (s0_0 : Int) (s0_1 : Int) (s0_2 : Bool) (s0_3 : Int) (s0_4 : Rs) (s0_5 : Rs) (s0_6 : Rs) (s0_7 : Rs) : Option R42 := itS step42 k (.e s0_0 s0_1 s0_2 s0_3 s0_4 s0_5 s0_6 s0_7)
noncomputable def P42 : S42 → R42 → Prop
  | .e s0_0 s0_1 s0_2 s0_3 s0_4 s0_5 s0_6 s0_7, r => Fin cx42 Tryz.f42 [.code body42] (fr0 Tryz.f42 [.ag [ic s0_0, ic s0_1, bc s0_2, ic s0_3, .imm s0_4, .imm s0_5, .imm s0_6, .imm s0_7]] []) (res42 r) (bx42 r)
theorem evr42 {s0_0 : Int} {s0_1 : Int} {s0_2 : Bool} {s0_3 : Int} {s0_4 : Rs} {s0_5 : Rs} {s0_6 : Rs} {s0_7 : Rs} {r : R42} (h : P42 (.e s0_0 s0_1 s0_2 s0_3 s0_4 s0_5 s0_6 s0_7) r) : Ev Tryz.prog noHand 42 [.ag [ic s0_0, ic s0_1, bc s0_2, ic s0_3, .imm s0_4, .imm s0_5, .imm s0_6, .imm s0_7]] [] (res42 r) (bx42 r) := ev_of_fin (fn := Tryz.f42) (body := body42) (by kernel_rfl) (by kernel_rfl) (by kernel_rfl) rfl h
theorem t42_e_ok (k : Nat) (rec : S42 → Option R42) (ih : ∀ s r, rec s = some r → P42 s r) (s0_0 : Int) (s0_1 : Int) (s0_2 : Bool) (s0_3 : Int) (s0_4 : Rs) (s0_5 : Rs) (s0_6 : Rs) (s0_7 : Rs) (r : R42) (h : t42_e k rec s0_0 s0_1 s0_2 s0_3 s0_4 s0_5 s0_6 s0_7 = some r) : P42 (.e s0_0 s0_1 s0_2 s0_3 s0_4 s0_5 s0_6 s0_7) r := by
  unfold t42_e at h
  rw [← Option.some.inj h]
  exact mgo_fin (nb := 0) hmix (n := 2000) (ad := []) (ps := []) (by kernel_rfl) trivial
theorem ok42 : ∀ k s r, itS step42 k s = some r → P42 s r := itS_ok fun k rec ih s r h => match s, h with
  | .e s0_0 s0_1 s0_2 s0_3 s0_4 s0_5 s0_6 s0_7, h => t42_e_ok k rec ih s0_0 s0_1 s0_2 s0_3 s0_4 s0_5 s0_6 s0_7 r h
theorem ev42 {k : Nat} {s0_0 : Int} {s0_1 : Int} {s0_2 : Bool} {s0_3 : Int} {s0_4 : Rs} {s0_5 : Rs} {s0_6 : Rs} {s0_7 : Rs} {r : R42} (h : g42 k s0_0 s0_1 s0_2 s0_3 s0_4 s0_5 s0_6 s0_7 = some r) : Ev Tryz.prog noHand 42 [.ag [ic s0_0, ic s0_1, bc s0_2, ic s0_3, .imm s0_4, .imm s0_5, .imm s0_6, .imm s0_7]] [] (res42 r) (bx42 r) := evr42 (ok42 _ _ _ h)
-- slices.Equal[[]int,int]
inductive S65 where
  | e (s10 : Rs) (s21 : Rs)
  | h0 (s10 : Rs) (s21 : Rs) (t12 : Int) (t13 : Int)
abbrev R65 := Bool
def res65 : R65 → ARes
  | r => .ret (.c (bc r))
def bx65 : R65 → List (List Cell)
  | r => []
noncomputable def t65_e (k : Nat) (rec : S65 → Option R65) (s10 : Rs) (s21 : Rs) : Option R65 :=
  bif (s10.length : Int) != (s21.length : Int) then
    some false
  else
    rec (.h0 s10 s21 (s10.length : Int) 0)
noncomputable def t65_h0 (k : Nat) (rec : S65 → Option R65) (s10 : Rs) (s21 : Rs) (t12 : Int) (t13 : Int) : Option R65 :=
  bif decide (t13 < t12) then
    ixR s10 t13 fun w_x2 =>
    un_i w_x2 fun x_x4 =>
    ixR s21 t13 fun w_x5 =>
    un_i w_x5 fun x_x7 =>
    bif x_x4 != x_x7 then
      some false
    else
      rec (.h0 s10 s21 t12 (IntKind.i64.wrap (t13 + 1)))
  else
    some true
noncomputable def step65 (k : Nat) (rec : S65 → Option R65) : S65 → Option R65
  | .e s10 s21 => t65_e k rec s10 s21
  | .h0 s10 s21 t12 t13 => t65_h0 k rec s10 s21 t12 t13
noncomputable def g65 (k : Nat) (s10 : Rs) (s21 : Rs) : Option R65 := itS step65 k (.e s10 s21)
noncomputable def P65 : S65 → R65 → Prop
  | .e s10 s21, r => Fin cx65 Tryz.f65 [.code body65] (fr0 Tryz.f65 [.c (.imm s10), .c (.imm s21)] []) (res65 r) (bx65 r)
  | .h0 s10 s21 t12 t13, r => Fin cx65 Tryz.f65 (kAt body65 [1, 1, 0, 1, 0, 4] []) ⟨[.c (.imm s10), .c (.imm s21)] ++ rep 10 .deadv ++ [.c (ic t12), .c (ic t13)] ++ rep 12 .deadv, []⟩ (res65 r) (bx65 r)
theorem evr65 {s10 : Rs} {s21 : Rs} {r : R65} (h : P65 (.e s10 s21) r) : Ev Tryz.prog noHand 65 [.c (.imm s10), .c (.imm s21)] [] (res65 r) (bx65 r) := ev_of_fin (fn := Tryz.f65) (body := body65) (by kernel_rfl) (by kernel_rfl) (by kernel_rfl) rfl h
theorem t65_e_ok (k : Nat) (rec : S65 → Option R65) (ih : ∀ s r, rec s = some r → P65 s r) (s10 : Rs) (s21 : Rs) (r : R65) (h : t65_e k rec s10 s21 = some r) : P65 (.e s10 s21) r := by
  unfold t65_e at h
  rcases bif_or h with ⟨h_x1, h⟩ | ⟨h_x1, h⟩
  ·
    rw [← Option.some.inj h]
    exact mgo_fin (nb := 0) hmix (n := 2000) (ad := [(some 10, .test true)]) (ps := [_]) (by kernel_rfl) ⟨h_x1, trivial⟩
  ·
    exact mgo_at (nb := 0) hmix (ih _ _ h) (n := 12) (ad := [(some 10, .test false)]) (ps := [_]) (m := bm 26 67096572) (ls := []) (cs := []) (by kernel_rfl) ⟨h_x1, trivial⟩
theorem t65_h0_ok (k : Nat) (rec : S65 → Option R65) (ih : ∀ s r, rec s = some r → P65 s r) (s10 : Rs) (s21 : Rs) (t12 : Int) (t13 : Int) (r : R65) (h : t65_h0 k rec s10 s21 t12 t13 = some r) : P65 (.h0 s10 s21 t12 t13) r := by
  unfold t65_h0 at h
  rcases bif_or h with ⟨h_x1, h⟩ | ⟨h_x1, h⟩
  ·
    obtain ⟨w_x2, h_x3, h⟩ := ixR_or h
    obtain ⟨x_x4, hq, h1'⟩ := un_i_or h
    clear h; subst hq; have h := h1'; clear h1'
    obtain ⟨w_x5, h_x6, h⟩ := ixR_or h
    obtain ⟨x_x7, hq, h1'⟩ := un_i_or h
    clear h; subst hq; have h := h1'; clear h1'
    rcases bif_or h with ⟨h_x8, h⟩ | ⟨h_x8, h⟩
    ·
      rw [← Option.some.inj h]
      exact mgo_fin (nb := 0) hmix (n := 2000) (ad := [(some 14, .test true), (some 18, .row [ic x_x4]), (some 22, .row [ic x_x7]), (some 24, .test true)]) (ps := [_, _, _, _]) (by kernel_rfl) ⟨h_x1, ix_row h_x3 rfl, ix_row h_x6 rfl, h_x8, trivial⟩
    ·
      exact mgo_at (nb := 0) hmix (ih _ _ h) (n := 16) (ad := [(some 14, .test true), (some 18, .row [ic x_x4]), (some 22, .row [ic x_x7]), (some 24, .test false)]) (ps := [_, _, _, _]) (m := bm 26 67096572) (ls := []) (cs := []) (by kernel_rfl) ⟨h_x1, ix_row h_x3 rfl, ix_row h_x6 rfl, h_x8, trivial⟩
  ·
    rw [← Option.some.inj h]
    exact mgo_fin (nb := 0) hmix (n := 2000) (ad := [(some 14, .test false)]) (ps := [_]) (by kernel_rfl) ⟨h_x1, trivial⟩
theorem ok65 : ∀ k s r, itS step65 k s = some r → P65 s r := itS_ok fun k rec ih s r h => match s, h with
  | .e s10 s21, h => t65_e_ok k rec ih s10 s21 r h
  | .h0 s10 s21 t12 t13, h => t65_h0_ok k rec ih s10 s21 t12 t13 r h
theorem ev65 {k : Nat} {s10 : Rs} {s21 : Rs} {r : R65} (h : g65 k s10 s21 = some r) : Ev Tryz.prog noHand 65 [.c (.imm s10), .c (.imm s21)] [] (res65 r) (bx65 r) := evr65 (ok65 _ _ _ h)
-- auspice/auto.nodes, slices.EqualFunc[[]auspice/api.Node,[]auspice/api.Node,auspice/api.Node,auspice/api.Node], auspice/auto.nodes$1
inductive S69 where
  | e_69 (a0 : Rs) (b1 : Rs)
  | e_89 (s10 : Rs) (s21 : Rs)
  | h0_89 (s21 : Rs) (t15 : Rs) (t16 : Int) (t17 : Int)
  | e_90 (x0_0 : Int) (x0_1 : Int) (x0_2 : Rs) (x0_3 : Int) (x0_4 : Int) (x0_5 : Int) (x0_6 : Int) (y1_0 : Int) (y1_1 : Int) (y1_2 : Rs) (y1_3 : Int) (y1_4 : Int) (y1_5 : Int) (y1_6 : Int)
abbrev R69 := Bool
def res69 : R69 → ARes
  | r => .ret (.c (bc r))
def bx69 : R69 → List (List Cell)
  | r => []
noncomputable def t69_e (k : Nat) (rec : S69 → Option R69) (a0 : Rs) (b1 : Rs) : Option R69 :=
  (rec (.e_89 a0 b1)).bind fun v_x1 =>
  some v_x1
def res89 : R69 → ARes
  | r => .ret (.c (bc r))
def bx89 : R69 → List (List Cell)
  | r => []
noncomputable def t89_e (k : Nat) (rec : S69 → Option R69) (s10 : Rs) (s21 : Rs) : Option R69 :=
  bif (s10.length : Int) != (s21.length : Int) then
    some false
  else
    rec (.h0_89 s21 s10 (s10.length : Int) 0)
noncomputable def t89_h0 (k : Nat) (rec : S69 → Option R69) (s21 : Rs) (t15 : Rs) (t16 : Int) (t17 : Int) : Option R69 :=
  bif decide (t17 < t16) then
    ixR t15 t17 fun w_x2 =>
    un_iimiuii w_x2 fun op_x4 kind_x4 args_x4 valueKind_x4 valueBits_x4 pos_x4 attr_x4 =>
    ixR s21 t17 fun w_x5 =>
    un_iimiuii w_x5 fun op_x7 kind_x7 args_x7 valueKind_x7 valueBits_x7 pos_x7 attr_x7 =>
    (rec (.e_90 op_x4 kind_x4 args_x4 valueKind_x4 valueBits_x4 pos_x4 attr_x4 op_x7 kind_x7 args_x7 valueKind_x7 valueBits_x7 pos_x7 attr_x7)).bind fun v_x8 =>
    bif !v_x8 then
      some false
    else
      rec (.h0_89 s21 t15 t16 (IntKind.i64.wrap (t17 + 1)))
  else
    some true
def res90 : R69 → ARes
  | r => .ret (.c (bc r))
def bx90 : R69 → List (List Cell)
  | r => []
noncomputable def t90_e (k : Nat) (rec : S69 → Option R69) (x0_0 : Int) (x0_1 : Int) (x0_2 : Rs) (x0_3 : Int) (x0_4 : Int) (x0_5 : Int) (x0_6 : Int) (y1_0 : Int) (y1_1 : Int) (y1_2 : Rs) (y1_3 : Int) (y1_4 : Int) (y1_5 : Int) (y1_6 : Int) : Option R69 :=
  bif x0_0 == y1_0 then
    bif x0_1 == y1_1 then
      bif (x0_3 == y1_3 && (x0_4 == y1_4 && true)) then
        bif x0_5 == y1_5 then
          bif x0_6 == y1_6 then
            (rec (.e_69 x0_2 y1_2)).bind fun v_x6 =>
            some v_x6
          else
            some false
        else
          some false
      else
        some false
    else
      some false
  else
    some false
noncomputable def step69 (k : Nat) (rec : S69 → Option R69) : S69 → Option R69
  | .e_69 a0 b1 => t69_e k rec a0 b1
  | .e_89 s10 s21 => t89_e k rec s10 s21
  | .h0_89 s21 t15 t16 t17 => t89_h0 k rec s21 t15 t16 t17
  | .e_90 x0_0 x0_1 x0_2 x0_3 x0_4 x0_5 x0_6 y1_0 y1_1 y1_2 y1_3 y1_4 y1_5 y1_6 => t90_e k rec x0_0 x0_1 x0_2 x0_3 x0_4 x0_5 x0_6 y1_0 y1_1 y1_2 y1_3 y1_4 y1_5 y1_6
noncomputable def g69 (k : Nat) (a0 : Rs) (b1 : Rs) : Option R69 := itS step69 k (.e_69 a0 b1)
noncomputable def g89 (k : Nat) (s10 : Rs) (s21 : Rs) : Option R69 := itS step69 k (.e_89 s10 s21)
noncomputable def g90 (k : Nat) (x0_0 : Int) (x0_1 : Int) (x0_2 : Rs) (x0_3 : Int) (x0_4 : Int) (x0_5 : Int) (x0_6 : Int) (y1_0 : Int) (y1_1 : Int) (y1_2 : Rs) (y1_3 : Int) (y1_4 : Int) (y1_5 : Int) (y1_6 : Int) : Option R69 := itS step69 k (.e_90 x0_0 x0_1 x0_2 x0_3 x0_4 x0_5 x0_6 y1_0 y1_1 y1_2 y1_3 y1_4 y1_5 y1_6)
noncomputable def P69 : S69 → R69 → Prop
  | .e_69 a0 b1, r => Fin cx69 Tryz.f69 [.code body69] (fr0 Tryz.f69 [.c (.imm a0), .c (.imm b1)] []) (res69 r) (bx69 r)
  | .e_89 s10 s21, r => Fin cx89 Tryz.f89 [.code body89] (fr0 Tryz.f89 [.c (.imm s10), .c (.imm s21), .c (.clo 90 [] [])] []) (res89 r) (bx89 r)
  | .h0_89 s21 t15 t16 t17, r => Fin cx89 Tryz.f89 (kAt body89 [1, 1, 0, 1, 0, 4] []) ⟨[.deadv, .c (.imm s21), .c (.clo 90 [] [])] ++ rep 12 .deadv ++ [.c (.imm t15), .c (ic t16), .c (ic t17)] ++ rep 14 .deadv, []⟩ (res89 r) (bx89 r)
  | .e_90 x0_0 x0_1 x0_2 x0_3 x0_4 x0_5 x0_6 y1_0 y1_1 y1_2 y1_3 y1_4 y1_5 y1_6, r => Fin cx90 Tryz.f90 [.code body90] (fr0 Tryz.f90 [.ag [ic x0_0, ic x0_1, .imm x0_2, ic x0_3, .val (.int .u64 x0_4), ic x0_5, ic x0_6], .ag [ic y1_0, ic y1_1, .imm y1_2, ic y1_3, .val (.int .u64 y1_4), ic y1_5, ic y1_6]] []) (res90 r) (bx90 r)
theorem evr69 {a0 : Rs} {b1 : Rs} {r : R69} (h : P69 (.e_69 a0 b1) r) : Ev Tryz.prog noHand 69 [.c (.imm a0), .c (.imm b1)] [] (res69 r) (bx69 r) := ev_of_fin (fn := Tryz.f69) (body := body69) (by kernel_rfl) (by kernel_rfl) (by kernel_rfl) rfl h
theorem evr89 {s10 : Rs} {s21 : Rs} {r : R69} (h : P69 (.e_89 s10 s21) r) : Ev Tryz.prog noHand 89 [.c (.imm s10), .c (.imm s21), .c (.clo 90 [] [])] [] (res89 r) (bx89 r) := ev_of_fin (fn := Tryz.f89) (body := body89) (by kernel_rfl) (by kernel_rfl) (by kernel_rfl) rfl h
theorem evr90 {x0_0 : Int} {x0_1 : Int} {x0_2 : Rs} {x0_3 : Int} {x0_4 : Int} {x0_5 : Int} {x0_6 : Int} {y1_0 : Int} {y1_1 : Int} {y1_2 : Rs} {y1_3 : Int} {y1_4 : Int} {y1_5 : Int} {y1_6 : Int} {r : R69} (h : P69 (.e_90 x0_0 x0_1 x0_2 x0_3 x0_4 x0_5 x0_6 y1_0 y1_1 y1_2 y1_3 y1_4 y1_5 y1_6) r) : Ev Tryz.prog noHand 90 [.ag [ic x0_0, ic x0_1, .imm x0_2, ic x0_3, .val (.int .u64 x0_4), ic x0_5, ic x0_6], .ag [ic y1_0, ic y1_1, .imm y1_2, ic y1_3, .val (.int .u64 y1_4), ic y1_5, ic y1_6]] [] (res90 r) (bx90 r) := ev_of_fin (fn := Tryz.f90) (body := body90) (by kernel_rfl) (by kernel_rfl) (by kernel_rfl) rfl h
theorem t69_e_ok (k : Nat) (rec : S69 → Option R69) (ih : ∀ s r, rec s = some r → P69 s r) (a0 : Rs) (b1 : Rs) (r : R69) (h : t69_e k rec a0 b1 = some r) : P69 (.e_69 a0 b1) r := by
  unfold t69_e at h
  obtain ⟨v_x1, h_x2, h⟩ := bd_or h
  rw [← Option.some.inj h]
  exact mgo_fin (nb := 0) hmix (n := 2000) (ad := [(some 7, .call (.ret (.c (bc v_x1))) [] false)]) (ps := [_]) (by kernel_rfl) ⟨(evr89 (ih _ _ h_x2)), trivial⟩
theorem t89_e_ok (k : Nat) (rec : S69 → Option R69) (ih : ∀ s r, rec s = some r → P69 s r) (s10 : Rs) (s21 : Rs) (r : R69) (h : t89_e k rec s10 s21 = some r) : P69 (.e_89 s10 s21) r := by
  unfold t89_e at h
  rcases bif_or h with ⟨h_x1, h⟩ | ⟨h_x1, h⟩
  ·
    rw [← Option.some.inj h]
    exact mgo_fin (nb := 0) hmix (n := 2000) (ad := [(some 14, .test true)]) (ps := [_]) (by kernel_rfl) ⟨h_x1, trivial⟩
  ·
    exact mgo_at (nb := 0) hmix (ih _ _ h) (n := 12) (ad := [(some 14, .test false)]) (ps := [_]) (m := bm 32 4294737913) (ls := []) (cs := []) (by kernel_rfl) ⟨h_x1, trivial⟩
theorem t89_h0_ok (k : Nat) (rec : S69 → Option R69) (ih : ∀ s r, rec s = some r → P69 s r) (s21 : Rs) (t15 : Rs) (t16 : Int) (t17 : Int) (r : R69) (h : t89_h0 k rec s21 t15 t16 t17 = some r) : P69 (.h0_89 s21 t15 t16 t17) r := by
  unfold t89_h0 at h
  rcases bif_or h with ⟨h_x1, h⟩ | ⟨h_x1, h⟩
  ·
    obtain ⟨w_x2, h_x3, h⟩ := ixR_or h
    obtain ⟨op_x4, kind_x4, args_x4, valueKind_x4, valueBits_x4, pos_x4, attr_x4, hq, h1'⟩ := un_iimiuii_or h
    clear h; subst hq; have h := h1'; clear h1'
    obtain ⟨w_x5, h_x6, h⟩ := ixR_or h
    obtain ⟨op_x7, kind_x7, args_x7, valueKind_x7, valueBits_x7, pos_x7, attr_x7, hq, h1'⟩ := un_iimiuii_or h
    clear h; subst hq; have h := h1'; clear h1'
    obtain ⟨v_x8, h_x9, h⟩ := bd_or h
    rcases bif_or h with ⟨h_x10, h⟩ | ⟨h_x10, h⟩
    ·
      rw [← Option.some.inj h]
      exact mgo_fin (nb := 0) hmix (n := 2000) (ad := [(some 18, .test true), (some 20, .row [ic op_x4, ic kind_x4, .imm args_x4, ic valueKind_x4, .val (.int .u64 valueBits_x4), ic pos_x4, ic attr_x4]), (some 24, .row [ic op_x7, ic kind_x7, .imm args_x7, ic valueKind_x7, .val (.int .u64 valueBits_x7), ic pos_x7, ic attr_x7]), (some 29, .call (.ret (.c (bc v_x8))) [] false), (some 30, .test true)]) (ps := [_, _, _, _, _]) (by kernel_rfl) ⟨h_x1, ix_row h_x3 rfl, ix_row h_x6 rfl, (evr90 (ih _ _ h_x9)), h_x10, trivial⟩
    ·
      exact mgo_at (nb := 0) hmix (ih _ _ h) (n := 18) (ad := [(some 18, .test true), (some 20, .row [ic op_x4, ic kind_x4, .imm args_x4, ic valueKind_x4, .val (.int .u64 valueBits_x4), ic pos_x4, ic attr_x4]), (some 24, .row [ic op_x7, ic kind_x7, .imm args_x7, ic valueKind_x7, .val (.int .u64 valueBits_x7), ic pos_x7, ic attr_x7]), (some 29, .call (.ret (.c (bc v_x8))) [] false), (some 30, .test false)]) (ps := [_, _, _, _, _]) (m := bm 32 4294737913) (ls := [9, 8]) (cs := []) (by kernel_rfl) ⟨h_x1, ix_row h_x3 rfl, ix_row h_x6 rfl, (evr90 (ih _ _ h_x9)), h_x10, trivial⟩
  ·
    rw [← Option.some.inj h]
    exact mgo_fin (nb := 0) hmix (n := 2000) (ad := [(some 18, .test false)]) (ps := [_]) (by kernel_rfl) ⟨h_x1, trivial⟩
theorem t90_e_ok (k : Nat) (rec : S69 → Option R69) (ih : ∀ s r, rec s = some r → P69 s r) (x0_0 : Int) (x0_1 : Int) (x0_2 : Rs) (x0_3 : Int) (x0_4 : Int) (x0_5 : Int) (x0_6 : Int) (y1_0 : Int) (y1_1 : Int) (y1_2 : Rs) (y1_3 : Int) (y1_4 : Int) (y1_5 : Int) (y1_6 : Int) (r : R69) (h : t90_e k rec x0_0 x0_1 x0_2 x0_3 x0_4 x0_5 x0_6 y1_0 y1_1 y1_2 y1_3 y1_4 y1_5 y1_6 = some r) : P69 (.e_90 x0_0 x0_1 x0_2 x0_3 x0_4 x0_5 x0_6 y1_0 y1_1 y1_2 y1_3 y1_4 y1_5 y1_6) r := by
  unfold t90_e at h
  rcases bif_or h with ⟨h_x1, h⟩ | ⟨h_x1, h⟩
  ·
    rcases bif_or h with ⟨h_x2, h⟩ | ⟨h_x2, h⟩
    ·
      rcases bif_or h with ⟨h_x3, h⟩ | ⟨h_x3, h⟩
      ·
        rcases bif_or h with ⟨h_x4, h⟩ | ⟨h_x4, h⟩
        ·
          rcases bif_or h with ⟨h_x5, h⟩ | ⟨h_x5, h⟩
          ·
            obtain ⟨v_x6, h_x7, h⟩ := bd_or h
            rw [← Option.some.inj h]
            exact mgo_fin (nb := 0) hmix (n := 2000) (ad := [(some 9, .test true), (some 15, .test true), (some 22, .test true), (some 29, .test true), (some 36, .test true), (some 43, .call (.ret (.c (bc v_x6))) [] false)]) (ps := [_, _, _, _, _, _]) (by kernel_rfl) ⟨h_x1, h_x2, h_x3, h_x4, h_x5, (evr69 (ih _ _ h_x7)), trivial⟩
          ·
            rw [← Option.some.inj h]
            exact mgo_fin (nb := 0) hmix (n := 2000) (ad := [(some 9, .test true), (some 15, .test true), (some 22, .test true), (some 29, .test true), (some 36, .test false)]) (ps := [_, _, _, _, _]) (by kernel_rfl) ⟨h_x1, h_x2, h_x3, h_x4, h_x5, trivial⟩
        ·
          rw [← Option.some.inj h]
          exact mgo_fin (nb := 0) hmix (n := 2000) (ad := [(some 9, .test true), (some 15, .test true), (some 22, .test true), (some 29, .test false)]) (ps := [_, _, _, _]) (by kernel_rfl) ⟨h_x1, h_x2, h_x3, h_x4, trivial⟩
      ·
        rw [← Option.some.inj h]
        exact mgo_fin (nb := 0) hmix (n := 2000) (ad := [(some 9, .test true), (some 15, .test true), (some 22, .test false)]) (ps := [_, _, _]) (by kernel_rfl) ⟨h_x1, h_x2, h_x3, trivial⟩
    ·
      rw [← Option.some.inj h]
      exact mgo_fin (nb := 0) hmix (n := 2000) (ad := [(some 9, .test true), (some 15, .test false)]) (ps := [_, _]) (by kernel_rfl) ⟨h_x1, h_x2, trivial⟩
  ·
    rw [← Option.some.inj h]
    exact mgo_fin (nb := 0) hmix (n := 2000) (ad := [(some 9, .test false)]) (ps := [_]) (by kernel_rfl) ⟨h_x1, trivial⟩
theorem ok69 : ∀ k s r, itS step69 k s = some r → P69 s r := itS_ok fun k rec ih s r h => match s, h with
  | .e_69 a0 b1, h => t69_e_ok k rec ih a0 b1 r h
  | .e_89 s10 s21, h => t89_e_ok k rec ih s10 s21 r h
  | .h0_89 s21 t15 t16 t17, h => t89_h0_ok k rec ih s21 t15 t16 t17 r h
  | .e_90 x0_0 x0_1 x0_2 x0_3 x0_4 x0_5 x0_6 y1_0 y1_1 y1_2 y1_3 y1_4 y1_5 y1_6, h => t90_e_ok k rec ih x0_0 x0_1 x0_2 x0_3 x0_4 x0_5 x0_6 y1_0 y1_1 y1_2 y1_3 y1_4 y1_5 y1_6 r h
theorem ev69 {k : Nat} {a0 : Rs} {b1 : Rs} {r : R69} (h : g69 k a0 b1 = some r) : Ev Tryz.prog noHand 69 [.c (.imm a0), .c (.imm b1)] [] (res69 r) (bx69 r) := evr69 (ok69 _ _ _ h)
theorem ev89 {k : Nat} {s10 : Rs} {s21 : Rs} {r : R69} (h : g89 k s10 s21 = some r) : Ev Tryz.prog noHand 89 [.c (.imm s10), .c (.imm s21), .c (.clo 90 [] [])] [] (res89 r) (bx89 r) := evr89 (ok69 _ _ _ h)
theorem ev90 {k : Nat} {x0_0 : Int} {x0_1 : Int} {x0_2 : Rs} {x0_3 : Int} {x0_4 : Int} {x0_5 : Int} {x0_6 : Int} {y1_0 : Int} {y1_1 : Int} {y1_2 : Rs} {y1_3 : Int} {y1_4 : Int} {y1_5 : Int} {y1_6 : Int} {r : R69} (h : g90 k x0_0 x0_1 x0_2 x0_3 x0_4 x0_5 x0_6 y1_0 y1_1 y1_2 y1_3 y1_4 y1_5 y1_6 = some r) : Ev Tryz.prog noHand 90 [.ag [ic x0_0, ic x0_1, .imm x0_2, ic x0_3, .val (.int .u64 x0_4), ic x0_5, ic x0_6], .ag [ic y1_0, ic y1_1, .imm y1_2, ic y1_3, .val (.int .u64 y1_4), ic y1_5, ic y1_6]] [] (res90 r) (bx90 r) := evr90 (ok69 _ _ _ h)
-- auspice/auto.bars$1
inductive S88 where
  | e (x0_0 : Int) (x0_1 : Rs) (y1_0 : Int) (y1_1 : Rs)
abbrev R88 := Bool
def res88 : R88 → ARes
  | r => .ret (.c (bc r))
def bx88 : R88 → List (List Cell)
  | r => []
noncomputable def t88_e (k : Nat) (rec : S88 → Option R88) (x0_0 : Int) (x0_1 : Rs) (y1_0 : Int) (y1_1 : Rs) : Option R88 :=
  bif x0_0 == y1_0 then
    (g69 k x0_1 y1_1).bind fun v_x2 =>
    some v_x2
  else
    some false
noncomputable def step88 (k : Nat) (rec : S88 → Option R88) : S88 → Option R88
  | .e x0_0 x0_1 y1_0 y1_1 => t88_e k rec x0_0 x0_1 y1_0 y1_1
noncomputable def g88 (k : Nat) (x0_0 : Int) (x0_1 : Rs) (y1_0 : Int) (y1_1 : Rs) : Option R88 := itS step88 k (.e x0_0 x0_1 y1_0 y1_1)
noncomputable def P88 : S88 → R88 → Prop
  | .e x0_0 x0_1 y1_0 y1_1, r => Fin cx88 Tryz.f88 [.code body88] (fr0 Tryz.f88 [.ag [ic x0_0, .imm x0_1], .ag [ic y1_0, .imm y1_1]] []) (res88 r) (bx88 r)
theorem evr88 {x0_0 : Int} {x0_1 : Rs} {y1_0 : Int} {y1_1 : Rs} {r : R88} (h : P88 (.e x0_0 x0_1 y1_0 y1_1) r) : Ev Tryz.prog noHand 88 [.ag [ic x0_0, .imm x0_1], .ag [ic y1_0, .imm y1_1]] [] (res88 r) (bx88 r) := ev_of_fin (fn := Tryz.f88) (body := body88) (by kernel_rfl) (by kernel_rfl) (by kernel_rfl) rfl h
theorem t88_e_ok (k : Nat) (rec : S88 → Option R88) (ih : ∀ s r, rec s = some r → P88 s r) (x0_0 : Int) (x0_1 : Rs) (y1_0 : Int) (y1_1 : Rs) (r : R88) (h : t88_e k rec x0_0 x0_1 y1_0 y1_1 = some r) : P88 (.e x0_0 x0_1 y1_0 y1_1) r := by
  unfold t88_e at h
  rcases bif_or h with ⟨h_x1, h⟩ | ⟨h_x1, h⟩
  ·
    obtain ⟨v_x2, h_x3, h⟩ := bd_or h
    rw [← Option.some.inj h]
    exact mgo_fin (nb := 0) hmix (n := 2000) (ad := [(some 9, .test true), (some 15, .call (.ret (.c (bc v_x2))) [] false)]) (ps := [_, _]) (by kernel_rfl) ⟨h_x1, (ev69 h_x3), trivial⟩
  ·
    rw [← Option.some.inj h]
    exact mgo_fin (nb := 0) hmix (n := 2000) (ad := [(some 9, .test false)]) (ps := [_]) (by kernel_rfl) ⟨h_x1, trivial⟩
theorem ok88 : ∀ k s r, itS step88 k s = some r → P88 s r := itS_ok fun k rec ih s r h => match s, h with
  | .e x0_0 x0_1 y1_0 y1_1, h => t88_e_ok k rec ih x0_0 x0_1 y1_0 y1_1 r h
theorem ev88 {k : Nat} {x0_0 : Int} {x0_1 : Rs} {y1_0 : Int} {y1_1 : Rs} {r : R88} (h : g88 k x0_0 x0_1 y1_0 y1_1 = some r) : Ev Tryz.prog noHand 88 [.ag [ic x0_0, .imm x0_1], .ag [ic y1_0, .imm y1_1]] [] (res88 r) (bx88 r) := evr88 (ok88 _ _ _ h)
-- slices.EqualFunc[[]auspice/api.Bar,[]auspice/api.Bar,auspice/api.Bar,auspice/api.Bar]
inductive S87 where
  | e (s10 : Rs) (s21 : Rs)
  | h0 (s21 : Rs) (t15 : Rs) (t16 : Int) (t17 : Int)
abbrev R87 := Bool
def res87 : R87 → ARes
  | r => .ret (.c (bc r))
def bx87 : R87 → List (List Cell)
  | r => []
noncomputable def t87_e (k : Nat) (rec : S87 → Option R87) (s10 : Rs) (s21 : Rs) : Option R87 :=
  bif (s10.length : Int) != (s21.length : Int) then
    some false
  else
    rec (.h0 s21 s10 (s10.length : Int) 0)
noncomputable def t87_h0 (k : Nat) (rec : S87 → Option R87) (s21 : Rs) (t15 : Rs) (t16 : Int) (t17 : Int) : Option R87 :=
  bif decide (t17 < t16) then
    ixR t15 t17 fun w_x2 =>
    un_im w_x2 fun type_x4 guards_x4 =>
    ixR s21 t17 fun w_x5 =>
    un_im w_x5 fun type_x7 guards_x7 =>
    (g88 k type_x4 guards_x4 type_x7 guards_x7).bind fun v_x8 =>
    bif !v_x8 then
      some false
    else
      rec (.h0 s21 t15 t16 (IntKind.i64.wrap (t17 + 1)))
  else
    some true
noncomputable def step87 (k : Nat) (rec : S87 → Option R87) : S87 → Option R87
  | .e s10 s21 => t87_e k rec s10 s21
  | .h0 s21 t15 t16 t17 => t87_h0 k rec s21 t15 t16 t17
noncomputable def g87 (k : Nat) (s10 : Rs) (s21 : Rs) : Option R87 := itS step87 k (.e s10 s21)
noncomputable def P87 : S87 → R87 → Prop
  | .e s10 s21, r => Fin cx87 Tryz.f87 [.code body87] (fr0 Tryz.f87 [.c (.imm s10), .c (.imm s21), .c (.clo 88 [] [])] []) (res87 r) (bx87 r)
  | .h0 s21 t15 t16 t17, r => Fin cx87 Tryz.f87 (kAt body87 [1, 1, 0, 1, 0, 4] []) ⟨[.deadv, .c (.imm s21), .c (.clo 88 [] [])] ++ rep 12 .deadv ++ [.c (.imm t15), .c (ic t16), .c (ic t17)] ++ rep 14 .deadv, []⟩ (res87 r) (bx87 r)
theorem evr87 {s10 : Rs} {s21 : Rs} {r : R87} (h : P87 (.e s10 s21) r) : Ev Tryz.prog noHand 87 [.c (.imm s10), .c (.imm s21), .c (.clo 88 [] [])] [] (res87 r) (bx87 r) := ev_of_fin (fn := Tryz.f87) (body := body87) (by kernel_rfl) (by kernel_rfl) (by kernel_rfl) rfl h
theorem t87_e_ok (k : Nat) (rec : S87 → Option R87) (ih : ∀ s r, rec s = some r → P87 s r) (s10 : Rs) (s21 : Rs) (r : R87) (h : t87_e k rec s10 s21 = some r) : P87 (.e s10 s21) r := by
  unfold t87_e at h
  rcases bif_or h with ⟨h_x1, h⟩ | ⟨h_x1, h⟩
  ·
    rw [← Option.some.inj h]
    exact mgo_fin (nb := 0) hmix (n := 2000) (ad := [(some 14, .test true)]) (ps := [_]) (by kernel_rfl) ⟨h_x1, trivial⟩
  ·
    exact mgo_at (nb := 0) hmix (ih _ _ h) (n := 12) (ad := [(some 14, .test false)]) (ps := [_]) (m := bm 32 4294737913) (ls := []) (cs := []) (by kernel_rfl) ⟨h_x1, trivial⟩
theorem t87_h0_ok (k : Nat) (rec : S87 → Option R87) (ih : ∀ s r, rec s = some r → P87 s r) (s21 : Rs) (t15 : Rs) (t16 : Int) (t17 : Int) (r : R87) (h : t87_h0 k rec s21 t15 t16 t17 = some r) : P87 (.h0 s21 t15 t16 t17) r := by
  unfold t87_h0 at h
  rcases bif_or h with ⟨h_x1, h⟩ | ⟨h_x1, h⟩
  ·
    obtain ⟨w_x2, h_x3, h⟩ := ixR_or h
    obtain ⟨type_x4, guards_x4, hq, h1'⟩ := un_im_or h
    clear h; subst hq; have h := h1'; clear h1'
    obtain ⟨w_x5, h_x6, h⟩ := ixR_or h
    obtain ⟨type_x7, guards_x7, hq, h1'⟩ := un_im_or h
    clear h; subst hq; have h := h1'; clear h1'
    obtain ⟨v_x8, h_x9, h⟩ := bd_or h
    rcases bif_or h with ⟨h_x10, h⟩ | ⟨h_x10, h⟩
    ·
      rw [← Option.some.inj h]
      exact mgo_fin (nb := 0) hmix (n := 2000) (ad := [(some 18, .test true), (some 20, .row [ic type_x4, .imm guards_x4]), (some 24, .row [ic type_x7, .imm guards_x7]), (some 29, .call (.ret (.c (bc v_x8))) [] false), (some 30, .test true)]) (ps := [_, _, _, _, _]) (by kernel_rfl) ⟨h_x1, ix_row h_x3 rfl, ix_row h_x6 rfl, (ev88 h_x9), h_x10, trivial⟩
    ·
      exact mgo_at (nb := 0) hmix (ih _ _ h) (n := 18) (ad := [(some 18, .test true), (some 20, .row [ic type_x4, .imm guards_x4]), (some 24, .row [ic type_x7, .imm guards_x7]), (some 29, .call (.ret (.c (bc v_x8))) [] false), (some 30, .test false)]) (ps := [_, _, _, _, _]) (m := bm 32 4294737913) (ls := [9, 8]) (cs := []) (by kernel_rfl) ⟨h_x1, ix_row h_x3 rfl, ix_row h_x6 rfl, (ev88 h_x9), h_x10, trivial⟩
  ·
    rw [← Option.some.inj h]
    exact mgo_fin (nb := 0) hmix (n := 2000) (ad := [(some 18, .test false)]) (ps := [_]) (by kernel_rfl) ⟨h_x1, trivial⟩
theorem ok87 : ∀ k s r, itS step87 k s = some r → P87 s r := itS_ok fun k rec ih s r h => match s, h with
  | .e s10 s21, h => t87_e_ok k rec ih s10 s21 r h
  | .h0 s21 t15 t16 t17, h => t87_h0_ok k rec ih s21 t15 t16 t17 r h
theorem ev87 {k : Nat} {s10 : Rs} {s21 : Rs} {r : R87} (h : g87 k s10 s21 = some r) : Ev Tryz.prog noHand 87 [.c (.imm s10), .c (.imm s21), .c (.clo 88 [] [])] [] (res87 r) (bx87 r) := evr87 (ok87 _ _ _ h)
-- auspice/auto.bars
inductive S68 where
  | e (a0 : Rs) (b1 : Rs)
abbrev R68 := Bool
def res68 : R68 → ARes
  | r => .ret (.c (bc r))
def bx68 : R68 → List (List Cell)
  | r => []
noncomputable def t68_e (k : Nat) (rec : S68 → Option R68) (a0 : Rs) (b1 : Rs) : Option R68 :=
  (g87 k a0 b1).bind fun v_x1 =>
  some v_x1
noncomputable def step68 (k : Nat) (rec : S68 → Option R68) : S68 → Option R68
  | .e a0 b1 => t68_e k rec a0 b1
noncomputable def g68 (k : Nat) (a0 : Rs) (b1 : Rs) : Option R68 := itS step68 k (.e a0 b1)
noncomputable def P68 : S68 → R68 → Prop
  | .e a0 b1, r => Fin cx68 Tryz.f68 [.code body68] (fr0 Tryz.f68 [.c (.imm a0), .c (.imm b1)] []) (res68 r) (bx68 r)
theorem evr68 {a0 : Rs} {b1 : Rs} {r : R68} (h : P68 (.e a0 b1) r) : Ev Tryz.prog noHand 68 [.c (.imm a0), .c (.imm b1)] [] (res68 r) (bx68 r) := ev_of_fin (fn := Tryz.f68) (body := body68) (by kernel_rfl) (by kernel_rfl) (by kernel_rfl) rfl h
theorem t68_e_ok (k : Nat) (rec : S68 → Option R68) (ih : ∀ s r, rec s = some r → P68 s r) (a0 : Rs) (b1 : Rs) (r : R68) (h : t68_e k rec a0 b1 = some r) : P68 (.e a0 b1) r := by
  unfold t68_e at h
  obtain ⟨v_x1, h_x2, h⟩ := bd_or h
  rw [← Option.some.inj h]
  exact mgo_fin (nb := 0) hmix (n := 2000) (ad := [(some 7, .call (.ret (.c (bc v_x1))) [] false)]) (ps := [_]) (by kernel_rfl) ⟨(ev87 h_x2), trivial⟩
theorem ok68 : ∀ k s r, itS step68 k s = some r → P68 s r := itS_ok fun k rec ih s r h => match s, h with
  | .e a0 b1, h => t68_e_ok k rec ih a0 b1 r h
theorem ev68 {k : Nat} {a0 : Rs} {b1 : Rs} {r : R68} (h : g68 k a0 b1 = some r) : Ev Tryz.prog noHand 68 [.c (.imm a0), .c (.imm b1)] [] (res68 r) (bx68 r) := evr68 (ok68 _ _ _ h)
-- auspice/auto.Same$1$1
inductive S71 where
  | e (e0_0 : Int) (e0_1 : Rs) (e0_2 : Rs) (f1_0 : Int) (f1_1 : Rs) (f1_2 : Rs)
abbrev R71 := Bool
def res71 : R71 → ARes
  | r => .ret (.c (bc r))
def bx71 : R71 → List (List Cell)
  | r => []
noncomputable def t71_e (k : Nat) (rec : S71 → Option R71) (e0_0 : Int) (e0_1 : Rs) (e0_2 : Rs) (f1_0 : Int) (f1_1 : Rs) (f1_2 : Rs) : Option R71 :=
  bif e0_0 == f1_0 then
    (g69 k e0_1 f1_1).bind fun v_x2 =>
    bif v_x2 then
      (g68 k e0_2 f1_2).bind fun v_x4 =>
      some v_x4
    else
      some false
  else
    some false
noncomputable def step71 (k : Nat) (rec : S71 → Option R71) : S71 → Option R71
  | .e e0_0 e0_1 e0_2 f1_0 f1_1 f1_2 => t71_e k rec e0_0 e0_1 e0_2 f1_0 f1_1 f1_2
noncomputable def g71 (k : Nat) (e0_0 : Int) (e0_1 : Rs) (e0_2 : Rs) (f1_0 : Int) (f1_1 : Rs) (f1_2 : Rs) : Option R71 := itS step71 k (.e e0_0 e0_1 e0_2 f1_0 f1_1 f1_2)
noncomputable def P71 : S71 → R71 → Prop
  | .e e0_0 e0_1 e0_2 f1_0 f1_1 f1_2, r => Fin cx71 Tryz.f71 [.code body71] (fr0 Tryz.f71 [.ag [ic e0_0, .imm e0_1, .imm e0_2], .ag [ic f1_0, .imm f1_1, .imm f1_2]] []) (res71 r) (bx71 r)
theorem evr71 {e0_0 : Int} {e0_1 : Rs} {e0_2 : Rs} {f1_0 : Int} {f1_1 : Rs} {f1_2 : Rs} {r : R71} (h : P71 (.e e0_0 e0_1 e0_2 f1_0 f1_1 f1_2) r) : Ev Tryz.prog noHand 71 [.ag [ic e0_0, .imm e0_1, .imm e0_2], .ag [ic f1_0, .imm f1_1, .imm f1_2]] [] (res71 r) (bx71 r) := ev_of_fin (fn := Tryz.f71) (body := body71) (by kernel_rfl) (by kernel_rfl) (by kernel_rfl) rfl h
theorem t71_e_ok (k : Nat) (rec : S71 → Option R71) (ih : ∀ s r, rec s = some r → P71 s r) (e0_0 : Int) (e0_1 : Rs) (e0_2 : Rs) (f1_0 : Int) (f1_1 : Rs) (f1_2 : Rs) (r : R71) (h : t71_e k rec e0_0 e0_1 e0_2 f1_0 f1_1 f1_2 = some r) : P71 (.e e0_0 e0_1 e0_2 f1_0 f1_1 f1_2) r := by
  unfold t71_e at h
  rcases bif_or h with ⟨h_x1, h⟩ | ⟨h_x1, h⟩
  ·
    obtain ⟨v_x2, h_x3, h⟩ := bd_or h
    rcases bif_or h with ⟨hq, h1'⟩ | ⟨hq, h1'⟩
    · clear h; subst hq; have h := h1'; clear h1'
      obtain ⟨v_x4, h_x5, h⟩ := bd_or h
      rw [← Option.some.inj h]
      exact mgo_fin (nb := 0) hmix (n := 2000) (ad := [(some 9, .test true), (some 15, .call (.ret (.c (bc true))) [] false), (some 22, .call (.ret (.c (bc v_x4))) [] false)]) (ps := [_, _, _]) (by kernel_rfl) ⟨h_x1, (ev69 h_x3), (ev68 h_x5), trivial⟩
    · clear h; subst hq; have h := h1'; clear h1'
      rw [← Option.some.inj h]
      exact mgo_fin (nb := 0) hmix (n := 2000) (ad := [(some 9, .test true), (some 15, .call (.ret (.c (bc false))) [] false)]) (ps := [_, _]) (by kernel_rfl) ⟨h_x1, (ev69 h_x3), trivial⟩
  ·
    rw [← Option.some.inj h]
    exact mgo_fin (nb := 0) hmix (n := 2000) (ad := [(some 9, .test false)]) (ps := [_]) (by kernel_rfl) ⟨h_x1, trivial⟩
theorem ok71 : ∀ k s r, itS step71 k s = some r → P71 s r := itS_ok fun k rec ih s r h => match s, h with
  | .e e0_0 e0_1 e0_2 f1_0 f1_1 f1_2, h => t71_e_ok k rec ih e0_0 e0_1 e0_2 f1_0 f1_1 f1_2 r h
theorem ev71 {k : Nat} {e0_0 : Int} {e0_1 : Rs} {e0_2 : Rs} {f1_0 : Int} {f1_1 : Rs} {f1_2 : Rs} {r : R71} (h : g71 k e0_0 e0_1 e0_2 f1_0 f1_1 f1_2 = some r) : Ev Tryz.prog noHand 71 [.ag [ic e0_0, .imm e0_1, .imm e0_2], .ag [ic f1_0, .imm f1_1, .imm f1_2]] [] (res71 r) (bx71 r) := evr71 (ok71 _ _ _ h)
-- slices.EqualFunc[[]auspice/api.End,[]auspice/api.End,auspice/api.End,auspice/api.End]
inductive S70 where
  | e (s10 : Rs) (s21 : Rs)
  | h0 (s21 : Rs) (t15 : Rs) (t16 : Int) (t17 : Int)
abbrev R70 := Bool
def res70 : R70 → ARes
  | r => .ret (.c (bc r))
def bx70 : R70 → List (List Cell)
  | r => []
noncomputable def t70_e (k : Nat) (rec : S70 → Option R70) (s10 : Rs) (s21 : Rs) : Option R70 :=
  bif (s10.length : Int) != (s21.length : Int) then
    some false
  else
    rec (.h0 s21 s10 (s10.length : Int) 0)
noncomputable def t70_h0 (k : Nat) (rec : S70 → Option R70) (s21 : Rs) (t15 : Rs) (t16 : Int) (t17 : Int) : Option R70 :=
  bif decide (t17 < t16) then
    ixR t15 t17 fun w_x2 =>
    un_imm w_x2 fun branch_x4 closes_x4 bars_x4 =>
    ixR s21 t17 fun w_x5 =>
    un_imm w_x5 fun branch_x7 closes_x7 bars_x7 =>
    (g71 k branch_x4 closes_x4 bars_x4 branch_x7 closes_x7 bars_x7).bind fun v_x8 =>
    bif !v_x8 then
      some false
    else
      rec (.h0 s21 t15 t16 (IntKind.i64.wrap (t17 + 1)))
  else
    some true
noncomputable def step70 (k : Nat) (rec : S70 → Option R70) : S70 → Option R70
  | .e s10 s21 => t70_e k rec s10 s21
  | .h0 s21 t15 t16 t17 => t70_h0 k rec s21 t15 t16 t17
noncomputable def g70 (k : Nat) (s10 : Rs) (s21 : Rs) : Option R70 := itS step70 k (.e s10 s21)
noncomputable def P70 : S70 → R70 → Prop
  | .e s10 s21, r => Fin cx70 Tryz.f70 [.code body70] (fr0 Tryz.f70 [.c (.imm s10), .c (.imm s21), .c (.clo 71 [] [])] []) (res70 r) (bx70 r)
  | .h0 s21 t15 t16 t17, r => Fin cx70 Tryz.f70 (kAt body70 [1, 1, 0, 1, 0, 4] []) ⟨[.deadv, .c (.imm s21), .c (.clo 71 [] [])] ++ rep 12 .deadv ++ [.c (.imm t15), .c (ic t16), .c (ic t17)] ++ rep 14 .deadv, []⟩ (res70 r) (bx70 r)
theorem evr70 {s10 : Rs} {s21 : Rs} {r : R70} (h : P70 (.e s10 s21) r) : Ev Tryz.prog noHand 70 [.c (.imm s10), .c (.imm s21), .c (.clo 71 [] [])] [] (res70 r) (bx70 r) := ev_of_fin (fn := Tryz.f70) (body := body70) (by kernel_rfl) (by kernel_rfl) (by kernel_rfl) rfl h
theorem t70_e_ok (k : Nat) (rec : S70 → Option R70) (ih : ∀ s r, rec s = some r → P70 s r) (s10 : Rs) (s21 : Rs) (r : R70) (h : t70_e k rec s10 s21 = some r) : P70 (.e s10 s21) r := by
  unfold t70_e at h
  rcases bif_or h with ⟨h_x1, h⟩ | ⟨h_x1, h⟩
  ·
    rw [← Option.some.inj h]
    exact mgo_fin (nb := 0) hmix (n := 2000) (ad := [(some 14, .test true)]) (ps := [_]) (by kernel_rfl) ⟨h_x1, trivial⟩
  ·
    exact mgo_at (nb := 0) hmix (ih _ _ h) (n := 12) (ad := [(some 14, .test false)]) (ps := [_]) (m := bm 32 4294737913) (ls := []) (cs := []) (by kernel_rfl) ⟨h_x1, trivial⟩
theorem t70_h0_ok (k : Nat) (rec : S70 → Option R70) (ih : ∀ s r, rec s = some r → P70 s r) (s21 : Rs) (t15 : Rs) (t16 : Int) (t17 : Int) (r : R70) (h : t70_h0 k rec s21 t15 t16 t17 = some r) : P70 (.h0 s21 t15 t16 t17) r := by
  unfold t70_h0 at h
  rcases bif_or h with ⟨h_x1, h⟩ | ⟨h_x1, h⟩
  ·
    obtain ⟨w_x2, h_x3, h⟩ := ixR_or h
    obtain ⟨branch_x4, closes_x4, bars_x4, hq, h1'⟩ := un_imm_or h
    clear h; subst hq; have h := h1'; clear h1'
    obtain ⟨w_x5, h_x6, h⟩ := ixR_or h
    obtain ⟨branch_x7, closes_x7, bars_x7, hq, h1'⟩ := un_imm_or h
    clear h; subst hq; have h := h1'; clear h1'
    obtain ⟨v_x8, h_x9, h⟩ := bd_or h
    rcases bif_or h with ⟨h_x10, h⟩ | ⟨h_x10, h⟩
    ·
      rw [← Option.some.inj h]
      exact mgo_fin (nb := 0) hmix (n := 2000) (ad := [(some 18, .test true), (some 20, .row [ic branch_x4, .imm closes_x4, .imm bars_x4]), (some 24, .row [ic branch_x7, .imm closes_x7, .imm bars_x7]), (some 29, .call (.ret (.c (bc v_x8))) [] false), (some 30, .test true)]) (ps := [_, _, _, _, _]) (by kernel_rfl) ⟨h_x1, ix_row h_x3 rfl, ix_row h_x6 rfl, (ev71 h_x9), h_x10, trivial⟩
    ·
      exact mgo_at (nb := 0) hmix (ih _ _ h) (n := 18) (ad := [(some 18, .test true), (some 20, .row [ic branch_x4, .imm closes_x4, .imm bars_x4]), (some 24, .row [ic branch_x7, .imm closes_x7, .imm bars_x7]), (some 29, .call (.ret (.c (bc v_x8))) [] false), (some 30, .test false)]) (ps := [_, _, _, _, _]) (m := bm 32 4294737913) (ls := [9, 8]) (cs := []) (by kernel_rfl) ⟨h_x1, ix_row h_x3 rfl, ix_row h_x6 rfl, (ev71 h_x9), h_x10, trivial⟩
  ·
    rw [← Option.some.inj h]
    exact mgo_fin (nb := 0) hmix (n := 2000) (ad := [(some 18, .test false)]) (ps := [_]) (by kernel_rfl) ⟨h_x1, trivial⟩
theorem ok70 : ∀ k s r, itS step70 k s = some r → P70 s r := itS_ok fun k rec ih s r h => match s, h with
  | .e s10 s21, h => t70_e_ok k rec ih s10 s21 r h
  | .h0 s21 t15 t16 t17, h => t70_h0_ok k rec ih s21 t15 t16 t17 r h
theorem ev70 {k : Nat} {s10 : Rs} {s21 : Rs} {r : R70} (h : g70 k s10 s21 = some r) : Ev Tryz.prog noHand 70 [.c (.imm s10), .c (.imm s21), .c (.clo 71 [] [])] [] (res70 r) (bx70 r) := evr70 (ok70 _ _ _ h)
-- auspice/auto.Same$1
inductive S67 where
  | e (x0_0 : Int) (x0_1 : Int) (x0_2 : Bool) (x0_3 : Int) (x0_4 : Rs) (x0_5 : Rs) (x0_6 : Rs) (x0_7 : Rs) (y1_0 : Int) (y1_1 : Int) (y1_2 : Bool) (y1_3 : Int) (y1_4 : Rs) (y1_5 : Rs) (y1_6 : Rs) (y1_7 : Rs)
abbrev R67 := Bool
def res67 : R67 → ARes
  | r => .ret (.c (bc r))
def bx67 : R67 → List (List Cell)
  | r => []
noncomputable def t67_e (k : Nat) (rec : S67 → Option R67) (x0_0 : Int) (x0_1 : Int) (x0_2 : Bool) (x0_3 : Int) (x0_4 : Rs) (x0_5 : Rs) (x0_6 : Rs) (x0_7 : Rs) (y1_0 : Int) (y1_1 : Int) (y1_2 : Bool) (y1_3 : Int) (y1_4 : Rs) (y1_5 : Rs) (y1_6 : Rs) (y1_7 : Rs) : Option R67 :=
  bif x0_0 == y1_0 then
    bif x0_1 == y1_1 then
      bif x0_2 == y1_2 then
        bif x0_3 == y1_3 then
          (g68 k x0_4 y1_4).bind fun v_x5 =>
          bif v_x5 then
            (g69 k x0_5 y1_5).bind fun v_x7 =>
            bif v_x7 then
              (g69 k x0_6 y1_6).bind fun v_x9 =>
              bif v_x9 then
                (g70 k x0_7 y1_7).bind fun v_x11 =>
                some v_x11
              else
                some false
            else
              some false
          else
            some false
        else
          some false
      else
        some false
    else
      some false
  else
    some false
noncomputable def step67 (k : Nat) (rec : S67 → Option R67) : S67 → Option R67
  | .e x0_0 x0_1 x0_2 x0_3 x0_4 x0_5 x0_6 x0_7 y1_0 y1_1 y1_2 y1_3 y1_4 y1_5 y1_6 y1_7 => t67_e k rec x0_0 x0_1 x0_2 x0_3 x0_4 x0_5 x0_6 x0_7 y1_0 y1_1 y1_2 y1_3 y1_4 y1_5 y1_6 y1_7
noncomputable def g67 (k : Nat) (x0_0 : Int) (x0_1 : Int) (x0_2 : Bool) (x0_3 : Int) (x0_4 : Rs) (x0_5 : Rs) (x0_6 : Rs) (x0_7 : Rs) (y1_0 : Int) (y1_1 : Int) (y1_2 : Bool) (y1_3 : Int) (y1_4 : Rs) (y1_5 : Rs) (y1_6 : Rs) (y1_7 : Rs) : Option R67 := itS step67 k (.e x0_0 x0_1 x0_2 x0_3 x0_4 x0_5 x0_6 x0_7 y1_0 y1_1 y1_2 y1_3 y1_4 y1_5 y1_6 y1_7)
noncomputable def P67 : S67 → R67 → Prop
  | .e x0_0 x0_1 x0_2 x0_3 x0_4 x0_5 x0_6 x0_7 y1_0 y1_1 y1_2 y1_3 y1_4 y1_5 y1_6 y1_7, r => Fin cx67 Tryz.f67 [.code body67] (fr0 Tryz.f67 [.ag [ic x0_0, ic x0_1, bc x0_2, ic x0_3, .imm x0_4, .imm x0_5, .imm x0_6, .imm x0_7], .ag [ic y1_0, ic y1_1, bc y1_2, ic y1_3, .imm y1_4, .imm y1_5, .imm y1_6, .imm y1_7]] []) (res67 r) (bx67 r)
theorem evr67 {x0_0 : Int} {x0_1 : Int} {x0_2 : Bool} {x0_3 : Int} {x0_4 : Rs} {x0_5 : Rs} {x0_6 : Rs} {x0_7 : Rs} {y1_0 : Int} {y1_1 : Int} {y1_2 : Bool} {y1_3 : Int} {y1_4 : Rs} {y1_5 : Rs} {y1_6 : Rs} {y1_7 : Rs} {r : R67} (h : P67 (.e x0_0 x0_1 x0_2 x0_3 x0_4 x0_5 x0_6 x0_7 y1_0 y1_1 y1_2 y1_3 y1_4 y1_5 y1_6 y1_7) r) : Ev Tryz.prog noHand 67 [.ag [ic x0_0, ic x0_1, bc x0_2, ic x0_3, .imm x0_4, .imm x0_5, .imm x0_6, .imm x0_7], .ag [ic y1_0, ic y1_1, bc y1_2, ic y1_3, .imm y1_4, .imm y1_5, .imm y1_6, .imm y1_7]] [] (res67 r) (bx67 r) := ev_of_fin (fn := Tryz.f67) (body := body67) (by kernel_rfl) (by kernel_rfl) (by kernel_rfl) rfl h
theorem t67_e_ok (k : Nat) (rec : S67 → Option R67) (ih : ∀ s r, rec s = some r → P67 s r) (x0_0 : Int) (x0_1 : Int) (x0_2 : Bool) (x0_3 : Int) (x0_4 : Rs) (x0_5 : Rs) (x0_6 : Rs) (x0_7 : Rs) (y1_0 : Int) (y1_1 : Int) (y1_2 : Bool) (y1_3 : Int) (y1_4 : Rs) (y1_5 : Rs) (y1_6 : Rs) (y1_7 : Rs) (r : R67) (h : t67_e k rec x0_0 x0_1 x0_2 x0_3 x0_4 x0_5 x0_6 x0_7 y1_0 y1_1 y1_2 y1_3 y1_4 y1_5 y1_6 y1_7 = some r) : P67 (.e x0_0 x0_1 x0_2 x0_3 x0_4 x0_5 x0_6 x0_7 y1_0 y1_1 y1_2 y1_3 y1_4 y1_5 y1_6 y1_7) r := by
  unfold t67_e at h
  rcases bif_or h with ⟨h_x1, h⟩ | ⟨h_x1, h⟩
  ·
    rcases bif_or h with ⟨h_x2, h⟩ | ⟨h_x2, h⟩
    ·
      rcases bif_or h with ⟨h_x3, h⟩ | ⟨h_x3, h⟩
      ·
        rcases bif_or h with ⟨h_x4, h⟩ | ⟨h_x4, h⟩
        ·
          obtain ⟨v_x5, h_x6, h⟩ := bd_or h
          rcases bif_or h with ⟨hq, h1'⟩ | ⟨hq, h1'⟩
          · clear h; subst hq; have h := h1'; clear h1'
            obtain ⟨v_x7, h_x8, h⟩ := bd_or h
            rcases bif_or h with ⟨hq, h1'⟩ | ⟨hq, h1'⟩
            · clear h; subst hq; have h := h1'; clear h1'
              obtain ⟨v_x9, h_x10, h⟩ := bd_or h
              rcases bif_or h with ⟨hq, h1'⟩ | ⟨hq, h1'⟩
              · clear h; subst hq; have h := h1'; clear h1'
                obtain ⟨v_x11, h_x12, h⟩ := bd_or h
                rw [← Option.some.inj h]
                exact mgo_fin (nb := 0) hmix (n := 2000) (ad := [(some 9, .test true), (some 15, .test true), (some 22, .test true), (some 29, .test true), (some 36, .call (.ret (.c (bc true))) [] false), (some 43, .call (.ret (.c (bc true))) [] false), (some 50, .call (.ret (.c (bc true))) [] false), (some 57, .call (.ret (.c (bc v_x11))) [] false)]) (ps := [_, _, _, _, _, _, _, _]) (by kernel_rfl) ⟨h_x1, h_x2, h_x3, h_x4, (ev68 h_x6), (ev69 h_x8), (ev69 h_x10), (ev70 h_x12), trivial⟩
              · clear h; subst hq; have h := h1'; clear h1'
                rw [← Option.some.inj h]
                exact mgo_fin (nb := 0) hmix (n := 2000) (ad := [(some 9, .test true), (some 15, .test true), (some 22, .test true), (some 29, .test true), (some 36, .call (.ret (.c (bc true))) [] false), (some 43, .call (.ret (.c (bc true))) [] false), (some 50, .call (.ret (.c (bc false))) [] false)]) (ps := [_, _, _, _, _, _, _]) (by kernel_rfl) ⟨h_x1, h_x2, h_x3, h_x4, (ev68 h_x6), (ev69 h_x8), (ev69 h_x10), trivial⟩
            · clear h; subst hq; have h := h1'; clear h1'
              rw [← Option.some.inj h]
              exact mgo_fin (nb := 0) hmix (n := 2000) (ad := [(some 9, .test true), (some 15, .test true), (some 22, .test true), (some 29, .test true), (some 36, .call (.ret (.c (bc true))) [] false), (some 43, .call (.ret (.c (bc false))) [] false)]) (ps := [_, _, _, _, _, _]) (by kernel_rfl) ⟨h_x1, h_x2, h_x3, h_x4, (ev68 h_x6), (ev69 h_x8), trivial⟩
          · clear h; subst hq; have h := h1'; clear h1'
            rw [← Option.some.inj h]
            exact mgo_fin (nb := 0) hmix (n := 2000) (ad := [(some 9, .test true), (some 15, .test true), (some 22, .test true), (some 29, .test true), (some 36, .call (.ret (.c (bc false))) [] false)]) (ps := [_, _, _, _, _]) (by kernel_rfl) ⟨h_x1, h_x2, h_x3, h_x4, (ev68 h_x6), trivial⟩
        ·
          rw [← Option.some.inj h]
          exact mgo_fin (nb := 0) hmix (n := 2000) (ad := [(some 9, .test true), (some 15, .test true), (some 22, .test true), (some 29, .test false)]) (ps := [_, _, _, _]) (by kernel_rfl) ⟨h_x1, h_x2, h_x3, h_x4, trivial⟩
      ·
        rw [← Option.some.inj h]
        exact mgo_fin (nb := 0) hmix (n := 2000) (ad := [(some 9, .test true), (some 15, .test true), (some 22, .test false)]) (ps := [_, _, _]) (by kernel_rfl) ⟨h_x1, h_x2, h_x3, trivial⟩
    ·
      rw [← Option.some.inj h]
      exact mgo_fin (nb := 0) hmix (n := 2000) (ad := [(some 9, .test true), (some 15, .test false)]) (ps := [_, _]) (by kernel_rfl) ⟨h_x1, h_x2, trivial⟩
  ·
    rw [← Option.some.inj h]
    exact mgo_fin (nb := 0) hmix (n := 2000) (ad := [(some 9, .test false)]) (ps := [_]) (by kernel_rfl) ⟨h_x1, trivial⟩
theorem ok67 : ∀ k s r, itS step67 k s = some r → P67 s r := itS_ok fun k rec ih s r h => match s, h with
  | .e x0_0 x0_1 x0_2 x0_3 x0_4 x0_5 x0_6 x0_7 y1_0 y1_1 y1_2 y1_3 y1_4 y1_5 y1_6 y1_7, h => t67_e_ok k rec ih x0_0 x0_1 x0_2 x0_3 x0_4 x0_5 x0_6 x0_7 y1_0 y1_1 y1_2 y1_3 y1_4 y1_5 y1_6 y1_7 r h
theorem ev67 {k : Nat} {x0_0 : Int} {x0_1 : Int} {x0_2 : Bool} {x0_3 : Int} {x0_4 : Rs} {x0_5 : Rs} {x0_6 : Rs} {x0_7 : Rs} {y1_0 : Int} {y1_1 : Int} {y1_2 : Bool} {y1_3 : Int} {y1_4 : Rs} {y1_5 : Rs} {y1_6 : Rs} {y1_7 : Rs} {r : R67} (h : g67 k x0_0 x0_1 x0_2 x0_3 x0_4 x0_5 x0_6 x0_7 y1_0 y1_1 y1_2 y1_3 y1_4 y1_5 y1_6 y1_7 = some r) : Ev Tryz.prog noHand 67 [.ag [ic x0_0, ic x0_1, bc x0_2, ic x0_3, .imm x0_4, .imm x0_5, .imm x0_6, .imm x0_7], .ag [ic y1_0, ic y1_1, bc y1_2, ic y1_3, .imm y1_4, .imm y1_5, .imm y1_6, .imm y1_7]] [] (res67 r) (bx67 r) := evr67 (ok67 _ _ _ h)
-- slices.EqualFunc[[]auspice/api.State,[]auspice/api.State,auspice/api.State,auspice/api.State]
inductive S66 where
  | e (s10 : Rs) (s21 : Rs)
  | h0 (s21 : Rs) (t15 : Rs) (t16 : Int) (t17 : Int)
abbrev R66 := Bool
def res66 : R66 → ARes
  | r => .ret (.c (bc r))
def bx66 : R66 → List (List Cell)
  | r => []
noncomputable def t66_e (k : Nat) (rec : S66 → Option R66) (s10 : Rs) (s21 : Rs) : Option R66 :=
  bif (s10.length : Int) != (s21.length : Int) then
    some false
  else
    rec (.h0 s21 s10 (s10.length : Int) 0)
noncomputable def t66_h0 (k : Nat) (rec : S66 → Option R66) (s21 : Rs) (t15 : Rs) (t16 : Int) (t17 : Int) : Option R66 :=
  bif decide (t17 < t16) then
    ixR t15 t17 fun w_x2 =>
    un_iibim4 w_x2 fun parent_x4 type_x4 many_x4 window_x4 bars_x4 leaves_x4 guards_x4 ends_x4 =>
    ixR s21 t17 fun w_x5 =>
    un_iibim4 w_x5 fun parent_x7 type_x7 many_x7 window_x7 bars_x7 leaves_x7 guards_x7 ends_x7 =>
    (g67 k parent_x4 type_x4 many_x4 window_x4 bars_x4 leaves_x4 guards_x4 ends_x4 parent_x7 type_x7 many_x7 window_x7 bars_x7 leaves_x7 guards_x7 ends_x7).bind fun v_x8 =>
    bif !v_x8 then
      some false
    else
      rec (.h0 s21 t15 t16 (IntKind.i64.wrap (t17 + 1)))
  else
    some true
noncomputable def step66 (k : Nat) (rec : S66 → Option R66) : S66 → Option R66
  | .e s10 s21 => t66_e k rec s10 s21
  | .h0 s21 t15 t16 t17 => t66_h0 k rec s21 t15 t16 t17
noncomputable def g66 (k : Nat) (s10 : Rs) (s21 : Rs) : Option R66 := itS step66 k (.e s10 s21)
noncomputable def P66 : S66 → R66 → Prop
  | .e s10 s21, r => Fin cx66 Tryz.f66 [.code body66] (fr0 Tryz.f66 [.c (.imm s10), .c (.imm s21), .c (.clo 67 [] [])] []) (res66 r) (bx66 r)
  | .h0 s21 t15 t16 t17, r => Fin cx66 Tryz.f66 (kAt body66 [1, 1, 0, 1, 0, 4] []) ⟨[.deadv, .c (.imm s21), .c (.clo 67 [] [])] ++ rep 12 .deadv ++ [.c (.imm t15), .c (ic t16), .c (ic t17)] ++ rep 14 .deadv, []⟩ (res66 r) (bx66 r)
theorem evr66 {s10 : Rs} {s21 : Rs} {r : R66} (h : P66 (.e s10 s21) r) : Ev Tryz.prog noHand 66 [.c (.imm s10), .c (.imm s21), .c (.clo 67 [] [])] [] (res66 r) (bx66 r) := ev_of_fin (fn := Tryz.f66) (body := body66) (by kernel_rfl) (by kernel_rfl) (by kernel_rfl) rfl h
theorem t66_e_ok (k : Nat) (rec : S66 → Option R66) (ih : ∀ s r, rec s = some r → P66 s r) (s10 : Rs) (s21 : Rs) (r : R66) (h : t66_e k rec s10 s21 = some r) : P66 (.e s10 s21) r := by
  unfold t66_e at h
  rcases bif_or h with ⟨h_x1, h⟩ | ⟨h_x1, h⟩
  ·
    rw [← Option.some.inj h]
    exact mgo_fin (nb := 0) hmix (n := 2000) (ad := [(some 14, .test true)]) (ps := [_]) (by kernel_rfl) ⟨h_x1, trivial⟩
  ·
    exact mgo_at (nb := 0) hmix (ih _ _ h) (n := 12) (ad := [(some 14, .test false)]) (ps := [_]) (m := bm 32 4294737913) (ls := []) (cs := []) (by kernel_rfl) ⟨h_x1, trivial⟩
theorem t66_h0_ok (k : Nat) (rec : S66 → Option R66) (ih : ∀ s r, rec s = some r → P66 s r) (s21 : Rs) (t15 : Rs) (t16 : Int) (t17 : Int) (r : R66) (h : t66_h0 k rec s21 t15 t16 t17 = some r) : P66 (.h0 s21 t15 t16 t17) r := by
  unfold t66_h0 at h
  rcases bif_or h with ⟨h_x1, h⟩ | ⟨h_x1, h⟩
  ·
    obtain ⟨w_x2, h_x3, h⟩ := ixR_or h
    obtain ⟨parent_x4, type_x4, many_x4, window_x4, bars_x4, leaves_x4, guards_x4, ends_x4, hq, h1'⟩ := un_iibim4_or h
    clear h; subst hq; have h := h1'; clear h1'
    obtain ⟨w_x5, h_x6, h⟩ := ixR_or h
    obtain ⟨parent_x7, type_x7, many_x7, window_x7, bars_x7, leaves_x7, guards_x7, ends_x7, hq, h1'⟩ := un_iibim4_or h
    clear h; subst hq; have h := h1'; clear h1'
    obtain ⟨v_x8, h_x9, h⟩ := bd_or h
    rcases bif_or h with ⟨h_x10, h⟩ | ⟨h_x10, h⟩
    ·
      rw [← Option.some.inj h]
      exact mgo_fin (nb := 0) hmix (n := 2000) (ad := [(some 18, .test true), (some 20, .row [ic parent_x4, ic type_x4, bc many_x4, ic window_x4, .imm bars_x4, .imm leaves_x4, .imm guards_x4, .imm ends_x4]), (some 24, .row [ic parent_x7, ic type_x7, bc many_x7, ic window_x7, .imm bars_x7, .imm leaves_x7, .imm guards_x7, .imm ends_x7]), (some 29, .call (.ret (.c (bc v_x8))) [] false), (some 30, .test true)]) (ps := [_, _, _, _, _]) (by kernel_rfl) ⟨h_x1, ix_row h_x3 rfl, ix_row h_x6 rfl, (ev67 h_x9), h_x10, trivial⟩
    ·
      exact mgo_at (nb := 0) hmix (ih _ _ h) (n := 18) (ad := [(some 18, .test true), (some 20, .row [ic parent_x4, ic type_x4, bc many_x4, ic window_x4, .imm bars_x4, .imm leaves_x4, .imm guards_x4, .imm ends_x4]), (some 24, .row [ic parent_x7, ic type_x7, bc many_x7, ic window_x7, .imm bars_x7, .imm leaves_x7, .imm guards_x7, .imm ends_x7]), (some 29, .call (.ret (.c (bc v_x8))) [] false), (some 30, .test false)]) (ps := [_, _, _, _, _]) (m := bm 32 4294737913) (ls := [9, 8]) (cs := []) (by kernel_rfl) ⟨h_x1, ix_row h_x3 rfl, ix_row h_x6 rfl, (ev67 h_x9), h_x10, trivial⟩
  ·
    rw [← Option.some.inj h]
    exact mgo_fin (nb := 0) hmix (n := 2000) (ad := [(some 18, .test false)]) (ps := [_]) (by kernel_rfl) ⟨h_x1, trivial⟩
theorem ok66 : ∀ k s r, itS step66 k s = some r → P66 s r := itS_ok fun k rec ih s r h => match s, h with
  | .e s10 s21, h => t66_e_ok k rec ih s10 s21 r h
  | .h0 s21 t15 t16 t17, h => t66_h0_ok k rec ih s21 t15 t16 t17 r h
theorem ev66 {k : Nat} {s10 : Rs} {s21 : Rs} {r : R66} (h : g66 k s10 s21 = some r) : Ev Tryz.prog noHand 66 [.c (.imm s10), .c (.imm s21), .c (.clo 67 [] [])] [] (res66 r) (bx66 r) := evr66 (ok66 _ _ _ h)
-- auspice/auto.Same
inductive S41 where
  | e (a0_0 : Int) (a0_1 : Rs) (a0_2 : Rs) (b1_0 : Int) (b1_1 : Rs) (b1_2 : Rs)
abbrev R41 := Bool
def res41 : R41 → ARes
  | r => .ret (.c (bc r))
def bx41 : R41 → List (List Cell)
  | r => []
noncomputable def t41_e (k : Nat) (rec : S41 → Option R41) (a0_0 : Int) (a0_1 : Rs) (a0_2 : Rs) (b1_0 : Int) (b1_1 : Rs) (b1_2 : Rs) : Option R41 :=
  bif a0_0 == b1_0 then
    (g65 k a0_1 b1_1).bind fun v_x2 =>
    bif v_x2 then
      (g66 k a0_2 b1_2).bind fun v_x4 =>
      some v_x4
    else
      some false
  else
    some false
noncomputable def step41 (k : Nat) (rec : S41 → Option R41) : S41 → Option R41
  | .e a0_0 a0_1 a0_2 b1_0 b1_1 b1_2 => t41_e k rec a0_0 a0_1 a0_2 b1_0 b1_1 b1_2
noncomputable def g41 (k : Nat) (a0_0 : Int) (a0_1 : Rs) (a0_2 : Rs) (b1_0 : Int) (b1_1 : Rs) (b1_2 : Rs) : Option R41 := itS step41 k (.e a0_0 a0_1 a0_2 b1_0 b1_1 b1_2)
noncomputable def P41 : S41 → R41 → Prop
  | .e a0_0 a0_1 a0_2 b1_0 b1_1 b1_2, r => Fin cx41 Tryz.f41 [.code body41] (fr0 Tryz.f41 [.ag [ic a0_0, .imm a0_1, .imm a0_2], .ag [ic b1_0, .imm b1_1, .imm b1_2]] []) (res41 r) (bx41 r)
theorem evr41 {a0_0 : Int} {a0_1 : Rs} {a0_2 : Rs} {b1_0 : Int} {b1_1 : Rs} {b1_2 : Rs} {r : R41} (h : P41 (.e a0_0 a0_1 a0_2 b1_0 b1_1 b1_2) r) : Ev Tryz.prog noHand 41 [.ag [ic a0_0, .imm a0_1, .imm a0_2], .ag [ic b1_0, .imm b1_1, .imm b1_2]] [] (res41 r) (bx41 r) := ev_of_fin (fn := Tryz.f41) (body := body41) (by kernel_rfl) (by kernel_rfl) (by kernel_rfl) rfl h
theorem t41_e_ok (k : Nat) (rec : S41 → Option R41) (ih : ∀ s r, rec s = some r → P41 s r) (a0_0 : Int) (a0_1 : Rs) (a0_2 : Rs) (b1_0 : Int) (b1_1 : Rs) (b1_2 : Rs) (r : R41) (h : t41_e k rec a0_0 a0_1 a0_2 b1_0 b1_1 b1_2 = some r) : P41 (.e a0_0 a0_1 a0_2 b1_0 b1_1 b1_2) r := by
  unfold t41_e at h
  rcases bif_or h with ⟨h_x1, h⟩ | ⟨h_x1, h⟩
  ·
    obtain ⟨v_x2, h_x3, h⟩ := bd_or h
    rcases bif_or h with ⟨hq, h1'⟩ | ⟨hq, h1'⟩
    · clear h; subst hq; have h := h1'; clear h1'
      obtain ⟨v_x4, h_x5, h⟩ := bd_or h
      rw [← Option.some.inj h]
      exact mgo_fin (nb := 0) hmix (n := 2000) (ad := [(some 9, .test true), (some 15, .call (.ret (.c (bc true))) [] false), (some 22, .call (.ret (.c (bc v_x4))) [] false)]) (ps := [_, _, _]) (by kernel_rfl) ⟨h_x1, (ev65 h_x3), (ev66 h_x5), trivial⟩
    · clear h; subst hq; have h := h1'; clear h1'
      rw [← Option.some.inj h]
      exact mgo_fin (nb := 0) hmix (n := 2000) (ad := [(some 9, .test true), (some 15, .call (.ret (.c (bc false))) [] false)]) (ps := [_, _]) (by kernel_rfl) ⟨h_x1, (ev65 h_x3), trivial⟩
  ·
    rw [← Option.some.inj h]
    exact mgo_fin (nb := 0) hmix (n := 2000) (ad := [(some 9, .test false)]) (ps := [_]) (by kernel_rfl) ⟨h_x1, trivial⟩
theorem ok41 : ∀ k s r, itS step41 k s = some r → P41 s r := itS_ok fun k rec ih s r h => match s, h with
  | .e a0_0 a0_1 a0_2 b1_0 b1_1 b1_2, h => t41_e_ok k rec ih a0_0 a0_1 a0_2 b1_0 b1_1 b1_2 r h
theorem ev41 {k : Nat} {a0_0 : Int} {a0_1 : Rs} {a0_2 : Rs} {b1_0 : Int} {b1_1 : Rs} {b1_2 : Rs} {r : R41} (h : g41 k a0_0 a0_1 a0_2 b1_0 b1_1 b1_2 = some r) : Ev Tryz.prog noHand 41 [.ag [ic a0_0, .imm a0_1, .imm a0_2], .ag [ic b1_0, .imm b1_1, .imm b1_2]] [] (res41 r) (bx41 r) := evr41 (ok41 _ _ _ h)
-- auspice/merge.Alike
inductive S26 where
  | e (x0_0 : Int) (x0_1 : Int) (x0_2 : Bool) (x0_3 : Int) (x0_4 : Rs) (x0_5 : Rs) (x0_6 : Rs) (x0_7 : Rs) (y1_0 : Int) (y1_1 : Int) (y1_2 : Bool) (y1_3 : Int) (y1_4 : Rs) (y1_5 : Rs) (y1_6 : Rs) (y1_7 : Rs)
abbrev R26 := Bool
def res26 : R26 → ARes
  | r => .ret (.c (bc r))
def bx26 : R26 → List (List Cell)
  | r => []
noncomputable def t26_e (k : Nat) (rec : S26 → Option R26) (x0_0 : Int) (x0_1 : Int) (x0_2 : Bool) (x0_3 : Int) (x0_4 : Rs) (x0_5 : Rs) (x0_6 : Rs) (x0_7 : Rs) (y1_0 : Int) (y1_1 : Int) (y1_2 : Bool) (y1_3 : Int) (y1_4 : Rs) (y1_5 : Rs) (y1_6 : Rs) (y1_7 : Rs) : Option R26 :=
  (g40 k x0_0 x0_1 x0_2 x0_3 x0_4 x0_5 x0_6 x0_7).bind fun v_x1 =>
  tup4 v_x1 fun r0_x3 r1_x3 r2_x3 r3_x3 =>
  (g40 k y1_0 y1_1 y1_2 y1_3 y1_4 y1_5 y1_6 y1_7).bind fun v_x4 =>
  tup4 v_x4 fun r0_x6 r1_x6 r2_x6 r3_x6 =>
  bif (r0_x3 == r0_x6 && (r1_x3 == r1_x6 && (r2_x3 == r2_x6 && (r3_x3 == r3_x6 && true)))) then
    (g42 k x0_0 x0_1 x0_2 x0_3 x0_4 x0_5 x0_6 x0_7).bind fun v_x8 =>
    tup2 v_x8 fun r0_x10 r2_x10 =>
    (g42 k y1_0 y1_1 y1_2 y1_3 y1_4 y1_5 y1_6 y1_7).bind fun v_x11 =>
    tup2 v_x11 fun r0_x13 r2_x13 =>
    (g41 k r0_x10 [] (immRs r2_x10) r0_x13 [] (immRs r2_x13)).bind fun v_x14 =>
    some v_x14
  else
    some false
noncomputable def step26 (k : Nat) (rec : S26 → Option R26) : S26 → Option R26
  | .e x0_0 x0_1 x0_2 x0_3 x0_4 x0_5 x0_6 x0_7 y1_0 y1_1 y1_2 y1_3 y1_4 y1_5 y1_6 y1_7 => t26_e k rec x0_0 x0_1 x0_2 x0_3 x0_4 x0_5 x0_6 x0_7 y1_0 y1_1 y1_2 y1_3 y1_4 y1_5 y1_6 y1_7
noncomputable def g26 (k : Nat) (x0_0 : Int) (x0_1 : Int) (x0_2 : Bool) (x0_3 : Int) (x0_4 : Rs) (x0_5 : Rs) (x0_6 : Rs) (x0_7 : Rs) (y1_0 : Int) (y1_1 : Int) (y1_2 : Bool) (y1_3 : Int) (y1_4 : Rs) (y1_5 : Rs) (y1_6 : Rs) (y1_7 : Rs) : Option R26 := itS step26 k (.e x0_0 x0_1 x0_2 x0_3 x0_4 x0_5 x0_6 x0_7 y1_0 y1_1 y1_2 y1_3 y1_4 y1_5 y1_6 y1_7)
noncomputable def P26 : S26 → R26 → Prop
  | .e x0_0 x0_1 x0_2 x0_3 x0_4 x0_5 x0_6 x0_7 y1_0 y1_1 y1_2 y1_3 y1_4 y1_5 y1_6 y1_7, r => Fin cx26 Tryz.f26 [.code body26] (fr0 Tryz.f26 [.ag [ic x0_0, ic x0_1, bc x0_2, ic x0_3, .imm x0_4, .imm x0_5, .imm x0_6, .imm x0_7], .ag [ic y1_0, ic y1_1, bc y1_2, ic y1_3, .imm y1_4, .imm y1_5, .imm y1_6, .imm y1_7]] []) (res26 r) (bx26 r)
theorem evr26 {x0_0 : Int} {x0_1 : Int} {x0_2 : Bool} {x0_3 : Int} {x0_4 : Rs} {x0_5 : Rs} {x0_6 : Rs} {x0_7 : Rs} {y1_0 : Int} {y1_1 : Int} {y1_2 : Bool} {y1_3 : Int} {y1_4 : Rs} {y1_5 : Rs} {y1_6 : Rs} {y1_7 : Rs} {r : R26} (h : P26 (.e x0_0 x0_1 x0_2 x0_3 x0_4 x0_5 x0_6 x0_7 y1_0 y1_1 y1_2 y1_3 y1_4 y1_5 y1_6 y1_7) r) : Ev Tryz.prog noHand 26 [.ag [ic x0_0, ic x0_1, bc x0_2, ic x0_3, .imm x0_4, .imm x0_5, .imm x0_6, .imm x0_7], .ag [ic y1_0, ic y1_1, bc y1_2, ic y1_3, .imm y1_4, .imm y1_5, .imm y1_6, .imm y1_7]] [] (res26 r) (bx26 r) := ev_of_fin (fn := Tryz.f26) (body := body26) (by kernel_rfl) (by kernel_rfl) (by kernel_rfl) rfl h
theorem t26_e_ok (k : Nat) (rec : S26 → Option R26) (ih : ∀ s r, rec s = some r → P26 s r) (x0_0 : Int) (x0_1 : Int) (x0_2 : Bool) (x0_3 : Int) (x0_4 : Rs) (x0_5 : Rs) (x0_6 : Rs) (x0_7 : Rs) (y1_0 : Int) (y1_1 : Int) (y1_2 : Bool) (y1_3 : Int) (y1_4 : Rs) (y1_5 : Rs) (y1_6 : Rs) (y1_7 : Rs) (r : R26) (h : t26_e k rec x0_0 x0_1 x0_2 x0_3 x0_4 x0_5 x0_6 x0_7 y1_0 y1_1 y1_2 y1_3 y1_4 y1_5 y1_6 y1_7 = some r) : P26 (.e x0_0 x0_1 x0_2 x0_3 x0_4 x0_5 x0_6 x0_7 y1_0 y1_1 y1_2 y1_3 y1_4 y1_5 y1_6 y1_7) r := by
  unfold t26_e at h
  obtain ⟨v_x1, h_x2, h⟩ := bd_or h
  obtain ⟨r0_x3, r1_x3, r2_x3, r3_x3, hq, h1'⟩ := tup4_or h
  clear h; subst hq; have h := h1'; clear h1'
  obtain ⟨v_x4, h_x5, h⟩ := bd_or h
  obtain ⟨r0_x6, r1_x6, r2_x6, r3_x6, hq, h1'⟩ := tup4_or h
  clear h; subst hq; have h := h1'; clear h1'
  rcases bif_or h with ⟨h_x7, h⟩ | ⟨h_x7, h⟩
  ·
    obtain ⟨v_x8, h_x9, h⟩ := bd_or h
    obtain ⟨r0_x10, r2_x10, hq, h1'⟩ := tup2_or h
    clear h; subst hq; have h := h1'; clear h1'
    obtain ⟨v_x11, h_x12, h⟩ := bd_or h
    obtain ⟨r0_x13, r2_x13, hq, h1'⟩ := tup2_or h
    clear h; subst hq; have h := h1'; clear h1'
    obtain ⟨v_x14, h_x15, h⟩ := bd_or h
    rw [← Option.some.inj h]
    exact mgo_fin (nb := 0) hmix (n := 2000) (ad := [(some 6, .call (.ret (.ag [ic r0_x3, ic r1_x3, bc r2_x3, ic r3_x3])) [] false), (some 8, .call (.ret (.ag [ic r0_x6, ic r1_x6, bc r2_x6, ic r3_x6])) [] false), (some 9, .test true), (some 12, .call (.ret (.ag [ic r0_x10, .nil, .own 8 r2_x10])) [] false), (some 14, .call (.ret (.ag [ic r0_x13, .nil, .own 8 r2_x13])) [] false), (some 15, .call (.ret (.c (bc v_x14))) [] true)]) (ps := [_, _, _, _, _, _, _]) (by kernel_rfl) ⟨(ev40 h_x2), (ev40 h_x5), h_x7, (ev42 h_x9), (ev42 h_x12), (ev41 h_x15), (rfl : true = true), trivial⟩
  ·
    rw [← Option.some.inj h]
    exact mgo_fin (nb := 0) hmix (n := 2000) (ad := [(some 6, .call (.ret (.ag [ic r0_x3, ic r1_x3, bc r2_x3, ic r3_x3])) [] false), (some 8, .call (.ret (.ag [ic r0_x6, ic r1_x6, bc r2_x6, ic r3_x6])) [] false), (some 9, .test false)]) (ps := [_, _, _]) (by kernel_rfl) ⟨(ev40 h_x2), (ev40 h_x5), h_x7, trivial⟩
theorem ok26 : ∀ k s r, itS step26 k s = some r → P26 s r := itS_ok fun k rec ih s r h => match s, h with
  | .e x0_0 x0_1 x0_2 x0_3 x0_4 x0_5 x0_6 x0_7 y1_0 y1_1 y1_2 y1_3 y1_4 y1_5 y1_6 y1_7, h => t26_e_ok k rec ih x0_0 x0_1 x0_2 x0_3 x0_4 x0_5 x0_6 x0_7 y1_0 y1_1 y1_2 y1_3 y1_4 y1_5 y1_6 y1_7 r h
theorem ev26 {k : Nat} {x0_0 : Int} {x0_1 : Int} {x0_2 : Bool} {x0_3 : Int} {x0_4 : Rs} {x0_5 : Rs} {x0_6 : Rs} {x0_7 : Rs} {y1_0 : Int} {y1_1 : Int} {y1_2 : Bool} {y1_3 : Int} {y1_4 : Rs} {y1_5 : Rs} {y1_6 : Rs} {y1_7 : Rs} {r : R26} (h : g26 k x0_0 x0_1 x0_2 x0_3 x0_4 x0_5 x0_6 x0_7 y1_0 y1_1 y1_2 y1_3 y1_4 y1_5 y1_6 y1_7 = some r) : Ev Tryz.prog noHand 26 [.ag [ic x0_0, ic x0_1, bc x0_2, ic x0_3, .imm x0_4, .imm x0_5, .imm x0_6, .imm x0_7], .ag [ic y1_0, ic y1_1, bc y1_2, ic y1_3, .imm y1_4, .imm y1_5, .imm y1_6, .imm y1_7]] [] (res26 r) (bx26 r) := evr26 (ok26 _ _ _ h)
-- auspice/merge.find
inductive S21 where
  | e (l0 : Rs) (s1_0 : Int) (s1_1 : Int) (s1_2 : Bool) (s1_3 : Int) (s1_4 : Rs) (s1_5 : Rs) (s1_6 : Rs) (s1_7 : Rs)
  | h0 (l0 : Rs) (t7 : Rs) (t8 : Int) (t9 : Int) (loc3_0 : Int) (loc3_1 : Int) (loc3_2 : Bool) (loc3_3 : Int) (loc3_4 : Rs) (loc3_5 : Rs) (loc3_6 : Rs) (loc3_7 : Rs)
abbrev R21 := Int
def res21 : R21 → ARes
  | r => .ret (.c (ic r))
def bx21 : R21 → List (List Cell)
  | r => []
noncomputable def t21_e (k : Nat) (rec : S21 → Option R21) (l0 : Rs) (s1_0 : Int) (s1_1 : Int) (s1_2 : Bool) (s1_3 : Int) (s1_4 : Rs) (s1_5 : Rs) (s1_6 : Rs) (s1_7 : Rs) : Option R21 :=
  rec (.h0 l0 l0 (l0.length : Int) 0 s1_0 s1_1 s1_2 s1_3 s1_4 s1_5 s1_6 s1_7)
noncomputable def t21_h0 (k : Nat) (rec : S21 → Option R21) (l0 : Rs) (t7 : Rs) (t8 : Int) (t9 : Int) (loc3_0 : Int) (loc3_1 : Int) (loc3_2 : Bool) (loc3_3 : Int) (loc3_4 : Rs) (loc3_5 : Rs) (loc3_6 : Rs) (loc3_7 : Rs) : Option R21 :=
  bif decide (t9 < t8) then
    ixR t7 t9 fun w_x2 =>
    un_iibim4 w_x2 fun parent_x4 type_x4 many_x4 window_x4 bars_x4 leaves_x4 guards_x4 ends_x4 =>
    (g26 k parent_x4 type_x4 many_x4 window_x4 bars_x4 leaves_x4 guards_x4 ends_x4 loc3_0 loc3_1 loc3_2 loc3_3 loc3_4 loc3_5 loc3_6 loc3_7).bind fun v_x5 =>
    bif v_x5 then
      some t9
    else
      rec (.h0 l0 t7 t8 (IntKind.i64.wrap (t9 + 1)) loc3_0 loc3_1 loc3_2 loc3_3 loc3_4 loc3_5 loc3_6 loc3_7)
  else
    some (l0.length : Int)
noncomputable def step21 (k : Nat) (rec : S21 → Option R21) : S21 → Option R21
  | .e l0 s1_0 s1_1 s1_2 s1_3 s1_4 s1_5 s1_6 s1_7 => t21_e k rec l0 s1_0 s1_1 s1_2 s1_3 s1_4 s1_5 s1_6 s1_7
  | .h0 l0 t7 t8 t9 loc3_0 loc3_1 loc3_2 loc3_3 loc3_4 loc3_5 loc3_6 loc3_7 => t21_h0 k rec l0 t7 t8 t9 loc3_0 loc3_1 loc3_2 loc3_3 loc3_4 loc3_5 loc3_6 loc3_7
noncomputable def g21 (k : Nat) (l0 : Rs) (s1_0 : Int) (s1_1 : Int) (s1_2 : Bool) (s1_3 : Int) (s1_4 : Rs) (s1_5 : Rs) (s1_6 : Rs) (s1_7 : Rs) : Option R21 := itS step21 k (.e l0 s1_0 s1_1 s1_2 s1_3 s1_4 s1_5 s1_6 s1_7)
noncomputable def P21 : S21 → R21 → Prop
  | .e l0 s1_0 s1_1 s1_2 s1_3 s1_4 s1_5 s1_6 s1_7, r => Fin cx21 Tryz.f21 [.code body21] (fr0 Tryz.f21 [.c (.imm l0), .ag [ic s1_0, ic s1_1, bc s1_2, ic s1_3, .imm s1_4, .imm s1_5, .imm s1_6, .imm s1_7]] []) (res21 r) (bx21 r)
  | .h0 l0 t7 t8 t9 loc3_0 loc3_1 loc3_2 loc3_3 loc3_4 loc3_5 loc3_6 loc3_7, r => Fin cx21 Tryz.f21 (kAt body21 [1, 0, 1, 0, 4] []) ⟨[.c (.imm l0), .deadv, .deadv, .c (.ptr ⟨⟨.loc 3, []⟩, 0, 0⟩)] ++ rep 3 .deadv ++ [.c (.imm t7), .c (ic t8), .c (ic t9)] ++ rep 11 .deadv, [(.loc 3, [ic loc3_0, ic loc3_1, bc loc3_2, ic loc3_3, .imm loc3_4, .imm loc3_5, .imm loc3_6, .imm loc3_7])]⟩ (res21 r) (bx21 r)
theorem evr21 {l0 : Rs} {s1_0 : Int} {s1_1 : Int} {s1_2 : Bool} {s1_3 : Int} {s1_4 : Rs} {s1_5 : Rs} {s1_6 : Rs} {s1_7 : Rs} {r : R21} (h : P21 (.e l0 s1_0 s1_1 s1_2 s1_3 s1_4 s1_5 s1_6 s1_7) r) : Ev Tryz.prog noHand 21 [.c (.imm l0), .ag [ic s1_0, ic s1_1, bc s1_2, ic s1_3, .imm s1_4, .imm s1_5, .imm s1_6, .imm s1_7]] [] (res21 r) (bx21 r) := ev_of_fin (fn := Tryz.f21) (body := body21) (by kernel_rfl) (by kernel_rfl) (by kernel_rfl) rfl h
theorem t21_e_ok (k : Nat) (rec : S21 → Option R21) (ih : ∀ s r, rec s = some r → P21 s r) (l0 : Rs) (s1_0 : Int) (s1_1 : Int) (s1_2 : Bool) (s1_3 : Int) (s1_4 : Rs) (s1_5 : Rs) (s1_6 : Rs) (s1_7 : Rs) (r : R21) (h : t21_e k rec l0 s1_0 s1_1 s1_2 s1_3 s1_4 s1_5 s1_6 s1_7 = some r) : P21 (.e l0 s1_0 s1_1 s1_2 s1_3 s1_4 s1_5 s1_6 s1_7) r := by
  unfold t21_e at h
  exact mgo_at (nb := 0) hmix (ih _ _ h) (n := 7) (ad := []) (ps := []) (m := bm 21 2096246) (ls := []) (cs := []) (by kernel_rfl) trivial
theorem t21_h0_ok (k : Nat) (rec : S21 → Option R21) (ih : ∀ s r, rec s = some r → P21 s r) (l0 : Rs) (t7 : Rs) (t8 : Int) (t9 : Int) (loc3_0 : Int) (loc3_1 : Int) (loc3_2 : Bool) (loc3_3 : Int) (loc3_4 : Rs) (loc3_5 : Rs) (loc3_6 : Rs) (loc3_7 : Rs) (r : R21) (h : t21_h0 k rec l0 t7 t8 t9 loc3_0 loc3_1 loc3_2 loc3_3 loc3_4 loc3_5 loc3_6 loc3_7 = some r) : P21 (.h0 l0 t7 t8 t9 loc3_0 loc3_1 loc3_2 loc3_3 loc3_4 loc3_5 loc3_6 loc3_7) r := by
  unfold t21_h0 at h
  rcases bif_or h with ⟨h_x1, h⟩ | ⟨h_x1, h⟩
  ·
    obtain ⟨w_x2, h_x3, h⟩ := ixR_or h
    obtain ⟨parent_x4, type_x4, many_x4, window_x4, bars_x4, leaves_x4, guards_x4, ends_x4, hq, h1'⟩ := un_iibim4_or h
    clear h; subst hq; have h := h1'; clear h1'
    obtain ⟨v_x5, h_x6, h⟩ := bd_or h
    rcases bif_or h with ⟨hq, h1'⟩ | ⟨hq, h1'⟩
    · clear h; subst hq; have h := h1'; clear h1'
      rw [← Option.some.inj h]
      exact mgo_fin (nb := 0) hmix (n := 2000) (ad := [(some 10, .test true), (some 12, .row [ic parent_x4, ic type_x4, bc many_x4, ic window_x4, .imm bars_x4, .imm leaves_x4, .imm guards_x4, .imm ends_x4]), (some 16, .call (.ret (.c (bc true))) [] false)]) (ps := [_, _, _]) (by kernel_rfl) ⟨h_x1, ix_row h_x3 rfl, (ev26 h_x6), trivial⟩
    · clear h; subst hq; have h := h1'; clear h1'
      exact mgo_at (nb := 0) hmix (ih _ _ h) (n := 16) (ad := [(some 10, .test true), (some 12, .row [ic parent_x4, ic type_x4, bc many_x4, ic window_x4, .imm bars_x4, .imm leaves_x4, .imm guards_x4, .imm ends_x4]), (some 16, .call (.ret (.c (bc false))) [] false)]) (ps := [_, _, _]) (m := bm 21 2096246) (ls := [6]) (cs := []) (by kernel_rfl) ⟨h_x1, ix_row h_x3 rfl, (ev26 h_x6), trivial⟩
  ·
    rw [← Option.some.inj h]
    exact mgo_fin (nb := 0) hmix (n := 2000) (ad := [(some 10, .test false)]) (ps := [_]) (by kernel_rfl) ⟨h_x1, trivial⟩
theorem ok21 : ∀ k s r, itS step21 k s = some r → P21 s r := itS_ok fun k rec ih s r h => match s, h with
  | .e l0 s1_0 s1_1 s1_2 s1_3 s1_4 s1_5 s1_6 s1_7, h => t21_e_ok k rec ih l0 s1_0 s1_1 s1_2 s1_3 s1_4 s1_5 s1_6 s1_7 r h
  | .h0 l0 t7 t8 t9 loc3_0 loc3_1 loc3_2 loc3_3 loc3_4 loc3_5 loc3_6 loc3_7, h => t21_h0_ok k rec ih l0 t7 t8 t9 loc3_0 loc3_1 loc3_2 loc3_3 loc3_4 loc3_5 loc3_6 loc3_7 r h
theorem ev21 {k : Nat} {l0 : Rs} {s1_0 : Int} {s1_1 : Int} {s1_2 : Bool} {s1_3 : Int} {s1_4 : Rs} {s1_5 : Rs} {s1_6 : Rs} {s1_7 : Rs} {r : R21} (h : g21 k l0 s1_0 s1_1 s1_2 s1_3 s1_4 s1_5 s1_6 s1_7 = some r) : Ev Tryz.prog noHand 21 [.c (.imm l0), .ag [ic s1_0, ic s1_1, bc s1_2, ic s1_3, .imm s1_4, .imm s1_5, .imm s1_6, .imm s1_7]] [] (res21 r) (bx21 r) := evr21 (ok21 _ _ _ h)
-- auspice/merge.Merge
inductive S8 where
  | e (a0_0 : Int) (a0_1 : Rs) (a0_2 : Rs)
  | h0 (became4 : Es) (t20 : Rs) (t21 : Int) (t22 : Int) (loc3_0 : Int) (loc3_1 : Rs) (loc3_2 : Rs) (loc2_0 : Int)
  | h1 (became4 : Es) (i5 : Int) (ends7 : Rs) (at8 : Int) (t20 : Rs) (t21 : Int) (t22 : Int) (t55 : Bool) (loc6_0 : Int) (loc6_1 : Int) (loc6_2 : Bool) (loc6_3 : Int) (loc6_4 : Rs) (loc6_5 : Rs) (loc6_6 : Rs) (loc3_0 : Int) (loc3_1 : Rs) (loc3_2 : Rs) (loc2_0 : Int)
  | h2 (became4 : Es) (i5 : Int) (ends7 : Rs) (at8 : Int) (t20 : Rs) (t21 : Int) (t22 : Int) (loc3_0 : Int) (loc3_1 : Rs) (loc3_2 : Rs) (loc2_0 : Int)
  | h3 (became4 : Es) (at8 : Int) (t20 : Rs) (t21 : Int) (t22 : Int) (t65 : Rs) (t66 : Int) (t67 : Int) (loc3_0 : Int) (loc3_1 : Rs) (loc3_2 : Rs) (loc2_0 : Int)
  | h4 (became4 : Es) (at8 : Int) (t20 : Rs) (t21 : Int) (t22 : Int) (t65 : Rs) (t66 : Int) (t67 : Int) (loc3_0 : Int) (loc3_1 : Rs) (loc3_2 : Rs) (loc2_0 : Int)
abbrev R8 := Int × Rs × Rs
def res8 : R8 → ARes
  | (r_0, r_1, r_2) => .ret (.ag [ic r_0, .imm r_1, .imm r_2])
def bx8 : R8 → List (List Cell)
  | (r_0, r_1, r_2) => []
noncomputable def t8_e (k : Nat) (rec : S8 → Option R8) (a0_0 : Int) (a0_1 : Rs) (a0_2 : Rs) : Option R8 :=
  bif a0_1.isEmpty then
    gd (apOk 8 1 [] a0_1) <|
    rec (.h0 [(.int .i64 (-1), [ic (-1)])] a0_2 (a0_2.length : Int) 0 a0_0 [] [] 0)
  else
    gd (apOk 8 1 [] a0_1) <|
    rec (.h0 [(.int .i64 (-1), [ic (-1)])] a0_2 (a0_2.length : Int) 0 a0_0 (([] : Rs) ++ a0_1) [] 0)
noncomputable def t8_h0 (k : Nat) (rec : S8 → Option R8) (became4 : Es) (t20 : Rs) (t21 : Int) (t22 : Int) (loc3_0 : Int) (loc3_1 : Rs) (loc3_2 : Rs) (loc2_0 : Int) : Option R8 :=
  bif decide (t22 < t21) then
    ixR t20 t22 fun w_x2 =>
    un_iibim4 w_x2 fun parent_x4 type_x4 many_x4 window_x4 bars_x4 leaves_x4 guards_x4 ends_x4 =>
    (mapFind Tryz.prog 3 (.int .i64 parent_x4) became4).bind fun e_x5 =>
    optC e_x5 (
        (g19 k bars_x4).bind fun v_x7 =>
        (g20 k leaves_x4).bind fun v_x9 =>
        (g20 k guards_x4).bind fun v_x11 =>
        (g21 k (immRs loc3_2) 0 type_x4 many_x4 window_x4 (immRs v_x7) (immRs v_x9) (immRs v_x11) []).bind fun v_x13 =>
        rec (.h1 became4 t22 ends_x4 v_x13 t20 t21 t22 (v_x13 == (loc3_2.length : Int)) 0 type_x4 many_x4 window_x4 v_x7 v_x9 v_x11 loc3_0 loc3_1 loc3_2 loc2_0)) fun w_x7 =>
      un_i w_x7 fun x_x8 =>
      (g19 k bars_x4).bind fun v_x9 =>
      (g20 k leaves_x4).bind fun v_x11 =>
      (g20 k guards_x4).bind fun v_x13 =>
      (g21 k (immRs loc3_2) x_x8 type_x4 many_x4 window_x4 (immRs v_x9) (immRs v_x11) (immRs v_x13) []).bind fun v_x15 =>
      rec (.h1 became4 t22 ends_x4 v_x15 t20 t21 t22 (v_x15 == (loc3_2.length : Int)) x_x8 type_x4 many_x4 window_x4 v_x9 v_x11 v_x13 loc3_0 loc3_1 loc3_2 loc2_0)
  else
    some (loc3_0, immRs loc3_1, immRs loc3_2)
noncomputable def t8_h1 (k : Nat) (rec : S8 → Option R8) (became4 : Es) (i5 : Int) (ends7 : Rs) (at8 : Int) (t20 : Rs) (t21 : Int) (t22 : Int) (t55 : Bool) (loc6_0 : Int) (loc6_1 : Int) (loc6_2 : Bool) (loc6_3 : Int) (loc6_4 : Rs) (loc6_5 : Rs) (loc6_6 : Rs) (loc3_0 : Int) (loc3_1 : Rs) (loc3_2 : Rs) (loc2_0 : Int) : Option R8 :=
  bif t55 then
    gd (apOk 128 8 loc3_2 [[ic loc6_0, ic loc6_1, bc loc6_2, ic loc6_3, .imm (immRs loc6_4), .imm (immRs loc6_5), .imm (immRs loc6_6), .nil]]) <|
    rec (.h2 became4 i5 ends7 at8 t20 t21 t22 loc3_0 loc3_1 (loc3_2 ++ [[ic loc6_0, ic loc6_1, bc loc6_2, ic loc6_3, .imm (immRs loc6_4), .imm (immRs loc6_5), .imm (immRs loc6_6), .nil]]) loc2_0)
  else
    rec (.h2 became4 i5 ends7 at8 t20 t21 t22 loc3_0 loc3_1 loc3_2 loc2_0)
noncomputable def t8_h2 (k : Nat) (rec : S8 → Option R8) (became4 : Es) (i5 : Int) (ends7 : Rs) (at8 : Int) (t20 : Rs) (t21 : Int) (t22 : Int) (loc3_0 : Int) (loc3_1 : Rs) (loc3_2 : Rs) (loc2_0 : Int) : Option R8 :=
  (mapPut Tryz.prog 3 (.int .i64 i5) [ic at8] became4).bind fun es_x1 =>
  rec (.h3 es_x1 at8 t20 t21 t22 ends7 (ends7.length : Int) 0 loc3_0 loc3_1 loc3_2 loc2_0)
noncomputable def t8_h3 (k : Nat) (rec : S8 → Option R8) (became4 : Es) (at8 : Int) (t20 : Rs) (t21 : Int) (t22 : Int) (t65 : Rs) (t66 : Int) (t67 : Int) (loc3_0 : Int) (loc3_1 : Rs) (loc3_2 : Rs) (loc2_0 : Int) : Option R8 :=
  bif decide (t67 < t66) then
    ixR t65 t67 fun w_x2 =>
    un_imm w_x2 fun branch_x4 closes_x4 bars_x4 =>
    (g20 k closes_x4).bind fun v_x5 =>
    (g19 k bars_x4).bind fun v_x7 =>
    ixR loc3_2 at8 fun w_x9 =>
    ua_iibim3n_iibim3o3 w_x9 (fun parent_x11 type_x11 many_x11 window_x11 bars_x11 leaves_x11 guards_x11 =>
      rec (.h4 became4 at8 t20 t21 t22 t65 t66 t67 loc3_0 loc3_1 (setRow loc3_2 at8.toNat 7 (.own 3 [[ic branch_x4, .imm (immRs v_x5), .imm (immRs v_x7)]])) loc2_0)) (fun parent_x11 type_x11 many_x11 window_x11 bars_x11 leaves_x11 guards_x11 ends_x11 =>
      gd (apOk 56 3 ends_x11 [[ic branch_x4, .imm (immRs v_x5), .imm (immRs v_x7)]]) <|
      rec (.h4 became4 at8 t20 t21 t22 t65 t66 t67 loc3_0 loc3_1 (setRow (setRow loc3_2 at8.toNat 7 .dead) at8.toNat 7 (.own 3 (ends_x11 ++ [[ic branch_x4, .imm (immRs v_x5), .imm (immRs v_x7)]]))) loc2_0))
  else
    rec (.h0 became4 t20 t21 (IntKind.i64.wrap (t22 + 1)) loc3_0 loc3_1 loc3_2 loc2_0)
noncomputable def t8_h4 (k : Nat) (rec : S8 → Option R8) (became4 : Es) (at8 : Int) (t20 : Rs) (t21 : Int) (t22 : Int) (t65 : Rs) (t66 : Int) (t67 : Int) (loc3_0 : Int) (loc3_1 : Rs) (loc3_2 : Rs) (loc2_0 : Int) : Option R8 :=
  rec (.h3 became4 at8 t20 t21 t22 t65 t66 (IntKind.i64.wrap (t67 + 1)) loc3_0 loc3_1 loc3_2 loc2_0)
noncomputable def step8 (k : Nat) (rec : S8 → Option R8) : S8 → Option R8
  | .e a0_0 a0_1 a0_2 => t8_e k rec a0_0 a0_1 a0_2
  | .h0 became4 t20 t21 t22 loc3_0 loc3_1 loc3_2 loc2_0 => t8_h0 k rec became4 t20 t21 t22 loc3_0 loc3_1 loc3_2 loc2_0
  | .h1 became4 i5 ends7 at8 t20 t21 t22 t55 loc6_0 loc6_1 loc6_2 loc6_3 loc6_4 loc6_5 loc6_6 loc3_0 loc3_1 loc3_2 loc2_0 => t8_h1 k rec became4 i5 ends7 at8 t20 t21 t22 t55 loc6_0 loc6_1 loc6_2 loc6_3 loc6_4 loc6_5 loc6_6 loc3_0 loc3_1 loc3_2 loc2_0
  | .h2 became4 i5 ends7 at8 t20 t21 t22 loc3_0 loc3_1 loc3_2 loc2_0 => t8_h2 k rec became4 i5 ends7 at8 t20 t21 t22 loc3_0 loc3_1 loc3_2 loc2_0
  | .h3 became4 at8 t20 t21 t22 t65 t66 t67 loc3_0 loc3_1 loc3_2 loc2_0 => t8_h3 k rec became4 at8 t20 t21 t22 t65 t66 t67 loc3_0 loc3_1 loc3_2 loc2_0
  | .h4 became4 at8 t20 t21 t22 t65 t66 t67 loc3_0 loc3_1 loc3_2 loc2_0 => t8_h4 k rec became4 at8 t20 t21 t22 t65 t66 t67 loc3_0 loc3_1 loc3_2 loc2_0
noncomputable def g8 (k : Nat) (a0_0 : Int) (a0_1 : Rs) (a0_2 : Rs) : Option R8 := itS step8 k (.e a0_0 a0_1 a0_2)
noncomputable def P8 : S8 → R8 → Prop
  | .e a0_0 a0_1 a0_2, r => Fin cx8 Tryz.f8 [.code body8] (fr0 Tryz.f8 [.ag [ic a0_0, .imm a0_1, .imm a0_2]] []) (res8 r) (bx8 r)
  | .h0 became4 t20 t21 t22 loc3_0 loc3_1 loc3_2 loc2_0, r => Fin cx8 Tryz.f8 (kAt body8 [1, 1, 1, 0, 1, 0, 4] []) ⟨[.deadv, .deadv, .c (.ptr ⟨⟨.loc 2, []⟩, 0, 0⟩), .c (.ptr ⟨⟨.loc 3, []⟩, 0, 0⟩), .c (.mp became4)] ++ rep 15 .deadv ++ [.c (.imm t20), .c (ic t21), .c (ic t22)] ++ rep 73 .deadv, [(.loc 3, [ic loc3_0, .own 1 loc3_1, .own 8 loc3_2]), (.loc 2, [ic loc2_0, .nil, .nil])]⟩ (res8 r) (bx8 r)
  | .h1 became4 i5 ends7 at8 t20 t21 t22 t55 loc6_0 loc6_1 loc6_2 loc6_3 loc6_4 loc6_5 loc6_6 loc3_0 loc3_1 loc3_2 loc2_0, r => Fin cx8 Tryz.f8 (kAt body8 [1, 1, 1, 0, 1, 0, 0, 1, 1, 0, 0, 1, 1, 1, 1, 1, 1, 0, 1, 2] []) ⟨[.deadv, .deadv, .c (.ptr ⟨⟨.loc 2, []⟩, 0, 0⟩), .c (.ptr ⟨⟨.loc 3, []⟩, 0, 0⟩), .c (.mp became4), .c (ic i5), .c (.ptr ⟨⟨.loc 6, []⟩, 0, 0⟩), .c (.imm ends7), .c (ic at8)] ++ rep 11 .deadv ++ [.c (.imm t20), .c (ic t21), .c (ic t22)] ++ rep 32 .deadv ++ [.c (bc t55)] ++ rep 40 .deadv, [(.loc 6, [ic loc6_0, ic loc6_1, bc loc6_2, ic loc6_3, .own 2 loc6_4, .own 7 loc6_5, .own 7 loc6_6, .nil]), (.loc 3, [ic loc3_0, .own 1 loc3_1, .own 8 loc3_2]), (.loc 2, [ic loc2_0, .nil, .nil])]⟩ (res8 r) (bx8 r)
  | .h2 became4 i5 ends7 at8 t20 t21 t22 loc3_0 loc3_1 loc3_2 loc2_0, r => Fin cx8 Tryz.f8 (kAt body8 [1, 1, 1, 0, 1, 0, 0, 1, 1, 0, 0, 1, 1, 1, 1, 1, 1, 1, 2] []) ⟨[.deadv, .deadv, .c (.ptr ⟨⟨.loc 2, []⟩, 0, 0⟩), .c (.ptr ⟨⟨.loc 3, []⟩, 0, 0⟩), .c (.mp became4), .c (ic i5), .deadv, .c (.imm ends7), .c (ic at8)] ++ rep 11 .deadv ++ [.c (.imm t20), .c (ic t21), .c (ic t22)] ++ rep 73 .deadv, [(.loc 3, [ic loc3_0, .own 1 loc3_1, .own 8 loc3_2]), (.loc 2, [ic loc2_0, .nil, .nil])]⟩ (res8 r) (bx8 r)
  | .h3 became4 at8 t20 t21 t22 t65 t66 t67 loc3_0 loc3_1 loc3_2 loc2_0, r => Fin cx8 Tryz.f8 (kAt body8 [1, 1, 1, 0, 1, 0, 0, 1, 1, 0, 0, 1, 1, 1, 1, 1, 1, 1, 1, 1, 0, 4] []) ⟨[.deadv, .deadv, .c (.ptr ⟨⟨.loc 2, []⟩, 0, 0⟩), .c (.ptr ⟨⟨.loc 3, []⟩, 0, 0⟩), .c (.mp became4)] ++ rep 3 .deadv ++ [.c (ic at8)] ++ rep 11 .deadv ++ [.c (.imm t20), .c (ic t21), .c (ic t22)] ++ rep 42 .deadv ++ [.c (.imm t65), .c (ic t66), .c (ic t67)] ++ rep 28 .deadv, [(.loc 3, [ic loc3_0, .own 1 loc3_1, .own 8 loc3_2]), (.loc 2, [ic loc2_0, .nil, .nil])]⟩ (res8 r) (bx8 r)
  | .h4 became4 at8 t20 t21 t22 t65 t66 t67 loc3_0 loc3_1 loc3_2 loc2_0, r => Fin cx8 Tryz.f8 (kAt body8 [1, 1, 1, 0, 1, 0, 0, 1, 1, 0, 0, 1, 1, 1, 1, 1, 1, 1, 1, 1, 0, 0, 1, 1, 1, 2] []) ⟨[.deadv, .deadv, .c (.ptr ⟨⟨.loc 2, []⟩, 0, 0⟩), .c (.ptr ⟨⟨.loc 3, []⟩, 0, 0⟩), .c (.mp became4)] ++ rep 3 .deadv ++ [.c (ic at8)] ++ rep 11 .deadv ++ [.c (.imm t20), .c (ic t21), .c (ic t22)] ++ rep 42 .deadv ++ [.c (.imm t65), .c (ic t66), .c (ic t67)] ++ rep 28 .deadv, [(.loc 3, [ic loc3_0, .own 1 loc3_1, .own 8 loc3_2]), (.loc 2, [ic loc2_0, .nil, .nil])]⟩ (res8 r) (bx8 r)
theorem evr8 {a0_0 : Int} {a0_1 : Rs} {a0_2 : Rs} {r : R8} (h : P8 (.e a0_0 a0_1 a0_2) r) : Ev Tryz.prog noHand 8 [.ag [ic a0_0, .imm a0_1, .imm a0_2]] [] (res8 r) (bx8 r) := ev_of_fin (fn := Tryz.f8) (body := body8) (by kernel_rfl) (by kernel_rfl) (by kernel_rfl) rfl h
theorem t8_e_ok (k : Nat) (rec : S8 → Option R8) (ih : ∀ s r, rec s = some r → P8 s r) (a0_0 : Int) (a0_1 : Rs) (a0_2 : Rs) (r : R8) (h : t8_e k rec a0_0 a0_1 a0_2 = some r) : P8 (.e a0_0 a0_1 a0_2) r := by
  unfold t8_e at h
  rcases bif_or h with ⟨h_x1, h⟩ | ⟨h_x1, h⟩
  ·
    obtain ⟨h_x2, h⟩ := gd_or h
    exact mgo_at (nb := 0) hmix (ih _ _ h) (n := 11) (ad := [(some 15, .okE true)]) (ps := [_]) (m := bm 96 79228162514264337593536610275) (ls := [1]) (cs := [(⟨⟨.loc 3, []⟩, 0, 1⟩, some 1), (⟨⟨.loc 3, []⟩, 0, 2⟩, some 8)]) (by kernel_rfl) ⟨okT h_x2 h_x1, trivial⟩
  ·
    obtain ⟨h_x2, h⟩ := gd_or h
    exact mgo_at (nb := 0) hmix (ih _ _ h) (n := 11) (ad := [(some 15, .okE false)]) (ps := [_]) (m := bm 96 79228162514264337593536610275) (ls := [1]) (cs := [(⟨⟨.loc 3, []⟩, 0, 2⟩, some 8)]) (by kernel_rfl) ⟨okT h_x2 h_x1, trivial⟩
theorem t8_h0_ok (k : Nat) (rec : S8 → Option R8) (ih : ∀ s r, rec s = some r → P8 s r) (became4 : Es) (t20 : Rs) (t21 : Int) (t22 : Int) (loc3_0 : Int) (loc3_1 : Rs) (loc3_2 : Rs) (loc2_0 : Int) (r : R8) (h : t8_h0 k rec became4 t20 t21 t22 loc3_0 loc3_1 loc3_2 loc2_0 = some r) : P8 (.h0 became4 t20 t21 t22 loc3_0 loc3_1 loc3_2 loc2_0) r := by
  unfold t8_h0 at h
  rcases bif_or h with ⟨h_x1, h⟩ | ⟨h_x1, h⟩
  ·
    obtain ⟨w_x2, h_x3, h⟩ := ixR_or h
    obtain ⟨parent_x4, type_x4, many_x4, window_x4, bars_x4, leaves_x4, guards_x4, ends_x4, hq, h1'⟩ := un_iibim4_or h
    clear h; subst hq; have h := h1'; clear h1'
    obtain ⟨e_x5, h_x6, h⟩ := bd_or h
    rcases optC_or h with ⟨w_x7, hq, h1'⟩ | ⟨hq, h1'⟩
    · clear h; subst hq; have h := h1'; clear h1'
      obtain ⟨x_x8, hq, h1'⟩ := un_i_or h
      clear h; subst hq; have h := h1'; clear h1'
      obtain ⟨v_x9, h_x10, h⟩ := bd_or h
      obtain ⟨v_x11, h_x12, h⟩ := bd_or h
      obtain ⟨v_x13, h_x14, h⟩ := bd_or h
      obtain ⟨v_x15, h_x16, h⟩ := bd_or h
      exact mgo_at (nb := 0) hmix (ih _ _ h) (n := 23) (ad := [(some 23, .test true), (some 25, .row [ic parent_x4, ic type_x4, bc many_x4, ic window_x4, .imm bars_x4, .imm leaves_x4, .imm guards_x4, .imm ends_x4]), (some 30, .look (some [ic x_x8])), (some 34, .call (.ret (.c (.own 2 v_x9))) [] false), (some 37, .call (.ret (.c (.own 7 v_x11))) [] false), (some 40, .call (.ret (.c (.own 7 v_x13))) [] false), (some 50, .call (.ret (.c (ic v_x15))) [] true)]) (ps := [_, _, _, _, _, _, _, _]) (m := bm 96 79228162514228308796517645827) (ls := []) (cs := []) (by kernel_rfl) ⟨h_x1, ix_row h_x3 rfl, h_x6, (ev19 h_x10), (ev20 h_x12), (ev20 h_x14), (ev21 h_x16), (rfl : true = true), trivial⟩
    · clear h; subst hq; have h := h1'; clear h1'
      obtain ⟨v_x7, h_x8, h⟩ := bd_or h
      obtain ⟨v_x9, h_x10, h⟩ := bd_or h
      obtain ⟨v_x11, h_x12, h⟩ := bd_or h
      obtain ⟨v_x13, h_x14, h⟩ := bd_or h
      exact mgo_at (nb := 0) hmix (ih _ _ h) (n := 23) (ad := [(some 23, .test true), (some 25, .row [ic parent_x4, ic type_x4, bc many_x4, ic window_x4, .imm bars_x4, .imm leaves_x4, .imm guards_x4, .imm ends_x4]), (some 30, .look none), (some 34, .call (.ret (.c (.own 2 v_x7))) [] false), (some 37, .call (.ret (.c (.own 7 v_x9))) [] false), (some 40, .call (.ret (.c (.own 7 v_x11))) [] false), (some 50, .call (.ret (.c (ic v_x13))) [] true)]) (ps := [_, _, _, _, _, _, _, _]) (m := bm 96 79228162514228308796517645827) (ls := []) (cs := []) (by kernel_rfl) ⟨h_x1, ix_row h_x3 rfl, h_x6, (ev19 h_x8), (ev20 h_x10), (ev20 h_x12), (ev21 h_x14), (rfl : true = true), trivial⟩
  ·
    rw [← Option.some.inj h]
    exact mgo_fin (nb := 0) hmix (n := 2000) (ad := [(some 23, .test false)]) (ps := [_]) (by kernel_rfl) ⟨h_x1, trivial⟩
theorem t8_h1_ok (k : Nat) (rec : S8 → Option R8) (ih : ∀ s r, rec s = some r → P8 s r) (became4 : Es) (i5 : Int) (ends7 : Rs) (at8 : Int) (t20 : Rs) (t21 : Int) (t22 : Int) (t55 : Bool) (loc6_0 : Int) (loc6_1 : Int) (loc6_2 : Bool) (loc6_3 : Int) (loc6_4 : Rs) (loc6_5 : Rs) (loc6_6 : Rs) (loc3_0 : Int) (loc3_1 : Rs) (loc3_2 : Rs) (loc2_0 : Int) (r : R8) (h : t8_h1 k rec became4 i5 ends7 at8 t20 t21 t22 t55 loc6_0 loc6_1 loc6_2 loc6_3 loc6_4 loc6_5 loc6_6 loc3_0 loc3_1 loc3_2 loc2_0 = some r) : P8 (.h1 became4 i5 ends7 at8 t20 t21 t22 t55 loc6_0 loc6_1 loc6_2 loc6_3 loc6_4 loc6_5 loc6_6 loc3_0 loc3_1 loc3_2 loc2_0) r := by
  unfold t8_h1 at h
  rcases bif_or h with ⟨hq, h1'⟩ | ⟨hq, h1'⟩
  · clear h; subst hq; have h := h1'; clear h1'
    obtain ⟨h_x1, h⟩ := gd_or h
    exact mgo_at (nb := 0) hmix (ih _ _ h) (n := 2) (ad := [(some 60, .okE false)]) (ps := [_]) (m := bm 96 79228162514264337593536609859) (ls := [6]) (cs := []) (by kernel_rfl) ⟨okF [[ic loc6_0, ic loc6_1, bc loc6_2, ic loc6_3, .imm (immRs loc6_4), .imm (immRs loc6_5), .imm (immRs loc6_6), .nil]] h_x1, trivial⟩
  · clear h; subst hq; have h := h1'; clear h1'
    exact mgo_at (nb := 0) hmix (ih _ _ h) (n := 2) (ad := []) (ps := []) (m := bm 96 79228162514264337593536609859) (ls := [6]) (cs := []) (by kernel_rfl) trivial
theorem t8_h2_ok (k : Nat) (rec : S8 → Option R8) (ih : ∀ s r, rec s = some r → P8 s r) (became4 : Es) (i5 : Int) (ends7 : Rs) (at8 : Int) (t20 : Rs) (t21 : Int) (t22 : Int) (loc3_0 : Int) (loc3_1 : Rs) (loc3_2 : Rs) (loc2_0 : Int) (r : R8) (h : t8_h2 k rec became4 i5 ends7 at8 t20 t21 t22 loc3_0 loc3_1 loc3_2 loc2_0 = some r) : P8 (.h2 became4 i5 ends7 at8 t20 t21 t22 loc3_0 loc3_1 loc3_2 loc2_0) r := by
  unfold t8_h2 at h
  obtain ⟨es_x1, h_x2, h⟩ := bd_or h
  exact mgo_at (nb := 0) hmix (ih _ _ h) (n := 6) (ad := [(none, .put es_x1)]) (ps := [_]) (m := bm 96 79228162256009920561602887395) (ls := []) (cs := []) (by kernel_rfl) ⟨h_x2, trivial⟩
theorem t8_h3_ok (k : Nat) (rec : S8 → Option R8) (ih : ∀ s r, rec s = some r → P8 s r) (became4 : Es) (at8 : Int) (t20 : Rs) (t21 : Int) (t22 : Int) (t65 : Rs) (t66 : Int) (t67 : Int) (loc3_0 : Int) (loc3_1 : Rs) (loc3_2 : Rs) (loc2_0 : Int) (r : R8) (h : t8_h3 k rec became4 at8 t20 t21 t22 t65 t66 t67 loc3_0 loc3_1 loc3_2 loc2_0 = some r) : P8 (.h3 became4 at8 t20 t21 t22 t65 t66 t67 loc3_0 loc3_1 loc3_2 loc2_0) r := by
  unfold t8_h3 at h
  rcases bif_or h with ⟨h_x1, h⟩ | ⟨h_x1, h⟩
  ·
    obtain ⟨w_x2, h_x3, h⟩ := ixR_or h
    obtain ⟨branch_x4, closes_x4, bars_x4, hq, h1'⟩ := un_imm_or h
    clear h; subst hq; have h := h1'; clear h1'
    obtain ⟨v_x5, h_x6, h⟩ := bd_or h
    obtain ⟨v_x7, h_x8, h⟩ := bd_or h
    obtain ⟨w_x9, h_x10, h⟩ := ixR_or h
    rcases ua_iibim3n_iibim3o3_or h with ⟨parent_x11, type_x11, many_x11, window_x11, bars_x11, leaves_x11, guards_x11, hq, h1'⟩ | ⟨parent_x11, type_x11, many_x11, window_x11, bars_x11, leaves_x11, guards_x11, ends_x11, hq, h1'⟩
    · clear h; subst hq; have h := h1'; clear h1'
      exact mgo_at (nb := 0) hmix (ih _ _ h) (n := 14) (ad := [(some 68, .test true), (some 69, .row [ic branch_x4, .imm closes_x4, .imm bars_x4]), (none, .st), (some 73, .call (.ret (.c (.own 7 v_x5))) [] false), (some 76, .call (.ret (.c (.own 2 v_x7))) [] false), (none, .st), (none, .st), (some 85, .bnd), (some 87, .ld [ic parent_x11, ic type_x11, bc many_x11, ic window_x11, .imm bars_x11, .imm leaves_x11, .imm guards_x11, .nil]), (some 91, .bnd), (none, .st)]) (ps := [_, _, _, _, _, _, _, _, _, _, _, _, _]) (m := bm 96 79228162256009920561602887395) (ls := [10]) (cs := []) (by kernel_rfl) ⟨h_x1, ix_row h_x3 rfl, (⟨_, rfl⟩ : ∃ c0, cellAt [[ic 0, .nil, .nil]] 0 0 = some c0), (⟨_, rfl⟩ : ∃ c0, cellAt [[ic branch_x4, .nil, .nil]] 0 1 = some c0), (⟨_, rfl⟩ : ∃ c0, cellAt [[ic branch_x4, .imm closes_x4, .nil]] 0 2 = some c0), (ev20 h_x6), (ev19 h_x8), (⟨_, rfl⟩ : ∃ c0, cellAt [[ic branch_x4, .imm closes_x4, .imm bars_x4]] 0 1 = some c0), (⟨_, rfl⟩ : ∃ c0, cellAt [[ic branch_x4, .own 7 v_x5, .imm bars_x4]] 0 2 = some c0), ix_bnd h_x10, h_x10.2, ix_bnd h_x10, ix_cell (o := 7) h_x10 rfl, trivial⟩
    · clear h; subst hq; have h := h1'; clear h1'
      obtain ⟨h_x12, h⟩ := gd_or h
      exact mgo_at (nb := 0) hmix (ih _ _ h) (n := 14) (ad := [(some 68, .test true), (some 69, .row [ic branch_x4, .imm closes_x4, .imm bars_x4]), (none, .st), (some 73, .call (.ret (.c (.own 7 v_x5))) [] false), (some 76, .call (.ret (.c (.own 2 v_x7))) [] false), (none, .st), (none, .st), (none, .alt 1 11), (some 85, .bnd), (some 87, .ld [ic parent_x11, ic type_x11, bc many_x11, ic window_x11, .imm bars_x11, .imm leaves_x11, .imm guards_x11, .own 3 ends_x11]), (some 90, .okO ends_x11 false), (some 91, .bnd), (none, .st), (some 85, .bnd), (some 87, .ld [ic parent_x11, ic type_x11, bc many_x11, ic window_x11, .imm bars_x11, .imm leaves_x11, .imm guards_x11, .own 3 ends_x11]), (some 90, .okO ends_x11 false), (some 91, .bnd), (none, .st)]) (ps := [_, _, _, _, _, _, _, _, _, _, _, _, _, _, _, _, _, _, _, _, _, _, _, _]) (m := bm 96 79228162256009920561602887395) (ls := [10]) (cs := []) (by kernel_rfl) ⟨h_x1, ix_row h_x3 rfl, (⟨_, rfl⟩ : ∃ c0, cellAt [[ic 0, .nil, .nil]] 0 0 = some c0), (⟨_, rfl⟩ : ∃ c0, cellAt [[ic branch_x4, .nil, .nil]] 0 1 = some c0), (⟨_, rfl⟩ : ∃ c0, cellAt [[ic branch_x4, .imm closes_x4, .nil]] 0 2 = some c0), (ev20 h_x6), (ev19 h_x8), (⟨_, rfl⟩ : ∃ c0, cellAt [[ic branch_x4, .imm closes_x4, .imm bars_x4]] 0 1 = some c0), (⟨_, rfl⟩ : ∃ c0, cellAt [[ic branch_x4, .own 7 v_x5, .imm bars_x4]] 0 2 = some c0), (rfl : (⟨[.deadv, .deadv, .c (.ptr ⟨⟨.loc 2, []⟩, 0, 0⟩), .c (.ptr ⟨⟨.loc 3, []⟩, 0, 0⟩), .c (.mp became4)] ++ rep 3 .deadv ++ [.c (ic at8), .deadv, .c (.ptr ⟨⟨.loc 10, []⟩, 0, 0⟩)] ++ rep 9 .deadv ++ [.c (.imm t20), .c (ic t21), .c (ic t22)] ++ rep 42 .deadv ++ [.c (.imm t65), .c (ic t66), .c (ic t67), .c (bc true), .c (.cptr [ic branch_x4, .imm closes_x4, .imm bars_x4] 0), .ag [ic branch_x4, .imm closes_x4, .imm bars_x4], .c (.ptr ⟨⟨.loc 10, []⟩, 0, 1⟩), .c (.imm closes_x4), .deadv, .c (.ptr ⟨⟨.loc 10, []⟩, 0, 2⟩), .c (.imm bars_x4), .deadv, .c (.ptr ⟨⟨.loc 10, []⟩, 0, 1⟩), .c (.ptr ⟨⟨.loc 10, []⟩, 0, 2⟩), .c (.ptr ⟨⟨.loc 3, []⟩, 0, 2⟩), .c (.ref ⟨⟨.loc 3, []⟩, 0, 2⟩), .c (ic at8), .c (.ptr ⟨⟨.loc 3, []⟩, 0, 2⟩), .c (.ref ⟨⟨.loc 3, []⟩, 0, 2⟩), .c (ic at8), .c (.ptr ⟨⟨.loc 3, [(0, 2)]⟩, at8.toNat, 0⟩), .c (.ptr ⟨⟨.loc 3, [(0, 2)]⟩, at8.toNat, 7⟩), .deadv, .ag [ic branch_x4, .ref ⟨⟨.loc 10, []⟩, 0, 1⟩, .ref ⟨⟨.loc 10, []⟩, 0, 2⟩], .deadv, .deadv, .c (.ptr ⟨⟨.loc 3, [(0, 2)]⟩, at8.toNat, 0⟩), .c (.ptr ⟨⟨.loc 3, [(0, 2)]⟩, at8.toNat, 7⟩)] ++ rep 3 .deadv, [(.loc 10, [ic branch_x4, .imm (immRs v_x5), .imm (immRs v_x7)]), (.loc 3, [ic loc3_0, .own 1 loc3_1, .own 8 (setRow (setRow loc3_2 at8.toNat 7 .dead) at8.toNat 7 (.own 3 (ends_x11 ++ [[ic branch_x4, .imm (immRs v_x5), .imm (immRs v_x7)]])))]), (.loc 2, [ic loc2_0, .nil, .nil])]⟩ : Fr) = ⟨[.deadv, .deadv, .c (.ptr ⟨⟨.loc 2, []⟩, 0, 0⟩), .c (.ptr ⟨⟨.loc 3, []⟩, 0, 0⟩), .c (.mp became4)] ++ rep 3 .deadv ++ [.c (ic at8), .deadv, .c (.ptr ⟨⟨.loc 10, []⟩, 0, 0⟩)] ++ rep 9 .deadv ++ [.c (.imm t20), .c (ic t21), .c (ic t22)] ++ rep 42 .deadv ++ [.c (.imm t65), .c (ic t66), .c (ic t67), .c (bc true), .c (.cptr [ic branch_x4, .imm closes_x4, .imm bars_x4] 0), .ag [ic branch_x4, .imm closes_x4, .imm bars_x4], .c (.ptr ⟨⟨.loc 10, []⟩, 0, 1⟩), .c (.imm closes_x4), .deadv, .c (.ptr ⟨⟨.loc 10, []⟩, 0, 2⟩), .c (.imm bars_x4), .deadv, .c (.ptr ⟨⟨.loc 10, []⟩, 0, 1⟩), .c (.ptr ⟨⟨.loc 10, []⟩, 0, 2⟩), .c (.ptr ⟨⟨.loc 3, []⟩, 0, 2⟩), .c (.ref ⟨⟨.loc 3, []⟩, 0, 2⟩), .c (ic at8), .c (.ptr ⟨⟨.loc 3, []⟩, 0, 2⟩), .c (.ref ⟨⟨.loc 3, []⟩, 0, 2⟩), .c (ic at8), .c (.ptr ⟨⟨.loc 3, [(0, 2)]⟩, at8.toNat, 0⟩), .c (.ptr ⟨⟨.loc 3, [(0, 2)]⟩, at8.toNat, 7⟩), .deadv, .ag [ic branch_x4, .ref ⟨⟨.loc 10, []⟩, 0, 1⟩, .ref ⟨⟨.loc 10, []⟩, 0, 2⟩], .deadv, .deadv, .c (.ptr ⟨⟨.loc 3, [(0, 2)]⟩, at8.toNat, 0⟩), .c (.ptr ⟨⟨.loc 3, [(0, 2)]⟩, at8.toNat, 7⟩)] ++ rep 3 .deadv, [(.loc 10, [ic branch_x4, .imm (immRs v_x5), .imm (immRs v_x7)]), (.loc 3, [ic loc3_0, .own 1 loc3_1, .own 8 (setRow (setRow loc3_2 at8.toNat 7 .dead) at8.toNat 7 (.own 3 (ends_x11 ++ [[ic branch_x4, .imm (immRs v_x5), .imm (immRs v_x7)]])))]), (.loc 2, [ic loc2_0, .nil, .nil])]⟩), ix_bnd h_x10, h_x10.2, ix_at (o := 7) h_x10 rfl, (rfl : some (AV.c (.ref ⟨⟨.loc 3, [(0, 2)]⟩, at8.toNat, 7⟩)) = some (AV.c (.ref ⟨⟨.loc 3, [(0, 2)]⟩, at8.toNat, 7⟩))), okF [[ic branch_x4, .imm (immRs v_x5), .imm (immRs v_x7)]] h_x12, ix_bnd (row_set (o := 7) (c := .dead) h_x10), ix_cell (o := 7) (row_set (o := 7) (c := .dead) h_x10) rfl, ix_bnd h_x10, h_x10.2, ix_at (o := 7) h_x10 rfl, (rfl : some (AV.c (.ref ⟨⟨.loc 3, [(0, 2)]⟩, at8.toNat, 7⟩)) = some (AV.c (.ref ⟨⟨.loc 3, [(0, 2)]⟩, at8.toNat, 7⟩))), okF [[ic branch_x4, .imm (immRs v_x5), .imm (immRs v_x7)]] h_x12, ix_bnd (row_set (o := 7) (c := .dead) h_x10), ix_cell (o := 7) (row_set (o := 7) (c := .dead) h_x10) rfl, trivial⟩
  ·
    exact mgo_at (nb := 0) hmix (ih _ _ h) (n := 8) (ad := [(some 68, .test false)]) (ps := [_]) (m := bm 96 79228162514264337593536610275) (ls := []) (cs := []) (by kernel_rfl) ⟨h_x1, trivial⟩
theorem t8_h4_ok (k : Nat) (rec : S8 → Option R8) (ih : ∀ s r, rec s = some r → P8 s r) (became4 : Es) (at8 : Int) (t20 : Rs) (t21 : Int) (t22 : Int) (t65 : Rs) (t66 : Int) (t67 : Int) (loc3_0 : Int) (loc3_1 : Rs) (loc3_2 : Rs) (loc2_0 : Int) (r : R8) (h : t8_h4 k rec became4 at8 t20 t21 t22 t65 t66 t67 loc3_0 loc3_1 loc3_2 loc2_0 = some r) : P8 (.h4 became4 at8 t20 t21 t22 t65 t66 t67 loc3_0 loc3_1 loc3_2 loc2_0) r := by
  unfold t8_h4 at h
  exact mgo_at (nb := 0) hmix (ih _ _ h) (n := 1) (ad := []) (ps := []) (m := bm 96 79228162256009920561602887395) (ls := []) (cs := []) (by kernel_rfl) trivial
theorem ok8 : ∀ k s r, itS step8 k s = some r → P8 s r := itS_ok fun k rec ih s r h => match s, h with
  | .e a0_0 a0_1 a0_2, h => t8_e_ok k rec ih a0_0 a0_1 a0_2 r h
  | .h0 became4 t20 t21 t22 loc3_0 loc3_1 loc3_2 loc2_0, h => t8_h0_ok k rec ih became4 t20 t21 t22 loc3_0 loc3_1 loc3_2 loc2_0 r h
  | .h1 became4 i5 ends7 at8 t20 t21 t22 t55 loc6_0 loc6_1 loc6_2 loc6_3 loc6_4 loc6_5 loc6_6 loc3_0 loc3_1 loc3_2 loc2_0, h => t8_h1_ok k rec ih became4 i5 ends7 at8 t20 t21 t22 t55 loc6_0 loc6_1 loc6_2 loc6_3 loc6_4 loc6_5 loc6_6 loc3_0 loc3_1 loc3_2 loc2_0 r h
  | .h2 became4 i5 ends7 at8 t20 t21 t22 loc3_0 loc3_1 loc3_2 loc2_0, h => t8_h2_ok k rec ih became4 i5 ends7 at8 t20 t21 t22 loc3_0 loc3_1 loc3_2 loc2_0 r h
  | .h3 became4 at8 t20 t21 t22 t65 t66 t67 loc3_0 loc3_1 loc3_2 loc2_0, h => t8_h3_ok k rec ih became4 at8 t20 t21 t22 t65 t66 t67 loc3_0 loc3_1 loc3_2 loc2_0 r h
  | .h4 became4 at8 t20 t21 t22 t65 t66 t67 loc3_0 loc3_1 loc3_2 loc2_0, h => t8_h4_ok k rec ih became4 at8 t20 t21 t22 t65 t66 t67 loc3_0 loc3_1 loc3_2 loc2_0 r h
theorem ev8 {k : Nat} {a0_0 : Int} {a0_1 : Rs} {a0_2 : Rs} {r : R8} (h : g8 k a0_0 a0_1 a0_2 = some r) : Ev Tryz.prog noHand 8 [.ag [ic a0_0, .imm a0_1, .imm a0_2]] [] (res8 r) (bx8 r) := evr8 (ok8 _ _ _ h)
-- auspice/auspiceref08.SameNodes
inductive S17 where
  | e (a0 : Rs) (b1 : Rs)
  | h0 (a0 : Rs) (b1 : Rs) (t14 : Int) (t15 : Int)
  | h1 (a0 : Rs) (b1 : Rs) (t14 : Int) (t15 : Int) (t66 : Bool)
abbrev R17 := Bool
def res17 : R17 → ARes
  | r => .ret (.c (bc r))
def bx17 : R17 → List (List Cell)
  | r => []
noncomputable def t17_e (k : Nat) (rec : S17 → Option R17) (a0 : Rs) (b1 : Rs) : Option R17 :=
  bif (a0.length : Int) != (b1.length : Int) then
    some false
  else
    rec (.h0 a0 b1 (a0.length : Int) 0)
noncomputable def t17_h0 (k : Nat) (rec : S17 → Option R17) (a0 : Rs) (b1 : Rs) (t14 : Int) (t15 : Int) : Option R17 :=
  bif decide (t15 < t14) then
    ixR a0 t15 fun w_x2 =>
    un_iimiuii w_x2 fun op_x4 kind_x4 args_x4 valueKind_x4 valueBits_x4 pos_x4 attr_x4 =>
    ixR b1 t15 fun w_x5 =>
    un_iimiuii w_x5 fun op_x7 kind_x7 args_x7 valueKind_x7 valueBits_x7 pos_x7 attr_x7 =>
    bif op_x4 != op_x7 then
      rec (.h1 a0 b1 t14 t15 true)
    else
      bif kind_x4 != kind_x7 then
        rec (.h1 a0 b1 t14 t15 true)
      else
        bif !(valueKind_x4 == valueKind_x7 && (valueBits_x4 == valueBits_x7 && true)) then
          rec (.h1 a0 b1 t14 t15 true)
        else
          bif pos_x4 != pos_x7 then
            rec (.h1 a0 b1 t14 t15 true)
          else
            bif attr_x4 != attr_x7 then
              rec (.h1 a0 b1 t14 t15 true)
            else
              (rec (.e args_x4 args_x7)).bind fun v_x13 =>
              rec (.h1 a0 b1 t14 t15 (!v_x13))
  else
    some true
noncomputable def t17_h1 (k : Nat) (rec : S17 → Option R17) (a0 : Rs) (b1 : Rs) (t14 : Int) (t15 : Int) (t66 : Bool) : Option R17 :=
  bif t66 then
    some false
  else
    rec (.h0 a0 b1 t14 (IntKind.i64.wrap (t15 + 1)))
noncomputable def step17 (k : Nat) (rec : S17 → Option R17) : S17 → Option R17
  | .e a0 b1 => t17_e k rec a0 b1
  | .h0 a0 b1 t14 t15 => t17_h0 k rec a0 b1 t14 t15
  | .h1 a0 b1 t14 t15 t66 => t17_h1 k rec a0 b1 t14 t15 t66
noncomputable def g17 (k : Nat) (a0 : Rs) (b1 : Rs) : Option R17 := itS step17 k (.e a0 b1)
noncomputable def P17 : S17 → R17 → Prop
  | .e a0 b1, r => Fin cx17 Tryz.f17 [.code body17] (fr0 Tryz.f17 [.c (.imm a0), .c (.imm b1)] []) (res17 r) (bx17 r)
  | .h0 a0 b1 t14 t15, r => Fin cx17 Tryz.f17 (kAt body17 [1, 1, 0, 1, 0, 4] []) ⟨[.c (.imm a0), .c (.imm b1)] ++ rep 12 .deadv ++ [.c (ic t14), .c (ic t15)] ++ rep 52 .deadv, []⟩ (res17 r) (bx17 r)
  | .h1 a0 b1 t14 t15 t66, r => Fin cx17 Tryz.f17 (kAt body17 [1, 1, 0, 1, 0, 0, 1, 1, 0, 0, 1, 1, 1, 2] []) ⟨[.c (.imm a0), .c (.imm b1)] ++ rep 12 .deadv ++ [.c (ic t14), .c (ic t15)] ++ rep 50 .deadv ++ [.c (bc t66), .deadv], []⟩ (res17 r) (bx17 r)
theorem evr17 {a0 : Rs} {b1 : Rs} {r : R17} (h : P17 (.e a0 b1) r) : Ev Tryz.prog noHand 17 [.c (.imm a0), .c (.imm b1)] [] (res17 r) (bx17 r) := ev_of_fin (fn := Tryz.f17) (body := body17) (by kernel_rfl) (by kernel_rfl) (by kernel_rfl) rfl h
theorem t17_e_ok (k : Nat) (rec : S17 → Option R17) (ih : ∀ s r, rec s = some r → P17 s r) (a0 : Rs) (b1 : Rs) (r : R17) (h : t17_e k rec a0 b1 = some r) : P17 (.e a0 b1) r := by
  unfold t17_e at h
  rcases bif_or h with ⟨h_x1, h⟩ | ⟨h_x1, h⟩
  ·
    rw [← Option.some.inj h]
    exact mgo_fin (nb := 0) hmix (n := 2000) (ad := [(some 12, .test true)]) (ps := [_]) (by kernel_rfl) ⟨h_x1, trivial⟩
  ·
    exact mgo_at (nb := 0) hmix (ih _ _ h) (n := 12) (ad := [(some 12, .test false)]) (ps := [_]) (m := bm 68 295147905179352776700) (ls := []) (cs := []) (by kernel_rfl) ⟨h_x1, trivial⟩
theorem t17_h0_ok (k : Nat) (rec : S17 → Option R17) (ih : ∀ s r, rec s = some r → P17 s r) (a0 : Rs) (b1 : Rs) (t14 : Int) (t15 : Int) (r : R17) (h : t17_h0 k rec a0 b1 t14 t15 = some r) : P17 (.h0 a0 b1 t14 t15) r := by
  unfold t17_h0 at h
  rcases bif_or h with ⟨h_x1, h⟩ | ⟨h_x1, h⟩
  ·
    obtain ⟨w_x2, h_x3, h⟩ := ixR_or h
    obtain ⟨op_x4, kind_x4, args_x4, valueKind_x4, valueBits_x4, pos_x4, attr_x4, hq, h1'⟩ := un_iimiuii_or h
    clear h; subst hq; have h := h1'; clear h1'
    obtain ⟨w_x5, h_x6, h⟩ := ixR_or h
    obtain ⟨op_x7, kind_x7, args_x7, valueKind_x7, valueBits_x7, pos_x7, attr_x7, hq, h1'⟩ := un_iimiuii_or h
    clear h; subst hq; have h := h1'; clear h1'
    rcases bif_or h with ⟨h_x8, h⟩ | ⟨h_x8, h⟩
    ·
      exact mgo_at (nb := 0) hmix (ih _ _ h) (n := 14) (ad := [(some 16, .test true), (some 20, .row [ic op_x4, ic kind_x4, .imm args_x4, ic valueKind_x4, .val (.int .u64 valueBits_x4), ic pos_x4, ic attr_x4]), (some 24, .row [ic op_x7, ic kind_x7, .imm args_x7, ic valueKind_x7, .val (.int .u64 valueBits_x7), ic pos_x7, ic attr_x7]), (some 30, .test true)]) (ps := [_, _, _, _]) (m := bm 68 221360928884514570236) (ls := [7, 6]) (cs := []) (by kernel_rfl) ⟨h_x1, ix_row h_x3 rfl, ix_row h_x6 rfl, h_x8, trivial⟩
    ·
      rcases bif_or h with ⟨h_x9, h⟩ | ⟨h_x9, h⟩
      ·
        exact mgo_at (nb := 0) hmix (ih _ _ h) (n := 14) (ad := [(some 16, .test true), (some 20, .row [ic op_x4, ic kind_x4, .imm args_x4, ic valueKind_x4, .val (.int .u64 valueBits_x4), ic pos_x4, ic attr_x4]), (some 24, .row [ic op_x7, ic kind_x7, .imm args_x7, ic valueKind_x7, .val (.int .u64 valueBits_x7), ic pos_x7, ic attr_x7]), (some 30, .test false), (some 36, .test true)]) (ps := [_, _, _, _, _]) (m := bm 68 221360928884514570236) (ls := [7, 6]) (cs := []) (by kernel_rfl) ⟨h_x1, ix_row h_x3 rfl, ix_row h_x6 rfl, h_x8, h_x9, trivial⟩
      ·
        rcases bif_or h with ⟨h_x10, h⟩ | ⟨h_x10, h⟩
        ·
          exact mgo_at (nb := 0) hmix (ih _ _ h) (n := 14) (ad := [(some 16, .test true), (some 20, .row [ic op_x4, ic kind_x4, .imm args_x4, ic valueKind_x4, .val (.int .u64 valueBits_x4), ic pos_x4, ic attr_x4]), (some 24, .row [ic op_x7, ic kind_x7, .imm args_x7, ic valueKind_x7, .val (.int .u64 valueBits_x7), ic pos_x7, ic attr_x7]), (some 30, .test false), (some 36, .test false), (some 43, .test true)]) (ps := [_, _, _, _, _, _]) (m := bm 68 221360928884514570236) (ls := [7, 6]) (cs := []) (by kernel_rfl) ⟨h_x1, ix_row h_x3 rfl, ix_row h_x6 rfl, h_x8, h_x9, h_x10, trivial⟩
        ·
          rcases bif_or h with ⟨h_x11, h⟩ | ⟨h_x11, h⟩
          ·
            exact mgo_at (nb := 0) hmix (ih _ _ h) (n := 14) (ad := [(some 16, .test true), (some 20, .row [ic op_x4, ic kind_x4, .imm args_x4, ic valueKind_x4, .val (.int .u64 valueBits_x4), ic pos_x4, ic attr_x4]), (some 24, .row [ic op_x7, ic kind_x7, .imm args_x7, ic valueKind_x7, .val (.int .u64 valueBits_x7), ic pos_x7, ic attr_x7]), (some 30, .test false), (some 36, .test false), (some 43, .test false), (some 50, .test true)]) (ps := [_, _, _, _, _, _, _]) (m := bm 68 221360928884514570236) (ls := [7, 6]) (cs := []) (by kernel_rfl) ⟨h_x1, ix_row h_x3 rfl, ix_row h_x6 rfl, h_x8, h_x9, h_x10, h_x11, trivial⟩
          ·
            rcases bif_or h with ⟨h_x12, h⟩ | ⟨h_x12, h⟩
            ·
              exact mgo_at (nb := 0) hmix (ih _ _ h) (n := 14) (ad := [(some 16, .test true), (some 20, .row [ic op_x4, ic kind_x4, .imm args_x4, ic valueKind_x4, .val (.int .u64 valueBits_x4), ic pos_x4, ic attr_x4]), (some 24, .row [ic op_x7, ic kind_x7, .imm args_x7, ic valueKind_x7, .val (.int .u64 valueBits_x7), ic pos_x7, ic attr_x7]), (some 30, .test false), (some 36, .test false), (some 43, .test false), (some 50, .test false), (some 57, .test true)]) (ps := [_, _, _, _, _, _, _, _]) (m := bm 68 221360928884514570236) (ls := [7, 6]) (cs := []) (by kernel_rfl) ⟨h_x1, ix_row h_x3 rfl, ix_row h_x6 rfl, h_x8, h_x9, h_x10, h_x11, h_x12, trivial⟩
            ·
              obtain ⟨v_x13, h_x14, h⟩ := bd_or h
              exact mgo_at (nb := 0) hmix (ih _ _ h) (n := 14) (ad := [(some 16, .test true), (some 20, .row [ic op_x4, ic kind_x4, .imm args_x4, ic valueKind_x4, .val (.int .u64 valueBits_x4), ic pos_x4, ic attr_x4]), (some 24, .row [ic op_x7, ic kind_x7, .imm args_x7, ic valueKind_x7, .val (.int .u64 valueBits_x7), ic pos_x7, ic attr_x7]), (some 30, .test false), (some 36, .test false), (some 43, .test false), (some 50, .test false), (some 57, .test false), (some 64, .call (.ret (.c (bc v_x13))) [] false)]) (ps := [_, _, _, _, _, _, _, _, _]) (m := bm 68 221360928884514570236) (ls := [7, 6]) (cs := []) (by kernel_rfl) ⟨h_x1, ix_row h_x3 rfl, ix_row h_x6 rfl, h_x8, h_x9, h_x10, h_x11, h_x12, (evr17 (ih _ _ h_x14)), trivial⟩
  ·
    rw [← Option.some.inj h]
    exact mgo_fin (nb := 0) hmix (n := 2000) (ad := [(some 16, .test false)]) (ps := [_]) (by kernel_rfl) ⟨h_x1, trivial⟩
theorem t17_h1_ok (k : Nat) (rec : S17 → Option R17) (ih : ∀ s r, rec s = some r → P17 s r) (a0 : Rs) (b1 : Rs) (t14 : Int) (t15 : Int) (t66 : Bool) (r : R17) (h : t17_h1 k rec a0 b1 t14 t15 t66 = some r) : P17 (.h1 a0 b1 t14 t15 t66) r := by
  unfold t17_h1 at h
  rcases bif_or h with ⟨hq, h1'⟩ | ⟨hq, h1'⟩
  · clear h; subst hq; have h := h1'; clear h1'
    rw [← Option.some.inj h]
    exact mgo_fin (nb := 0) hmix (n := 2000) (ad := []) (ps := []) (by kernel_rfl) trivial
  · clear h; subst hq; have h := h1'; clear h1'
    exact mgo_at (nb := 0) hmix (ih _ _ h) (n := 4) (ad := []) (ps := []) (m := bm 68 295147905179352776700) (ls := []) (cs := []) (by kernel_rfl) trivial
theorem ok17 : ∀ k s r, itS step17 k s = some r → P17 s r := itS_ok fun k rec ih s r h => match s, h with
  | .e a0 b1, h => t17_e_ok k rec ih a0 b1 r h
  | .h0 a0 b1 t14 t15, h => t17_h0_ok k rec ih a0 b1 t14 t15 r h
  | .h1 a0 b1 t14 t15 t66, h => t17_h1_ok k rec ih a0 b1 t14 t15 t66 r h
theorem ev17 {k : Nat} {a0 : Rs} {b1 : Rs} {r : R17} (h : g17 k a0 b1 = some r) : Ev Tryz.prog noHand 17 [.c (.imm a0), .c (.imm b1)] [] (res17 r) (bx17 r) := evr17 (ok17 _ _ _ h)
end Ab
end Go.Proofs.YtgghingfdcmelaaGreat
