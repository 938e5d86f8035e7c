/-
  Functions' ways, printed by a program: what each computes, and that this is what the interpreter computes.
-/
import Derived.Test.YtgghingfdcmelaaFd
import Derived.KernelRfl
set_option linter.unusedVariables false
set_option linter.unusedSimpArgs false
namespace Go.Proofs.Ytgghingfdcmelaa
namespace Ab
def un_i {α : Type} (row : List Cell) (k : Int → Option α) : Option α := match row with
  | [.val (.int .i64 x0)] => k x0
  | _ => none
theorem un_i_or {α : Type} {row : List Cell} {k : Int → Option α} {r : α} (h : un_i row k = some r) : ∃ x0, row = [.val (.int .i64 x0)] ∧ k x0 = some r := by
  unfold un_i at h
  split at h
  · exact ⟨_, rfl, h⟩
  · cases h
def un_iibim3n {α : Type} (row : List Cell) (k : Int → Int → Bool → Int → Rs → Rs → Rs → Option α) : Option α := match row with
  | [.val (.int .i64 x0), .val (.int .i64 x1), .val (.bool x2), .val (.int .i64 x3), .imm x4, .imm x5, .imm x6, .nil] => k x0 x1 x2 x3 x4 x5 x6
  | _ => none
theorem un_iibim3n_or {α : Type} {row : List Cell} {k : Int → Int → Bool → Int → Rs → Rs → Rs → Option α} {r : α} (h : un_iibim3n row k = some r) : ∃ x0 x1 x2 x3 x4 x5 x6, row = [.val (.int .i64 x0), .val (.int .i64 x1), .val (.bool x2), .val (.int .i64 x3), .imm x4, .imm x5, .imm x6, .nil] ∧ k x0 x1 x2 x3 x4 x5 x6 = some r := by
  unfold un_iibim3n at h
  split at h
  · exact ⟨_, _, _, _, _, _, _, rfl, h⟩
  · cases h
def un_iibim3o3 {α : Type} (row : List Cell) (k : Int → Int → Bool → Int → Rs → Rs → Rs → Rs → Option α) : Option α := match row with
  | [.val (.int .i64 x0), .val (.int .i64 x1), .val (.bool x2), .val (.int .i64 x3), .imm x4, .imm x5, .imm x6, .own 3 x7] => k x0 x1 x2 x3 x4 x5 x6 x7
  | _ => none
theorem un_iibim3o3_or {α : Type} {row : List Cell} {k : Int → Int → Bool → Int → Rs → Rs → Rs → Rs → Option α} {r : α} (h : un_iibim3o3 row k = some r) : ∃ x0 x1 x2 x3 x4 x5 x6 x7, row = [.val (.int .i64 x0), .val (.int .i64 x1), .val (.bool x2), .val (.int .i64 x3), .imm x4, .imm x5, .imm x6, .own 3 x7] ∧ k x0 x1 x2 x3 x4 x5 x6 x7 = some r := by
  unfold un_iibim3o3 at h
  split at h
  · exact ⟨_, _, _, _, _, _, _, _, rfl, h⟩
  · cases h
def un_iibim4 {α : Type} (row : List Cell) (k : Int → Int → Bool → Int → Rs → Rs → Rs → Rs → Option α) : Option α := match row with
  | [.val (.int .i64 x0), .val (.int .i64 x1), .val (.bool x2), .val (.int .i64 x3), .imm x4, .imm x5, .imm x6, .imm x7] => k x0 x1 x2 x3 x4 x5 x6 x7
  | _ => none
theorem un_iibim4_or {α : Type} {row : List Cell} {k : Int → Int → Bool → Int → Rs → Rs → Rs → Rs → Option α} {r : α} (h : un_iibim4 row k = some r) : ∃ x0 x1 x2 x3 x4 x5 x6 x7, row = [.val (.int .i64 x0), .val (.int .i64 x1), .val (.bool x2), .val (.int .i64 x3), .imm x4, .imm x5, .imm x6, .imm x7] ∧ k x0 x1 x2 x3 x4 x5 x6 x7 = some r := by
  unfold un_iibim4 at h
  split at h
  · exact ⟨_, _, _, _, _, _, _, _, rfl, h⟩
  · cases h
def un_iimiuii {α : Type} (row : List Cell) (k : Int → Int → Rs → Int → Int → Int → Int → Option α) : Option α := match row with
  | [.val (.int .i64 x0), .val (.int .i64 x1), .imm x2, .val (.int .i64 x3), .val (.int .u64 x4), .val (.int .i64 x5), .val (.int .i64 x6)] => k x0 x1 x2 x3 x4 x5 x6
  | _ => none
theorem un_iimiuii_or {α : Type} {row : List Cell} {k : Int → Int → Rs → Int → Int → Int → Int → Option α} {r : α} (h : un_iimiuii row k = some r) : ∃ x0 x1 x2 x3 x4 x5 x6, row = [.val (.int .i64 x0), .val (.int .i64 x1), .imm x2, .val (.int .i64 x3), .val (.int .u64 x4), .val (.int .i64 x5), .val (.int .i64 x6)] ∧ k x0 x1 x2 x3 x4 x5 x6 = some r := by
  unfold un_iimiuii at h
  split at h
  · exact ⟨_, _, _, _, _, _, _, rfl, h⟩
  · cases h
def un_im {α : Type} (row : List Cell) (k : Int → Rs → Option α) : Option α := match row with
  | [.val (.int .i64 x0), .imm x1] => k x0 x1
  | _ => none
theorem un_im_or {α : Type} {row : List Cell} {k : Int → Rs → Option α} {r : α} (h : un_im row k = some r) : ∃ x0 x1, row = [.val (.int .i64 x0), .imm x1] ∧ k x0 x1 = some r := by
  unfold un_im at h
  split at h
  · exact ⟨_, _, rfl, h⟩
  · cases h
def un_imm {α : Type} (row : List Cell) (k : Int → Rs → Rs → Option α) : Option α := match row with
  | [.val (.int .i64 x0), .imm x1, .imm x2] => k x0 x1 x2
  | _ => none
theorem un_imm_or {α : Type} {row : List Cell} {k : Int → Rs → Rs → Option α} {r : α} (h : un_imm row k = some r) : ∃ x0 x1 x2, row = [.val (.int .i64 x0), .imm x1, .imm x2] ∧ k x0 x1 x2 = some r := by
  unfold un_imm at h
  split at h
  · exact ⟨_, _, _, rfl, h⟩
  · cases h
def ua_iibim3n_iibim3o3 {α : Type} (row : List Cell) (k0 : Int → Int → Bool → Int → Rs → Rs → Rs → Option α) (k1 : Int → Int → Bool → Int → Rs → Rs → Rs → Rs → Option α) : Option α := match row with
  | [.val (.int .i64 x0), .val (.int .i64 x1), .val (.bool x2), .val (.int .i64 x3), .imm x4, .imm x5, .imm x6, .nil] => k0 x0 x1 x2 x3 x4 x5 x6
  | [.val (.int .i64 x0), .val (.int .i64 x1), .val (.bool x2), .val (.int .i64 x3), .imm x4, .imm x5, .imm x6, .own 3 x7] => k1 x0 x1 x2 x3 x4 x5 x6 x7
  | _ => none
theorem ua_iibim3n_iibim3o3_or {α : Type} {row : List Cell} {k0 : Int → Int → Bool → Int → Rs → Rs → Rs → Option α} {k1 : Int → Int → Bool → Int → Rs → Rs → Rs → Rs → Option α} {r : α} (h : ua_iibim3n_iibim3o3 row k0 k1 = some r) : (∃ x0 x1 x2 x3 x4 x5 x6, row = [.val (.int .i64 x0), .val (.int .i64 x1), .val (.bool x2), .val (.int .i64 x3), .imm x4, .imm x5, .imm x6, .nil] ∧ k0 x0 x1 x2 x3 x4 x5 x6 = some r) ∨ (∃ x0 x1 x2 x3 x4 x5 x6 x7, row = [.val (.int .i64 x0), .val (.int .i64 x1), .val (.bool x2), .val (.int .i64 x3), .imm x4, .imm x5, .imm x6, .own 3 x7] ∧ k1 x0 x1 x2 x3 x4 x5 x6 x7 = some r) := by
  unfold ua_iibim3n_iibim3o3 at h
  split at h
  · exact .inl ⟨_, _, _, _, _, _, _, rfl, h⟩
  · exact .inr (⟨_, _, _, _, _, _, _, _, rfl, h⟩)
  · cases h
-- auspice/auto.Good
inductive S5 where
  | e (a0_0 : Int) (a0_1 : Rs) (a0_2 : Rs)
  | h0 (t20 : Bool) (loc1_0 : Int) (loc1_1 : Rs) (loc1_2 : Rs)
  | h1 (t22 : Rs) (t23 : Int) (t24 : Int)
  | h2 (t22 : Rs) (t23 : Int) (t24 : Int) (t52 : Bool) (loc4_0 : Int) (loc4_1 : Int) (loc4_2 : Bool) (loc4_3 : Int) (loc4_4 : Rs) (loc4_5 : Rs) (loc4_6 : Rs) (loc4_7 : Rs)
  | h3 (t22 : Rs) (t23 : Int) (t24 : Int) (t54 : Rs) (t55 : Int) (t56 : Int)
abbrev R5 := Bool
def res5 : R5 → ARes
  | r => .ret (.c (bc r))
def bx5 : R5 → List (List Cell)
  | r => []
noncomputable def t5_e (k : Nat) (rec : S5 → Option R5) (a0_0 : Int) (a0_1 : Rs) (a0_2 : Rs) : Option R5 :=
  bif decide (a0_0 < 1) then
    rec (.h0 true a0_0 a0_1 a0_2)
  else
    bif decide (a0_0 > 3) then
      rec (.h0 true a0_0 a0_1 a0_2)
    else
      rec (.h0 (decide ((a0_2.length : Int) > 32)) a0_0 a0_1 a0_2)
noncomputable def t5_h0 (k : Nat) (rec : S5 → Option R5) (t20 : Bool) (loc1_0 : Int) (loc1_1 : Rs) (loc1_2 : Rs) : Option R5 :=
  bif t20 then
    some false
  else
    rec (.h1 loc1_2 (loc1_2.length : Int) 0)
noncomputable def t5_h1 (k : Nat) (rec : S5 → Option R5) (t22 : Rs) (t23 : Int) (t24 : Int) : Option R5 :=
  bif decide (t24 < t23) then
    ixR t22 t24 fun w_x2 =>
    un_iibim4 w_x2 fun parent_x4 type_x4 many_x4 window_x4 bars_x4 leaves_x4 guards_x4 ends_x4 =>
    bif decide (parent_x4 < (-1)) then
      rec (.h2 t22 t23 t24 true parent_x4 type_x4 many_x4 window_x4 bars_x4 leaves_x4 guards_x4 ends_x4)
    else
      bif decide (parent_x4 ≥ t24) then
        rec (.h2 t22 t23 t24 true parent_x4 type_x4 many_x4 window_x4 bars_x4 leaves_x4 guards_x4 ends_x4)
      else
        bif decide (type_x4 < 0) then
          rec (.h2 t22 t23 t24 true parent_x4 type_x4 many_x4 window_x4 bars_x4 leaves_x4 guards_x4 ends_x4)
        else
          bif decide (window_x4 < 0) then
            rec (.h2 t22 t23 t24 true parent_x4 type_x4 many_x4 window_x4 bars_x4 leaves_x4 guards_x4 ends_x4)
          else
            rec (.h2 t22 t23 t24 (decide (window_x4 > 1152921504606846976)) parent_x4 type_x4 many_x4 window_x4 bars_x4 leaves_x4 guards_x4 ends_x4)
  else
    some true
noncomputable def t5_h2 (k : Nat) (rec : S5 → Option R5) (t22 : Rs) (t23 : Int) (t24 : Int) (t52 : Bool) (loc4_0 : Int) (loc4_1 : Int) (loc4_2 : Bool) (loc4_3 : Int) (loc4_4 : Rs) (loc4_5 : Rs) (loc4_6 : Rs) (loc4_7 : Rs) : Option R5 :=
  bif t52 then
    some false
  else
    rec (.h3 t22 t23 t24 loc4_7 (loc4_7.length : Int) 0)
noncomputable def t5_h3 (k : Nat) (rec : S5 → Option R5) (t22 : Rs) (t23 : Int) (t24 : Int) (t54 : Rs) (t55 : Int) (t56 : Int) : Option R5 :=
  bif decide (t56 < t55) then
    ixR t54 t56 fun w_x2 =>
    un_imm w_x2 fun branch_x4 closes_x4 bars_x4 =>
    bif decide (branch_x4 < 0) then
      some false
    else
      rec (.h3 t22 t23 t24 t54 t55 (IntKind.i64.wrap (t56 + 1)))
  else
    rec (.h1 t22 t23 (IntKind.i64.wrap (t24 + 1)))
noncomputable def step5 (k : Nat) (rec : S5 → Option R5) : S5 → Option R5
  | .e a0_0 a0_1 a0_2 => t5_e k rec a0_0 a0_1 a0_2
  | .h0 t20 loc1_0 loc1_1 loc1_2 => t5_h0 k rec t20 loc1_0 loc1_1 loc1_2
  | .h1 t22 t23 t24 => t5_h1 k rec t22 t23 t24
  | .h2 t22 t23 t24 t52 loc4_0 loc4_1 loc4_2 loc4_3 loc4_4 loc4_5 loc4_6 loc4_7 => t5_h2 k rec t22 t23 t24 t52 loc4_0 loc4_1 loc4_2 loc4_3 loc4_4 loc4_5 loc4_6 loc4_7
  | .h3 t22 t23 t24 t54 t55 t56 => t5_h3 k rec t22 t23 t24 t54 t55 t56
noncomputable def g5 (k : Nat) (a0_0 : Int) (a0_1 : Rs) (a0_2 : Rs) : Option R5 := itS step5 k (.e a0_0 a0_1 a0_2)
noncomputable def P5 : S5 → R5 → Prop
  | .e a0_0 a0_1 a0_2, r => Fin cx5 Try.f5 [.code body5] (fr0 Try.f5 [.ag [ic a0_0, .imm a0_1, .imm a0_2]] []) (res5 r) (bx5 r)
  | .h0 t20 loc1_0 loc1_1 loc1_2, r => Fin cx5 Try.f5 (kAt body5 [1, 0, 1, 2] []) ⟨[.deadv, .c (.ptr ⟨⟨.loc 1, []⟩, 0, 0⟩)] ++ rep 18 .deadv ++ [.c (bc t20)] ++ rep 44 .deadv, [(.loc 1, [ic loc1_0, .imm loc1_1, .imm loc1_2])]⟩ (res5 r) (bx5 r)
  | .h1 t22 t23 t24, r => Fin cx5 Try.f5 (kAt body5 [1, 1, 0, 1, 0, 4] []) ⟨rep 22 .deadv ++ [.c (.imm t22), .c (ic t23), .c (ic t24)] ++ rep 40 .deadv, []⟩ (res5 r) (bx5 r)
  | .h2 t22 t23 t24 t52 loc4_0 loc4_1 loc4_2 loc4_3 loc4_4 loc4_5 loc4_6 loc4_7, r => Fin cx5 Try.f5 (kAt body5 [1, 1, 0, 1, 0, 0, 1, 1, 0, 0, 1, 0, 1, 2] []) ⟨rep 4 .deadv ++ [.c (.ptr ⟨⟨.loc 4, []⟩, 0, 0⟩)] ++ rep 17 .deadv ++ [.c (.imm t22), .c (ic t23), .c (ic t24)] ++ rep 27 .deadv ++ [.c (bc t52)] ++ rep 12 .deadv, [(.loc 4, [ic loc4_0, ic loc4_1, bc loc4_2, ic loc4_3, .imm loc4_4, .imm loc4_5, .imm loc4_6, .imm loc4_7])]⟩ (res5 r) (bx5 r)
  | .h3 t22 t23 t24 t54 t55 t56, r => Fin cx5 Try.f5 (kAt body5 [1, 1, 0, 1, 0, 0, 1, 1, 0, 0, 1, 1, 1, 0, 4] []) ⟨rep 22 .deadv ++ [.c (.imm t22), .c (ic t23), .c (ic t24)] ++ rep 29 .deadv ++ [.c (.imm t54), .c (ic t55), .c (ic t56)] ++ rep 8 .deadv, []⟩ (res5 r) (bx5 r)
theorem evr5 {a0_0 : Int} {a0_1 : Rs} {a0_2 : Rs} {r : R5} (h : P5 (.e a0_0 a0_1 a0_2) r) : Ev Try.prog noHand 5 [.ag [ic a0_0, .imm a0_1, .imm a0_2]] [] (res5 r) (bx5 r) := ev_of_fin (fn := Try.f5) (body := body5) (by kernel_rfl) (by kernel_rfl) (by kernel_rfl) rfl h
theorem t5_e_ok (k : Nat) (rec : S5 → Option R5) (ih : ∀ s r, rec s = some r → P5 s r) (a0_0 : Int) (a0_1 : Rs) (a0_2 : Rs) (r : R5) (h : t5_e k rec a0_0 a0_1 a0_2 = some r) : P5 (.e a0_0 a0_1 a0_2) r := by
  unfold t5_e at h
  rcases bif_or h with ⟨h_x1, h⟩ | ⟨h_x1, h⟩
  ·
    exact mgo_at (nb := 0) hmix (ih _ _ h) (n := 5) (ad := [(some 9, .test true)]) (ps := [_]) (m := bm 65 36893488147418054653) (ls := []) (cs := []) (by kernel_rfl) ⟨h_x1, trivial⟩
  ·
    rcases bif_or h with ⟨h_x2, h⟩ | ⟨h_x2, h⟩
    ·
      exact mgo_at (nb := 0) hmix (ih _ _ h) (n := 5) (ad := [(some 9, .test false), (some 13, .test true)]) (ps := [_, _]) (m := bm 65 36893488147418054653) (ls := []) (cs := []) (by kernel_rfl) ⟨h_x1, h_x2, trivial⟩
    ·
      exact mgo_at (nb := 0) hmix (ih _ _ h) (n := 5) (ad := [(some 9, .test false), (some 13, .test false)]) (ps := [_, _]) (m := bm 65 36893488147418054653) (ls := []) (cs := []) (by kernel_rfl) ⟨h_x1, h_x2, trivial⟩
theorem t5_h0_ok (k : Nat) (rec : S5 → Option R5) (ih : ∀ s r, rec s = some r → P5 s r) (t20 : Bool) (loc1_0 : Int) (loc1_1 : Rs) (loc1_2 : Rs) (r : R5) (h : t5_h0 k rec t20 loc1_0 loc1_1 loc1_2 = some r) : P5 (.h0 t20 loc1_0 loc1_1 loc1_2) r := by
  unfold t5_h0 at h
  rcases bif_or h with ⟨hq, h1'⟩ | ⟨hq, h1'⟩
  · clear h; subst hq; have h := h1'; clear h1'
    rw [← Option.some.inj h]
    exact mgo_fin (nb := 0) hmix (n := 2000) (ad := []) (ps := []) (by kernel_rfl) trivial
  · clear h; subst hq; have h := h1'; clear h1'
    exact mgo_at (nb := 0) hmix (ih _ _ h) (n := 7) (ad := []) (ps := []) (m := bm 65 36893488147389743103) (ls := [1]) (cs := []) (by kernel_rfl) trivial
theorem t5_h1_ok (k : Nat) (rec : S5 → Option R5) (ih : ∀ s r, rec s = some r → P5 s r) (t22 : Rs) (t23 : Int) (t24 : Int) (r : R5) (h : t5_h1 k rec t22 t23 t24 = some r) : P5 (.h1 t22 t23 t24) r := by
  unfold t5_h1 at h
  rcases bif_or h with ⟨h_x1, h⟩ | ⟨h_x1, h⟩
  ·
    obtain ⟨w_x2, h_x3, h⟩ := ixR_or h
    obtain ⟨parent_x4, type_x4, many_x4, window_x4, bars_x4, leaves_x4, guards_x4, ends_x4, hq, h1'⟩ := un_iibim4_or h
    clear h; subst hq; have h := h1'; clear h1'
    rcases bif_or h with ⟨h_x5, h⟩ | ⟨h_x5, h⟩
    ·
      exact mgo_at (nb := 0) hmix (ih _ _ h) (n := 13) (ad := [(some 25, .test true), (some 27, .row [ic parent_x4, ic type_x4, bc many_x4, ic window_x4, .imm bars_x4, .imm leaves_x4, .imm guards_x4, .imm ends_x4]), (some 31, .test true)]) (ps := [_, _, _]) (m := bm 65 36888984547762372591) (ls := []) (cs := []) (by kernel_rfl) ⟨h_x1, ix_row h_x3 rfl, h_x5, trivial⟩
    ·
      rcases bif_or h with ⟨h_x6, h⟩ | ⟨h_x6, h⟩
      ·
        exact mgo_at (nb := 0) hmix (ih _ _ h) (n := 13) (ad := [(some 25, .test true), (some 27, .row [ic parent_x4, ic type_x4, bc many_x4, ic window_x4, .imm bars_x4, .imm leaves_x4, .imm guards_x4, .imm ends_x4]), (some 31, .test false), (some 36, .test true)]) (ps := [_, _, _, _]) (m := bm 65 36888984547762372591) (ls := []) (cs := []) (by kernel_rfl) ⟨h_x1, ix_row h_x3 rfl, h_x5, h_x6, trivial⟩
      ·
        rcases bif_or h with ⟨h_x7, h⟩ | ⟨h_x7, h⟩
        ·
          exact mgo_at (nb := 0) hmix (ih _ _ h) (n := 13) (ad := [(some 25, .test true), (some 27, .row [ic parent_x4, ic type_x4, bc many_x4, ic window_x4, .imm bars_x4, .imm leaves_x4, .imm guards_x4, .imm ends_x4]), (some 31, .test false), (some 36, .test false), (some 41, .test true)]) (ps := [_, _, _, _, _]) (m := bm 65 36888984547762372591) (ls := []) (cs := []) (by kernel_rfl) ⟨h_x1, ix_row h_x3 rfl, h_x5, h_x6, h_x7, trivial⟩
        ·
          rcases bif_or h with ⟨h_x8, h⟩ | ⟨h_x8, h⟩
          ·
            exact mgo_at (nb := 0) hmix (ih _ _ h) (n := 13) (ad := [(some 25, .test true), (some 27, .row [ic parent_x4, ic type_x4, bc many_x4, ic window_x4, .imm bars_x4, .imm leaves_x4, .imm guards_x4, .imm ends_x4]), (some 31, .test false), (some 36, .test false), (some 41, .test false), (some 46, .test true)]) (ps := [_, _, _, _, _, _]) (m := bm 65 36888984547762372591) (ls := []) (cs := []) (by kernel_rfl) ⟨h_x1, ix_row h_x3 rfl, h_x5, h_x6, h_x7, h_x8, trivial⟩
          ·
            exact mgo_at (nb := 0) hmix (ih _ _ h) (n := 13) (ad := [(some 25, .test true), (some 27, .row [ic parent_x4, ic type_x4, bc many_x4, ic window_x4, .imm bars_x4, .imm leaves_x4, .imm guards_x4, .imm ends_x4]), (some 31, .test false), (some 36, .test false), (some 41, .test false), (some 46, .test false)]) (ps := [_, _, _, _, _, _]) (m := bm 65 36888984547762372591) (ls := []) (cs := []) (by kernel_rfl) ⟨h_x1, ix_row h_x3 rfl, h_x5, h_x6, h_x7, h_x8, trivial⟩
  ·
    rw [← Option.some.inj h]
    exact mgo_fin (nb := 0) hmix (n := 2000) (ad := [(some 25, .test false)]) (ps := [_]) (by kernel_rfl) ⟨h_x1, trivial⟩
theorem t5_h2_ok (k : Nat) (rec : S5 → Option R5) (ih : ∀ s r, rec s = some r → P5 s r) (t22 : Rs) (t23 : Int) (t24 : Int) (t52 : Bool) (loc4_0 : Int) (loc4_1 : Int) (loc4_2 : Bool) (loc4_3 : Int) (loc4_4 : Rs) (loc4_5 : Rs) (loc4_6 : Rs) (loc4_7 : Rs) (r : R5) (h : t5_h2 k rec t22 t23 t24 t52 loc4_0 loc4_1 loc4_2 loc4_3 loc4_4 loc4_5 loc4_6 loc4_7 = some r) : P5 (.h2 t22 t23 t24 t52 loc4_0 loc4_1 loc4_2 loc4_3 loc4_4 loc4_5 loc4_6 loc4_7) r := by
  unfold t5_h2 at h
  rcases bif_or h with ⟨hq, h1'⟩ | ⟨hq, h1'⟩
  · clear h; subst hq; have h := h1'; clear h1'
    rw [← Option.some.inj h]
    exact mgo_fin (nb := 0) hmix (n := 2000) (ad := []) (ps := []) (by kernel_rfl) trivial
  · clear h; subst hq; have h := h1'; clear h1'
    exact mgo_at (nb := 0) hmix (ih _ _ h) (n := 6) (ad := []) (ps := []) (m := bm 65 36767387357823369215) (ls := [4]) (cs := []) (by kernel_rfl) trivial
theorem t5_h3_ok (k : Nat) (rec : S5 → Option R5) (ih : ∀ s r, rec s = some r → P5 s r) (t22 : Rs) (t23 : Int) (t24 : Int) (t54 : Rs) (t55 : Int) (t56 : Int) (r : R5) (h : t5_h3 k rec t22 t23 t24 t54 t55 t56 = some r) : P5 (.h3 t22 t23 t24 t54 t55 t56) r := by
  unfold t5_h3 at h
  rcases bif_or h with ⟨h_x1, h⟩ | ⟨h_x1, h⟩
  ·
    obtain ⟨w_x2, h_x3, h⟩ := ixR_or h
    obtain ⟨branch_x4, closes_x4, bars_x4, hq, h1'⟩ := un_imm_or h
    clear h; subst hq; have h := h1'; clear h1'
    rcases bif_or h with ⟨h_x5, h⟩ | ⟨h_x5, h⟩
    ·
      rw [← Option.some.inj h]
      exact mgo_fin (nb := 0) hmix (n := 2000) (ad := [(some 57, .test true), (some 58, .row [ic branch_x4, .imm closes_x4, .imm bars_x4]), (some 62, .test true)]) (ps := [_, _, _]) (by kernel_rfl) ⟨h_x1, ix_row h_x3 rfl, h_x5, trivial⟩
    ·
      exact mgo_at (nb := 0) hmix (ih _ _ h) (n := 16) (ad := [(some 57, .test true), (some 58, .row [ic branch_x4, .imm closes_x4, .imm bars_x4]), (some 62, .test false)]) (ps := [_, _, _]) (m := bm 65 36767387357823369215) (ls := [6]) (cs := []) (by kernel_rfl) ⟨h_x1, ix_row h_x3 rfl, h_x5, trivial⟩
  ·
    exact mgo_at (nb := 0) hmix (ih _ _ h) (n := 8) (ad := [(some 57, .test false)]) (ps := [_]) (m := bm 65 36893488147389743103) (ls := []) (cs := []) (by kernel_rfl) ⟨h_x1, trivial⟩
theorem ok5 : ∀ k s r, itS step5 k s = some r → P5 s r := itS_ok fun k rec ih s r h => match s, h with
  | .e a0_0 a0_1 a0_2, h => t5_e_ok k rec ih a0_0 a0_1 a0_2 r h
  | .h0 t20 loc1_0 loc1_1 loc1_2, h => t5_h0_ok k rec ih t20 loc1_0 loc1_1 loc1_2 r h
  | .h1 t22 t23 t24, h => t5_h1_ok k rec ih t22 t23 t24 r h
  | .h2 t22 t23 t24 t52 loc4_0 loc4_1 loc4_2 loc4_3 loc4_4 loc4_5 loc4_6 loc4_7, h => t5_h2_ok k rec ih t22 t23 t24 t52 loc4_0 loc4_1 loc4_2 loc4_3 loc4_4 loc4_5 loc4_6 loc4_7 r h
  | .h3 t22 t23 t24 t54 t55 t56, h => t5_h3_ok k rec ih t22 t23 t24 t54 t55 t56 r h
theorem ev5 {k : Nat} {a0_0 : Int} {a0_1 : Rs} {a0_2 : Rs} {r : R5} (h : g5 k a0_0 a0_1 a0_2 = some r) : Ev Try.prog noHand 5 [.ag [ic a0_0, .imm a0_1, .imm a0_2]] [] (res5 r) (bx5 r) := evr5 (ok5 _ _ _ h)
-- auspice/merge.twin
inductive S13 where
  | e (l0 : Rs)
  | h0 (out3 : Rs) (t6 : Rs) (t7 : Int) (t8 : Int)
abbrev R13 := Rs
def res13 : R13 → ARes
  | r => .ret (.c (.own 7 r))
def bx13 : R13 → List (List Cell)
  | r => []
noncomputable def t13_e (k : Nat) (rec : S13 → Option R13) (l0 : Rs) : Option R13 :=
  rec (.h0 [] l0 (l0.length : Int) 0)
noncomputable def t13_h0 (k : Nat) (rec : S13 → Option R13) (out3 : Rs) (t6 : Rs) (t7 : Int) (t8 : Int) : Option R13 :=
  bif decide (t8 < t7) then
    ixR t6 t8 fun w_x2 =>
    un_iimiuii w_x2 fun op_x4 kind_x4 args_x4 valueKind_x4 valueBits_x4 pos_x4 attr_x4 =>
    (rec (.e args_x4)).bind fun v_x5 =>
    gd (apOk 72 7 out3 [[ic op_x4, ic kind_x4, .imm (immRs v_x5), ic valueKind_x4, .val (.int .u64 valueBits_x4), ic pos_x4, ic attr_x4]]) <|
    rec (.h0 (out3 ++ [[ic op_x4, ic kind_x4, .imm (immRs v_x5), ic valueKind_x4, .val (.int .u64 valueBits_x4), ic pos_x4, ic attr_x4]]) t6 t7 (IntKind.i64.wrap (t8 + 1)))
  else
    some out3
noncomputable def step13 (k : Nat) (rec : S13 → Option R13) : S13 → Option R13
  | .e l0 => t13_e k rec l0
  | .h0 out3 t6 t7 t8 => t13_h0 k rec out3 t6 t7 t8
noncomputable def g13 (k : Nat) (l0 : Rs) : Option R13 := itS step13 k (.e l0)
noncomputable def P13 : S13 → R13 → Prop
  | .e l0, r => Fin cx13 Try.f13 [.code body13] (fr0 Try.f13 [.c (.imm l0)] []) (res13 r) (bx13 r)
  | .h0 out3 t6 t7 t8, r => Fin cx13 Try.f13 (kAt body13 [1, 1, 0, 1, 0, 4] []) ⟨rep 3 .deadv ++ [.c (.own 7 out3), .deadv, .deadv, .c (.imm t6), .c (ic t7), .c (ic t8)] ++ rep 13 .deadv, []⟩ (res13 r) (bx13 r)
theorem evr13 {l0 : Rs} {r : R13} (h : P13 (.e l0) r) : Ev Try.prog noHand 13 [.c (.imm l0)] [] (res13 r) (bx13 r) := ev_of_fin (fn := Try.f13) (body := body13) (by kernel_rfl) (by kernel_rfl) (by kernel_rfl) rfl h
theorem t13_e_ok (k : Nat) (rec : S13 → Option R13) (ih : ∀ s r, rec s = some r → P13 s r) (l0 : Rs) (r : R13) (h : t13_e k rec l0 = some r) : P13 (.e l0) r := by
  unfold t13_e at h
  exact mgo_at (nb := 0) hmix (ih _ _ h) (n := 9) (ad := []) (ps := []) (m := bm 22 4193847) (ls := []) (cs := [(⟨⟨.slot 3, []⟩, 0, 0⟩, some 7)]) (by kernel_rfl) trivial
theorem t13_h0_ok (k : Nat) (rec : S13 → Option R13) (ih : ∀ s r, rec s = some r → P13 s r) (out3 : Rs) (t6 : Rs) (t7 : Int) (t8 : Int) (r : R13) (h : t13_h0 k rec out3 t6 t7 t8 = some r) : P13 (.h0 out3 t6 t7 t8) r := by
  unfold t13_h0 at h
  rcases bif_or h with ⟨h_x1, h⟩ | ⟨h_x1, h⟩
  ·
    obtain ⟨w_x2, h_x3, h⟩ := ixR_or h
    obtain ⟨op_x4, kind_x4, args_x4, valueKind_x4, valueBits_x4, pos_x4, attr_x4, hq, h1'⟩ := un_iimiuii_or h
    clear h; subst hq; have h := h1'; clear h1'
    obtain ⟨v_x5, h_x6, h⟩ := bd_or h
    obtain ⟨h_x7, h⟩ := gd_or h
    exact mgo_at (nb := 0) hmix (ih _ _ h) (n := 15) (ad := [(some 9, .test true), (some 10, .row [ic op_x4, ic kind_x4, .imm args_x4, ic valueKind_x4, .val (.int .u64 valueBits_x4), ic pos_x4, ic attr_x4]), (some 14, .call (.ret (.c (.own 7 v_x5))) [] false), (some 19, .okE false)]) (ps := [_, _, _, _]) (m := bm 22 4193847) (ls := [5]) (cs := []) (by kernel_rfl) ⟨h_x1, ix_row h_x3 rfl, (evr13 (ih _ _ h_x6)), okF [[ic op_x4, ic kind_x4, .imm (immRs v_x5), ic valueKind_x4, .val (.int .u64 valueBits_x4), ic pos_x4, ic attr_x4]] h_x7, trivial⟩
  ·
    rw [← Option.some.inj h]
    exact mgo_fin (nb := 0) hmix (n := 2000) (ad := [(some 9, .test false)]) (ps := [_]) (by kernel_rfl) ⟨h_x1, trivial⟩
theorem ok13 : ∀ k s r, itS step13 k s = some r → P13 s r := itS_ok fun k rec ih s r h => match s, h with
  | .e l0, h => t13_e_ok k rec ih l0 r h
  | .h0 out3 t6 t7 t8, h => t13_h0_ok k rec ih out3 t6 t7 t8 r h
theorem ev13 {k : Nat} {l0 : Rs} {r : R13} (h : g13 k l0 = some r) : Ev Try.prog noHand 13 [.c (.imm l0)] [] (res13 r) (bx13 r) := evr13 (ok13 _ _ _ h)
-- auspice/merge.twinBars
inductive S12 where
  | e (l0 : Rs)
  | h0 (out3 : Rs) (t6 : Rs) (t7 : Int) (t8 : Int)
abbrev R12 := Rs
def res12 : R12 → ARes
  | r => .ret (.c (.own 2 r))
def bx12 : R12 → List (List Cell)
  | r => []
noncomputable def t12_e (k : Nat) (rec : S12 → Option R12) (l0 : Rs) : Option R12 :=
  rec (.h0 [] l0 (l0.length : Int) 0)
noncomputable def t12_h0 (k : Nat) (rec : S12 → Option R12) (out3 : Rs) (t6 : Rs) (t7 : Int) (t8 : Int) : Option R12 :=
  bif decide (t8 < t7) then
    ixR t6 t8 fun w_x2 =>
    un_im w_x2 fun type_x4 guards_x4 =>
    (g13 k guards_x4).bind fun v_x5 =>
    gd (apOk 32 2 out3 [[ic type_x4, .imm (immRs v_x5)]]) <|
    rec (.h0 (out3 ++ [[ic type_x4, .imm (immRs v_x5)]]) t6 t7 (IntKind.i64.wrap (t8 + 1)))
  else
    some out3
noncomputable def step12 (k : Nat) (rec : S12 → Option R12) : S12 → Option R12
  | .e l0 => t12_e k rec l0
  | .h0 out3 t6 t7 t8 => t12_h0 k rec out3 t6 t7 t8
noncomputable def g12 (k : Nat) (l0 : Rs) : Option R12 := itS step12 k (.e l0)
noncomputable def P12 : S12 → R12 → Prop
  | .e l0, r => Fin cx12 Try.f12 [.code body12] (fr0 Try.f12 [.c (.imm l0)] []) (res12 r) (bx12 r)
  | .h0 out3 t6 t7 t8, r => Fin cx12 Try.f12 (kAt body12 [1, 1, 0, 1, 0, 4] []) ⟨rep 3 .deadv ++ [.c (.own 2 out3), .deadv, .deadv, .c (.imm t6), .c (ic t7), .c (ic t8)] ++ rep 13 .deadv, []⟩ (res12 r) (bx12 r)
theorem evr12 {l0 : Rs} {r : R12} (h : P12 (.e l0) r) : Ev Try.prog noHand 12 [.c (.imm l0)] [] (res12 r) (bx12 r) := ev_of_fin (fn := Try.f12) (body := body12) (by kernel_rfl) (by kernel_rfl) (by kernel_rfl) rfl h
theorem t12_e_ok (k : Nat) (rec : S12 → Option R12) (ih : ∀ s r, rec s = some r → P12 s r) (l0 : Rs) (r : R12) (h : t12_e k rec l0 = some r) : P12 (.e l0) r := by
  unfold t12_e at h
  exact mgo_at (nb := 0) hmix (ih _ _ h) (n := 9) (ad := []) (ps := []) (m := bm 22 4193847) (ls := []) (cs := [(⟨⟨.slot 3, []⟩, 0, 0⟩, some 2)]) (by kernel_rfl) trivial
theorem t12_h0_ok (k : Nat) (rec : S12 → Option R12) (ih : ∀ s r, rec s = some r → P12 s r) (out3 : Rs) (t6 : Rs) (t7 : Int) (t8 : Int) (r : R12) (h : t12_h0 k rec out3 t6 t7 t8 = some r) : P12 (.h0 out3 t6 t7 t8) r := by
  unfold t12_h0 at h
  rcases bif_or h with ⟨h_x1, h⟩ | ⟨h_x1, h⟩
  ·
    obtain ⟨w_x2, h_x3, h⟩ := ixR_or h
    obtain ⟨type_x4, guards_x4, hq, h1'⟩ := un_im_or h
    clear h; subst hq; have h := h1'; clear h1'
    obtain ⟨v_x5, h_x6, h⟩ := bd_or h
    obtain ⟨h_x7, h⟩ := gd_or h
    exact mgo_at (nb := 0) hmix (ih _ _ h) (n := 15) (ad := [(some 9, .test true), (some 10, .row [ic type_x4, .imm guards_x4]), (some 14, .call (.ret (.c (.own 7 v_x5))) [] false), (some 19, .okE false)]) (ps := [_, _, _, _]) (m := bm 22 4193847) (ls := [5]) (cs := []) (by kernel_rfl) ⟨h_x1, ix_row h_x3 rfl, (ev13 h_x6), okF [[ic type_x4, .imm (immRs v_x5)]] h_x7, trivial⟩
  ·
    rw [← Option.some.inj h]
    exact mgo_fin (nb := 0) hmix (n := 2000) (ad := [(some 9, .test false)]) (ps := [_]) (by kernel_rfl) ⟨h_x1, trivial⟩
theorem ok12 : ∀ k s r, itS step12 k s = some r → P12 s r := itS_ok fun k rec ih s r h => match s, h with
  | .e l0, h => t12_e_ok k rec ih l0 r h
  | .h0 out3 t6 t7 t8, h => t12_h0_ok k rec ih out3 t6 t7 t8 r h
theorem ev12 {k : Nat} {l0 : Rs} {r : R12} (h : g12 k l0 = some r) : Ev Try.prog noHand 12 [.c (.imm l0)] [] (res12 r) (bx12 r) := evr12 (ok12 _ _ _ h)
-- auspice/merge.of
inductive S45 where
  | e (s0_0 : Int) (s0_1 : Int) (s0_2 : Bool) (s0_3 : Int) (s0_4 : Rs) (s0_5 : Rs) (s0_6 : Rs) (s0_7 : Rs)
abbrev R45 := Int × Int × Bool × Int
def res45 : R45 → ARes
  | (r_0, r_1, r_2, r_3) => .ret (.ag [ic r_0, ic r_1, bc r_2, ic r_3])
def bx45 : R45 → List (List Cell)
  | (r_0, r_1, r_2, r_3) => []
noncomputable def t45_e (k : Nat) (rec : S45 → Option R45) (s0_0 : Int) (s0_1 : Int) (s0_2 : Bool) (s0_3 : Int) (s0_4 : Rs) (s0_5 : Rs) (s0_6 : Rs) (s0_7 : Rs) : Option R45 :=
  some (s0_0, s0_1, s0_2, s0_3)
noncomputable def step45 (k : Nat) (rec : S45 → Option R45) : S45 → Option R45
  | .e s0_0 s0_1 s0_2 s0_3 s0_4 s0_5 s0_6 s0_7 => t45_e k rec s0_0 s0_1 s0_2 s0_3 s0_4 s0_5 s0_6 s0_7
noncomputable def g45 (k : Nat) (s0_0 : Int) (s0_1 : Int) (s0_2 : Bool) (s0_3 : Int) (s0_4 : Rs) (s0_5 : Rs) (s0_6 : Rs) (s0_7 : Rs) : Option R45 := itS step45 k (.e s0_0 s0_1 s0_2 s0_3 s0_4 s0_5 s0_6 s0_7)
noncomputable def P45 : S45 → R45 → Prop
  | .e s0_0 s0_1 s0_2 s0_3 s0_4 s0_5 s0_6 s0_7, r => Fin cx45 Try.f45 [.code body45] (fr0 Try.f45 [.ag [ic s0_0, ic s0_1, bc s0_2, ic s0_3, .imm s0_4, .imm s0_5, .imm s0_6, .imm s0_7]] []) (res45 r) (bx45 r)
theorem evr45 {s0_0 : Int} {s0_1 : Int} {s0_2 : Bool} {s0_3 : Int} {s0_4 : Rs} {s0_5 : Rs} {s0_6 : Rs} {s0_7 : Rs} {r : R45} (h : P45 (.e s0_0 s0_1 s0_2 s0_3 s0_4 s0_5 s0_6 s0_7) r) : Ev Try.prog noHand 45 [.ag [ic s0_0, ic s0_1, bc s0_2, ic s0_3, .imm s0_4, .imm s0_5, .imm s0_6, .imm s0_7]] [] (res45 r) (bx45 r) := ev_of_fin (fn := Try.f45) (body := body45) (by kernel_rfl) (by kernel_rfl) (by kernel_rfl) rfl h
theorem t45_e_ok (k : Nat) (rec : S45 → Option R45) (ih : ∀ s r, rec s = some r → P45 s r) (s0_0 : Int) (s0_1 : Int) (s0_2 : Bool) (s0_3 : Int) (s0_4 : Rs) (s0_5 : Rs) (s0_6 : Rs) (s0_7 : Rs) (r : R45) (h : t45_e k rec s0_0 s0_1 s0_2 s0_3 s0_4 s0_5 s0_6 s0_7 = some r) : P45 (.e s0_0 s0_1 s0_2 s0_3 s0_4 s0_5 s0_6 s0_7) r := by
  unfold t45_e at h
  rw [← Option.some.inj h]
  exact mgo_fin (nb := 0) hmix (n := 2000) (ad := []) (ps := []) (by kernel_rfl) trivial
theorem ok45 : ∀ k s r, itS step45 k s = some r → P45 s r := itS_ok fun k rec ih s r h => match s, h with
  | .e s0_0 s0_1 s0_2 s0_3 s0_4 s0_5 s0_6 s0_7, h => t45_e_ok k rec ih s0_0 s0_1 s0_2 s0_3 s0_4 s0_5 s0_6 s0_7 r h
theorem ev45 {k : Nat} {s0_0 : Int} {s0_1 : Int} {s0_2 : Bool} {s0_3 : Int} {s0_4 : Rs} {s0_5 : Rs} {s0_6 : Rs} {s0_7 : Rs} {r : R45} (h : g45 k s0_0 s0_1 s0_2 s0_3 s0_4 s0_5 s0_6 s0_7 = some r) : Ev Try.prog noHand 45 [.ag [ic s0_0, ic s0_1, bc s0_2, ic s0_3, .imm s0_4, .imm s0_5, .imm s0_6, .imm s0_7]] [] (res45 r) (bx45 r) := evr45 (ok45 _ _ _ h)
-- auspice/merge.bare
inductive S46 where
  | e (s0_0 : Int) (s0_1 : Int) (s0_2 : Bool) (s0_3 : Int) (s0_4 : Rs) (s0_5 : Rs) (s0_6 : Rs) (s0_7 : Rs)
abbrev R46 := Int × Rs
def res46 : R46 → ARes
  | (r_0, r_2) => .ret (.ag [ic r_0, .nil, .own 8 r_2])
def bx46 : R46 → List (List Cell)
  | (r_0, r_2) => []
noncomputable def t46_e (k : Nat) (rec : S46 → Option R46) (s0_0 : Int) (s0_1 : Int) (s0_2 : Bool) (s0_3 : Int) (s0_4 : Rs) (s0_5 : Rs) (s0_6 : Rs) (s0_7 : Rs) : Option R46 :=
  some (0, [[ic s0_0, ic s0_1, bc s0_2, ic s0_3, .imm s0_4, .imm s0_5, .imm s0_6, .nil]])
noncomputable def step46 (k : Nat) (rec : S46 → Option R46) : S46 → Option R46
  | .e s0_0 s0_1 s0_2 s0_3 s0_4 s0_5 s0_6 s0_7 => t46_e k rec s0_0 s0_1 s0_2 s0_3 s0_4 s0_5 s0_6 s0_7
noncomputable def g46 (k : Nat) (s0_0 : Int) (s0_1 : Int) (s0_2 : Bool) (s0_3 : Int) (s0_4 : Rs) (s0_5 : Rs) (s0_6 : Rs) (s0_7 : Rs) : Option R46 := itS step46 k (.e s0_0 s0_1 s0_2 s0_3 s0_4 s0_5 s0_6 s0_7)
noncomputable def P46 : S46 → R46 → Prop
  | .e s0_0 s0_1 s0_2 s0_3 s0_4 s0_5 s0_6 s0_7, r => Fin cx46 Try.f46 [.code body46] (fr0 Try.f46 [.ag [ic s0_0, ic s0_1, bc s0_2, ic s0_3, .imm s0_4, .imm s0_5, .imm s0_6, .imm s0_7]] []) (res46 r) (bx46 r)
theorem evr46 {s0_0 : Int} {s0_1 : Int} {s0_2 : Bool} {s0_3 : Int} {s0_4 : Rs} {s0_5 : Rs} {s0_6 : Rs} {s0_7 : Rs} {r : R46} (h : P46 (.e s0_0 s0_1 s0_2 s0_3 s0_4 s0_5 s0_6 s0_7) r) : Ev Try.prog noHand 46 [.ag [ic s0_0, ic s0_1, bc s0_2, ic s0_3, .imm s0_4, .imm s0_5, .imm s0_6, .imm s0_7]] [] (res46 r) (bx46 r) := ev_of_fin (fn := Try.f46) (body := body46) (by kernel_rfl) (by kernel_rfl) (by kernel_rfl) rfl h
theorem t46_e_ok (k : Nat) (rec : S46 → Option R46) (ih : ∀ s r, rec s = some r → P46 s r) (s0_0 : Int) (s0_1 : Int) (s0_2 : Bool) (s0_3 : Int) (s0_4 : Rs) (s0_5 : Rs) (s0_6 : Rs) (s0_7 : Rs) (r : R46) (h : t46_e k rec s0_0 s0_1 s0_2 s0_3 s0_4 s0_5 s0_6 s0_7 = some r) : P46 (.e s0_0 s0_1 s0_2 s0_3 s0_4 s0_5 s0_6 s0_7) r := by
  unfold t46_e at h
  rw [← Option.some.inj h]
  exact mgo_fin (nb := 0) hmix (n := 2000) (ad := []) (ps := []) (by kernel_rfl) trivial
theorem ok46 : ∀ k s r, itS step46 k s = some r → P46 s r := itS_ok fun k rec ih s r h => match s, h with
  | .e s0_0 s0_1 s0_2 s0_3 s0_4 s0_5 s0_6 s0_7, h => t46_e_ok k rec ih s0_0 s0_1 s0_2 s0_3 s0_4 s0_5 s0_6 s0_7 r h
theorem ev46 {k : Nat} {s0_0 : Int} {s0_1 : Int} {s0_2 : Bool} {s0_3 : Int} {s0_4 : Rs} {s0_5 : Rs} {s0_6 : Rs} {s0_7 : Rs} {r : R46} (h : g46 k s0_0 s0_1 s0_2 s0_3 s0_4 s0_5 s0_6 s0_7 = some r) : Ev Try.prog noHand 46 [.ag [ic s0_0, ic s0_1, bc s0_2, ic s0_3, .imm s0_4, .imm s0_5, .imm s0_6, .imm s0_7]] [] (res46 r) (bx46 r) := evr46 (ok46 _ _ _ h)
-- slices.Equal[[]int,int]
inductive S15 where
  | e (s10 : Rs) (s21 : Rs)
  | h0 (s10 : Rs) (s21 : Rs) (t12 : Int) (t13 : Int)
abbrev R15 := Bool
def res15 : R15 → ARes
  | r => .ret (.c (bc r))
def bx15 : R15 → List (List Cell)
  | r => []
noncomputable def t15_e (k : Nat) (rec : S15 → Option R15) (s10 : Rs) (s21 : Rs) : Option R15 :=
  bif (s10.length : Int) != (s21.length : Int) then
    some false
  else
    rec (.h0 s10 s21 (s10.length : Int) 0)
noncomputable def t15_h0 (k : Nat) (rec : S15 → Option R15) (s10 : Rs) (s21 : Rs) (t12 : Int) (t13 : Int) : Option R15 :=
  bif decide (t13 < t12) then
    ixR s10 t13 fun w_x2 =>
    un_i w_x2 fun x_x4 =>
    ixR s21 t13 fun w_x5 =>
    un_i w_x5 fun x_x7 =>
    bif x_x4 != x_x7 then
      some false
    else
      rec (.h0 s10 s21 t12 (IntKind.i64.wrap (t13 + 1)))
  else
    some true
noncomputable def step15 (k : Nat) (rec : S15 → Option R15) : S15 → Option R15
  | .e s10 s21 => t15_e k rec s10 s21
  | .h0 s10 s21 t12 t13 => t15_h0 k rec s10 s21 t12 t13
noncomputable def g15 (k : Nat) (s10 : Rs) (s21 : Rs) : Option R15 := itS step15 k (.e s10 s21)
noncomputable def P15 : S15 → R15 → Prop
  | .e s10 s21, r => Fin cx15 Try.f15 [.code body15] (fr0 Try.f15 [.c (.imm s10), .c (.imm s21)] []) (res15 r) (bx15 r)
  | .h0 s10 s21 t12 t13, r => Fin cx15 Try.f15 (kAt body15 [1, 1, 0, 1, 0, 4] []) ⟨[.c (.imm s10), .c (.imm s21)] ++ rep 10 .deadv ++ [.c (ic t12), .c (ic t13)] ++ rep 12 .deadv, []⟩ (res15 r) (bx15 r)
theorem evr15 {s10 : Rs} {s21 : Rs} {r : R15} (h : P15 (.e s10 s21) r) : Ev Try.prog noHand 15 [.c (.imm s10), .c (.imm s21)] [] (res15 r) (bx15 r) := ev_of_fin (fn := Try.f15) (body := body15) (by kernel_rfl) (by kernel_rfl) (by kernel_rfl) rfl h
theorem t15_e_ok (k : Nat) (rec : S15 → Option R15) (ih : ∀ s r, rec s = some r → P15 s r) (s10 : Rs) (s21 : Rs) (r : R15) (h : t15_e k rec s10 s21 = some r) : P15 (.e s10 s21) r := by
  unfold t15_e at h
  rcases bif_or h with ⟨h_x1, h⟩ | ⟨h_x1, h⟩
  ·
    rw [← Option.some.inj h]
    exact mgo_fin (nb := 0) hmix (n := 2000) (ad := [(some 10, .test true)]) (ps := [_]) (by kernel_rfl) ⟨h_x1, trivial⟩
  ·
    exact mgo_at (nb := 0) hmix (ih _ _ h) (n := 12) (ad := [(some 10, .test false)]) (ps := [_]) (m := bm 26 67096572) (ls := []) (cs := []) (by kernel_rfl) ⟨h_x1, trivial⟩
theorem t15_h0_ok (k : Nat) (rec : S15 → Option R15) (ih : ∀ s r, rec s = some r → P15 s r) (s10 : Rs) (s21 : Rs) (t12 : Int) (t13 : Int) (r : R15) (h : t15_h0 k rec s10 s21 t12 t13 = some r) : P15 (.h0 s10 s21 t12 t13) r := by
  unfold t15_h0 at h
  rcases bif_or h with ⟨h_x1, h⟩ | ⟨h_x1, h⟩
  ·
    obtain ⟨w_x2, h_x3, h⟩ := ixR_or h
    obtain ⟨x_x4, hq, h1'⟩ := un_i_or h
    clear h; subst hq; have h := h1'; clear h1'
    obtain ⟨w_x5, h_x6, h⟩ := ixR_or h
    obtain ⟨x_x7, hq, h1'⟩ := un_i_or h
    clear h; subst hq; have h := h1'; clear h1'
    rcases bif_or h with ⟨h_x8, h⟩ | ⟨h_x8, h⟩
    ·
      rw [← Option.some.inj h]
      exact mgo_fin (nb := 0) hmix (n := 2000) (ad := [(some 14, .test true), (some 18, .row [ic x_x4]), (some 22, .row [ic x_x7]), (some 24, .test true)]) (ps := [_, _, _, _]) (by kernel_rfl) ⟨h_x1, ix_row h_x3 rfl, ix_row h_x6 rfl, h_x8, trivial⟩
    ·
      exact mgo_at (nb := 0) hmix (ih _ _ h) (n := 16) (ad := [(some 14, .test true), (some 18, .row [ic x_x4]), (some 22, .row [ic x_x7]), (some 24, .test false)]) (ps := [_, _, _, _]) (m := bm 26 67096572) (ls := []) (cs := []) (by kernel_rfl) ⟨h_x1, ix_row h_x3 rfl, ix_row h_x6 rfl, h_x8, trivial⟩
  ·
    rw [← Option.some.inj h]
    exact mgo_fin (nb := 0) hmix (n := 2000) (ad := [(some 14, .test false)]) (ps := [_]) (by kernel_rfl) ⟨h_x1, trivial⟩
theorem ok15 : ∀ k s r, itS step15 k s = some r → P15 s r := itS_ok fun k rec ih s r h => match s, h with
  | .e s10 s21, h => t15_e_ok k rec ih s10 s21 r h
  | .h0 s10 s21 t12 t13, h => t15_h0_ok k rec ih s10 s21 t12 t13 r h
theorem ev15 {k : Nat} {s10 : Rs} {s21 : Rs} {r : R15} (h : g15 k s10 s21 = some r) : Ev Try.prog noHand 15 [.c (.imm s10), .c (.imm s21)] [] (res15 r) (bx15 r) := evr15 (ok15 _ _ _ h)
-- auspice/auto.nodes, slices.EqualFunc[[]auspice/api.Node,[]auspice/api.Node,auspice/api.Node,auspice/api.Node], auspice/auto.nodes$1
inductive S19 where
  | e_19 (a0 : Rs) (b1 : Rs)
  | e_30 (s10 : Rs) (s21 : Rs)
  | h0_30 (s21 : Rs) (t15 : Rs) (t16 : Int) (t17 : Int)
  | e_31 (x0_0 : Int) (x0_1 : Int) (x0_2 : Rs) (x0_3 : Int) (x0_4 : Int) (x0_5 : Int) (x0_6 : Int) (y1_0 : Int) (y1_1 : Int) (y1_2 : Rs) (y1_3 : Int) (y1_4 : Int) (y1_5 : Int) (y1_6 : Int)
abbrev R19 := Bool
def res19 : R19 → ARes
  | r => .ret (.c (bc r))
def bx19 : R19 → List (List Cell)
  | r => []
noncomputable def t19_e (k : Nat) (rec : S19 → Option R19) (a0 : Rs) (b1 : Rs) : Option R19 :=
  (rec (.e_30 a0 b1)).bind fun v_x1 =>
  some v_x1
def res30 : R19 → ARes
  | r => .ret (.c (bc r))
def bx30 : R19 → List (List Cell)
  | r => []
noncomputable def t30_e (k : Nat) (rec : S19 → Option R19) (s10 : Rs) (s21 : Rs) : Option R19 :=
  bif (s10.length : Int) != (s21.length : Int) then
    some false
  else
    rec (.h0_30 s21 s10 (s10.length : Int) 0)
noncomputable def t30_h0 (k : Nat) (rec : S19 → Option R19) (s21 : Rs) (t15 : Rs) (t16 : Int) (t17 : Int) : Option R19 :=
  bif decide (t17 < t16) then
    ixR t15 t17 fun w_x2 =>
    un_iimiuii w_x2 fun op_x4 kind_x4 args_x4 valueKind_x4 valueBits_x4 pos_x4 attr_x4 =>
    ixR s21 t17 fun w_x5 =>
    un_iimiuii w_x5 fun op_x7 kind_x7 args_x7 valueKind_x7 valueBits_x7 pos_x7 attr_x7 =>
    (rec (.e_31 op_x4 kind_x4 args_x4 valueKind_x4 valueBits_x4 pos_x4 attr_x4 op_x7 kind_x7 args_x7 valueKind_x7 valueBits_x7 pos_x7 attr_x7)).bind fun v_x8 =>
    bif !v_x8 then
      some false
    else
      rec (.h0_30 s21 t15 t16 (IntKind.i64.wrap (t17 + 1)))
  else
    some true
def res31 : R19 → ARes
  | r => .ret (.c (bc r))
def bx31 : R19 → List (List Cell)
  | r => []
noncomputable def t31_e (k : Nat) (rec : S19 → Option R19) (x0_0 : Int) (x0_1 : Int) (x0_2 : Rs) (x0_3 : Int) (x0_4 : Int) (x0_5 : Int) (x0_6 : Int) (y1_0 : Int) (y1_1 : Int) (y1_2 : Rs) (y1_3 : Int) (y1_4 : Int) (y1_5 : Int) (y1_6 : Int) : Option R19 :=
  bif x0_0 == y1_0 then
    bif x0_1 == y1_1 then
      bif (x0_3 == y1_3 && (x0_4 == y1_4 && true)) then
        bif x0_5 == y1_5 then
          bif x0_6 == y1_6 then
            (rec (.e_19 x0_2 y1_2)).bind fun v_x6 =>
            some v_x6
          else
            some false
        else
          some false
      else
        some false
    else
      some false
  else
    some false
noncomputable def step19 (k : Nat) (rec : S19 → Option R19) : S19 → Option R19
  | .e_19 a0 b1 => t19_e k rec a0 b1
  | .e_30 s10 s21 => t30_e k rec s10 s21
  | .h0_30 s21 t15 t16 t17 => t30_h0 k rec s21 t15 t16 t17
  | .e_31 x0_0 x0_1 x0_2 x0_3 x0_4 x0_5 x0_6 y1_0 y1_1 y1_2 y1_3 y1_4 y1_5 y1_6 => t31_e k rec x0_0 x0_1 x0_2 x0_3 x0_4 x0_5 x0_6 y1_0 y1_1 y1_2 y1_3 y1_4 y1_5 y1_6
noncomputable def g19 (k : Nat) (a0 : Rs) (b1 : Rs) : Option R19 := itS step19 k (.e_19 a0 b1)
noncomputable def g30 (k : Nat) (s10 : Rs) (s21 : Rs) : Option R19 := itS step19 k (.e_30 s10 s21)
noncomputable def g31 (k : Nat) (x0_0 : Int) (x0_1 : Int) (x0_2 : Rs) (x0_3 : Int) (x0_4 : Int) (x0_5 : Int) (x0_6 : Int) (y1_0 : Int) (y1_1 : Int) (y1_2 : Rs) (y1_3 : Int) (y1_4 : Int) (y1_5 : Int) (y1_6 : Int) : Option R19 := itS step19 k (.e_31 x0_0 x0_1 x0_2 x0_3 x0_4 x0_5 x0_6 y1_0 y1_1 y1_2 y1_3 y1_4 y1_5 y1_6)
noncomputable def P19 : S19 → R19 → Prop
  | .e_19 a0 b1, r => Fin cx19 Try.f19 [.code body19] (fr0 Try.f19 [.c (.imm a0), .c (.imm b1)] []) (res19 r) (bx19 r)
  | .e_30 s10 s21, r => Fin cx30 Try.f30 [.code body30] (fr0 Try.f30 [.c (.imm s10), .c (.imm s21), .c (.clo 31 [] [])] []) (res30 r) (bx30 r)
  | .h0_30 s21 t15 t16 t17, r => Fin cx30 Try.f30 (kAt body30 [1, 1, 0, 1, 0, 4] []) ⟨[.deadv, .c (.imm s21), .c (.clo 31 [] [])] ++ rep 12 .deadv ++ [.c (.imm t15), .c (ic t16), .c (ic t17)] ++ rep 14 .deadv, []⟩ (res30 r) (bx30 r)
  | .e_31 x0_0 x0_1 x0_2 x0_3 x0_4 x0_5 x0_6 y1_0 y1_1 y1_2 y1_3 y1_4 y1_5 y1_6, r => Fin cx31 Try.f31 [.code body31] (fr0 Try.f31 [.ag [ic x0_0, ic x0_1, .imm x0_2, ic x0_3, .val (.int .u64 x0_4), ic x0_5, ic x0_6], .ag [ic y1_0, ic y1_1, .imm y1_2, ic y1_3, .val (.int .u64 y1_4), ic y1_5, ic y1_6]] []) (res31 r) (bx31 r)
theorem evr19 {a0 : Rs} {b1 : Rs} {r : R19} (h : P19 (.e_19 a0 b1) r) : Ev Try.prog noHand 19 [.c (.imm a0), .c (.imm b1)] [] (res19 r) (bx19 r) := ev_of_fin (fn := Try.f19) (body := body19) (by kernel_rfl) (by kernel_rfl) (by kernel_rfl) rfl h
theorem evr30 {s10 : Rs} {s21 : Rs} {r : R19} (h : P19 (.e_30 s10 s21) r) : Ev Try.prog noHand 30 [.c (.imm s10), .c (.imm s21), .c (.clo 31 [] [])] [] (res30 r) (bx30 r) := ev_of_fin (fn := Try.f30) (body := body30) (by kernel_rfl) (by kernel_rfl) (by kernel_rfl) rfl h
theorem evr31 {x0_0 : Int} {x0_1 : Int} {x0_2 : Rs} {x0_3 : Int} {x0_4 : Int} {x0_5 : Int} {x0_6 : Int} {y1_0 : Int} {y1_1 : Int} {y1_2 : Rs} {y1_3 : Int} {y1_4 : Int} {y1_5 : Int} {y1_6 : Int} {r : R19} (h : P19 (.e_31 x0_0 x0_1 x0_2 x0_3 x0_4 x0_5 x0_6 y1_0 y1_1 y1_2 y1_3 y1_4 y1_5 y1_6) r) : Ev Try.prog noHand 31 [.ag [ic x0_0, ic x0_1, .imm x0_2, ic x0_3, .val (.int .u64 x0_4), ic x0_5, ic x0_6], .ag [ic y1_0, ic y1_1, .imm y1_2, ic y1_3, .val (.int .u64 y1_4), ic y1_5, ic y1_6]] [] (res31 r) (bx31 r) := ev_of_fin (fn := Try.f31) (body := body31) (by kernel_rfl) (by kernel_rfl) (by kernel_rfl) rfl h
theorem t19_e_ok (k : Nat) (rec : S19 → Option R19) (ih : ∀ s r, rec s = some r → P19 s r) (a0 : Rs) (b1 : Rs) (r : R19) (h : t19_e k rec a0 b1 = some r) : P19 (.e_19 a0 b1) r := by
  unfold t19_e at h
  obtain ⟨v_x1, h_x2, h⟩ := bd_or h
  rw [← Option.some.inj h]
  exact mgo_fin (nb := 0) hmix (n := 2000) (ad := [(some 7, .call (.ret (.c (bc v_x1))) [] false)]) (ps := [_]) (by kernel_rfl) ⟨(evr30 (ih _ _ h_x2)), trivial⟩
theorem t30_e_ok (k : Nat) (rec : S19 → Option R19) (ih : ∀ s r, rec s = some r → P19 s r) (s10 : Rs) (s21 : Rs) (r : R19) (h : t30_e k rec s10 s21 = some r) : P19 (.e_30 s10 s21) r := by
  unfold t30_e at h
  rcases bif_or h with ⟨h_x1, h⟩ | ⟨h_x1, h⟩
  ·
    rw [← Option.some.inj h]
    exact mgo_fin (nb := 0) hmix (n := 2000) (ad := [(some 14, .test true)]) (ps := [_]) (by kernel_rfl) ⟨h_x1, trivial⟩
  ·
    exact mgo_at (nb := 0) hmix (ih _ _ h) (n := 12) (ad := [(some 14, .test false)]) (ps := [_]) (m := bm 32 4294737913) (ls := []) (cs := []) (by kernel_rfl) ⟨h_x1, trivial⟩
theorem t30_h0_ok (k : Nat) (rec : S19 → Option R19) (ih : ∀ s r, rec s = some r → P19 s r) (s21 : Rs) (t15 : Rs) (t16 : Int) (t17 : Int) (r : R19) (h : t30_h0 k rec s21 t15 t16 t17 = some r) : P19 (.h0_30 s21 t15 t16 t17) r := by
  unfold t30_h0 at h
  rcases bif_or h with ⟨h_x1, h⟩ | ⟨h_x1, h⟩
  ·
    obtain ⟨w_x2, h_x3, h⟩ := ixR_or h
    obtain ⟨op_x4, kind_x4, args_x4, valueKind_x4, valueBits_x4, pos_x4, attr_x4, hq, h1'⟩ := un_iimiuii_or h
    clear h; subst hq; have h := h1'; clear h1'
    obtain ⟨w_x5, h_x6, h⟩ := ixR_or h
    obtain ⟨op_x7, kind_x7, args_x7, valueKind_x7, valueBits_x7, pos_x7, attr_x7, hq, h1'⟩ := un_iimiuii_or h
    clear h; subst hq; have h := h1'; clear h1'
    obtain ⟨v_x8, h_x9, h⟩ := bd_or h
    rcases bif_or h with ⟨h_x10, h⟩ | ⟨h_x10, h⟩
    ·
      rw [← Option.some.inj h]
      exact mgo_fin (nb := 0) hmix (n := 2000) (ad := [(some 18, .test true), (some 20, .row [ic op_x4, ic kind_x4, .imm args_x4, ic valueKind_x4, .val (.int .u64 valueBits_x4), ic pos_x4, ic attr_x4]), (some 24, .row [ic op_x7, ic kind_x7, .imm args_x7, ic valueKind_x7, .val (.int .u64 valueBits_x7), ic pos_x7, ic attr_x7]), (some 29, .call (.ret (.c (bc v_x8))) [] false), (some 30, .test true)]) (ps := [_, _, _, _, _]) (by kernel_rfl) ⟨h_x1, ix_row h_x3 rfl, ix_row h_x6 rfl, (evr31 (ih _ _ h_x9)), h_x10, trivial⟩
    ·
      exact mgo_at (nb := 0) hmix (ih _ _ h) (n := 18) (ad := [(some 18, .test true), (some 20, .row [ic op_x4, ic kind_x4, .imm args_x4, ic valueKind_x4, .val (.int .u64 valueBits_x4), ic pos_x4, ic attr_x4]), (some 24, .row [ic op_x7, ic kind_x7, .imm args_x7, ic valueKind_x7, .val (.int .u64 valueBits_x7), ic pos_x7, ic attr_x7]), (some 29, .call (.ret (.c (bc v_x8))) [] false), (some 30, .test false)]) (ps := [_, _, _, _, _]) (m := bm 32 4294737913) (ls := [9, 8]) (cs := []) (by kernel_rfl) ⟨h_x1, ix_row h_x3 rfl, ix_row h_x6 rfl, (evr31 (ih _ _ h_x9)), h_x10, trivial⟩
  ·
    rw [← Option.some.inj h]
    exact mgo_fin (nb := 0) hmix (n := 2000) (ad := [(some 18, .test false)]) (ps := [_]) (by kernel_rfl) ⟨h_x1, trivial⟩
theorem t31_e_ok (k : Nat) (rec : S19 → Option R19) (ih : ∀ s r, rec s = some r → P19 s r) (x0_0 : Int) (x0_1 : Int) (x0_2 : Rs) (x0_3 : Int) (x0_4 : Int) (x0_5 : Int) (x0_6 : Int) (y1_0 : Int) (y1_1 : Int) (y1_2 : Rs) (y1_3 : Int) (y1_4 : Int) (y1_5 : Int) (y1_6 : Int) (r : R19) (h : t31_e k rec x0_0 x0_1 x0_2 x0_3 x0_4 x0_5 x0_6 y1_0 y1_1 y1_2 y1_3 y1_4 y1_5 y1_6 = some r) : P19 (.e_31 x0_0 x0_1 x0_2 x0_3 x0_4 x0_5 x0_6 y1_0 y1_1 y1_2 y1_3 y1_4 y1_5 y1_6) r := by
  unfold t31_e at h
  rcases bif_or h with ⟨h_x1, h⟩ | ⟨h_x1, h⟩
  ·
    rcases bif_or h with ⟨h_x2, h⟩ | ⟨h_x2, h⟩
    ·
      rcases bif_or h with ⟨h_x3, h⟩ | ⟨h_x3, h⟩
      ·
        rcases bif_or h with ⟨h_x4, h⟩ | ⟨h_x4, h⟩
        ·
          rcases bif_or h with ⟨h_x5, h⟩ | ⟨h_x5, h⟩
          ·
            obtain ⟨v_x6, h_x7, h⟩ := bd_or h
            rw [← Option.some.inj h]
            exact mgo_fin (nb := 0) hmix (n := 2000) (ad := [(some 9, .test true), (some 15, .test true), (some 22, .test true), (some 29, .test true), (some 36, .test true), (some 43, .call (.ret (.c (bc v_x6))) [] false)]) (ps := [_, _, _, _, _, _]) (by kernel_rfl) ⟨h_x1, h_x2, h_x3, h_x4, h_x5, (evr19 (ih _ _ h_x7)), trivial⟩
          ·
            rw [← Option.some.inj h]
            exact mgo_fin (nb := 0) hmix (n := 2000) (ad := [(some 9, .test true), (some 15, .test true), (some 22, .test true), (some 29, .test true), (some 36, .test false)]) (ps := [_, _, _, _, _]) (by kernel_rfl) ⟨h_x1, h_x2, h_x3, h_x4, h_x5, trivial⟩
        ·
          rw [← Option.some.inj h]
          exact mgo_fin (nb := 0) hmix (n := 2000) (ad := [(some 9, .test true), (some 15, .test true), (some 22, .test true), (some 29, .test false)]) (ps := [_, _, _, _]) (by kernel_rfl) ⟨h_x1, h_x2, h_x3, h_x4, trivial⟩
      ·
        rw [← Option.some.inj h]
        exact mgo_fin (nb := 0) hmix (n := 2000) (ad := [(some 9, .test true), (some 15, .test true), (some 22, .test false)]) (ps := [_, _, _]) (by kernel_rfl) ⟨h_x1, h_x2, h_x3, trivial⟩
    ·
      rw [← Option.some.inj h]
      exact mgo_fin (nb := 0) hmix (n := 2000) (ad := [(some 9, .test true), (some 15, .test false)]) (ps := [_, _]) (by kernel_rfl) ⟨h_x1, h_x2, trivial⟩
  ·
    rw [← Option.some.inj h]
    exact mgo_fin (nb := 0) hmix (n := 2000) (ad := [(some 9, .test false)]) (ps := [_]) (by kernel_rfl) ⟨h_x1, trivial⟩
theorem ok19 : ∀ k s r, itS step19 k s = some r → P19 s r := itS_ok fun k rec ih s r h => match s, h with
  | .e_19 a0 b1, h => t19_e_ok k rec ih a0 b1 r h
  | .e_30 s10 s21, h => t30_e_ok k rec ih s10 s21 r h
  | .h0_30 s21 t15 t16 t17, h => t30_h0_ok k rec ih s21 t15 t16 t17 r h
  | .e_31 x0_0 x0_1 x0_2 x0_3 x0_4 x0_5 x0_6 y1_0 y1_1 y1_2 y1_3 y1_4 y1_5 y1_6, h => t31_e_ok k rec ih x0_0 x0_1 x0_2 x0_3 x0_4 x0_5 x0_6 y1_0 y1_1 y1_2 y1_3 y1_4 y1_5 y1_6 r h
theorem ev19 {k : Nat} {a0 : Rs} {b1 : Rs} {r : R19} (h : g19 k a0 b1 = some r) : Ev Try.prog noHand 19 [.c (.imm a0), .c (.imm b1)] [] (res19 r) (bx19 r) := evr19 (ok19 _ _ _ h)
theorem ev30 {k : Nat} {s10 : Rs} {s21 : Rs} {r : R19} (h : g30 k s10 s21 = some r) : Ev Try.prog noHand 30 [.c (.imm s10), .c (.imm s21), .c (.clo 31 [] [])] [] (res30 r) (bx30 r) := evr30 (ok19 _ _ _ h)
theorem ev31 {k : Nat} {x0_0 : Int} {x0_1 : Int} {x0_2 : Rs} {x0_3 : Int} {x0_4 : Int} {x0_5 : Int} {x0_6 : Int} {y1_0 : Int} {y1_1 : Int} {y1_2 : Rs} {y1_3 : Int} {y1_4 : Int} {y1_5 : Int} {y1_6 : Int} {r : R19} (h : g31 k x0_0 x0_1 x0_2 x0_3 x0_4 x0_5 x0_6 y1_0 y1_1 y1_2 y1_3 y1_4 y1_5 y1_6 = some r) : Ev Try.prog noHand 31 [.ag [ic x0_0, ic x0_1, .imm x0_2, ic x0_3, .val (.int .u64 x0_4), ic x0_5, ic x0_6], .ag [ic y1_0, ic y1_1, .imm y1_2, ic y1_3, .val (.int .u64 y1_4), ic y1_5, ic y1_6]] [] (res31 r) (bx31 r) := evr31 (ok19 _ _ _ h)
-- auspice/auto.bars$1
inductive S29 where
  | e (x0_0 : Int) (x0_1 : Rs) (y1_0 : Int) (y1_1 : Rs)
abbrev R29 := Bool
def res29 : R29 → ARes
  | r => .ret (.c (bc r))
def bx29 : R29 → List (List Cell)
  | r => []
noncomputable def t29_e (k : Nat) (rec : S29 → Option R29) (x0_0 : Int) (x0_1 : Rs) (y1_0 : Int) (y1_1 : Rs) : Option R29 :=
  bif x0_0 == y1_0 then
    (g19 k x0_1 y1_1).bind fun v_x2 =>
    some v_x2
  else
    some false
noncomputable def step29 (k : Nat) (rec : S29 → Option R29) : S29 → Option R29
  | .e x0_0 x0_1 y1_0 y1_1 => t29_e k rec x0_0 x0_1 y1_0 y1_1
noncomputable def g29 (k : Nat) (x0_0 : Int) (x0_1 : Rs) (y1_0 : Int) (y1_1 : Rs) : Option R29 := itS step29 k (.e x0_0 x0_1 y1_0 y1_1)
noncomputable def P29 : S29 → R29 → Prop
  | .e x0_0 x0_1 y1_0 y1_1, r => Fin cx29 Try.f29 [.code body29] (fr0 Try.f29 [.ag [ic x0_0, .imm x0_1], .ag [ic y1_0, .imm y1_1]] []) (res29 r) (bx29 r)
theorem evr29 {x0_0 : Int} {x0_1 : Rs} {y1_0 : Int} {y1_1 : Rs} {r : R29} (h : P29 (.e x0_0 x0_1 y1_0 y1_1) r) : Ev Try.prog noHand 29 [.ag [ic x0_0, .imm x0_1], .ag [ic y1_0, .imm y1_1]] [] (res29 r) (bx29 r) := ev_of_fin (fn := Try.f29) (body := body29) (by kernel_rfl) (by kernel_rfl) (by kernel_rfl) rfl h
theorem t29_e_ok (k : Nat) (rec : S29 → Option R29) (ih : ∀ s r, rec s = some r → P29 s r) (x0_0 : Int) (x0_1 : Rs) (y1_0 : Int) (y1_1 : Rs) (r : R29) (h : t29_e k rec x0_0 x0_1 y1_0 y1_1 = some r) : P29 (.e x0_0 x0_1 y1_0 y1_1) r := by
  unfold t29_e at h
  rcases bif_or h with ⟨h_x1, h⟩ | ⟨h_x1, h⟩
  ·
    obtain ⟨v_x2, h_x3, h⟩ := bd_or h
    rw [← Option.some.inj h]
    exact mgo_fin (nb := 0) hmix (n := 2000) (ad := [(some 9, .test true), (some 15, .call (.ret (.c (bc v_x2))) [] false)]) (ps := [_, _]) (by kernel_rfl) ⟨h_x1, (ev19 h_x3), trivial⟩
  ·
    rw [← Option.some.inj h]
    exact mgo_fin (nb := 0) hmix (n := 2000) (ad := [(some 9, .test false)]) (ps := [_]) (by kernel_rfl) ⟨h_x1, trivial⟩
theorem ok29 : ∀ k s r, itS step29 k s = some r → P29 s r := itS_ok fun k rec ih s r h => match s, h with
  | .e x0_0 x0_1 y1_0 y1_1, h => t29_e_ok k rec ih x0_0 x0_1 y1_0 y1_1 r h
theorem ev29 {k : Nat} {x0_0 : Int} {x0_1 : Rs} {y1_0 : Int} {y1_1 : Rs} {r : R29} (h : g29 k x0_0 x0_1 y1_0 y1_1 = some r) : Ev Try.prog noHand 29 [.ag [ic x0_0, .imm x0_1], .ag [ic y1_0, .imm y1_1]] [] (res29 r) (bx29 r) := evr29 (ok29 _ _ _ h)
-- slices.EqualFunc[[]auspice/api.Bar,[]auspice/api.Bar,auspice/api.Bar,auspice/api.Bar]
inductive S28 where
  | e (s10 : Rs) (s21 : Rs)
  | h0 (s21 : Rs) (t15 : Rs) (t16 : Int) (t17 : Int)
abbrev R28 := Bool
def res28 : R28 → ARes
  | r => .ret (.c (bc r))
def bx28 : R28 → List (List Cell)
  | r => []
noncomputable def t28_e (k : Nat) (rec : S28 → Option R28) (s10 : Rs) (s21 : Rs) : Option R28 :=
  bif (s10.length : Int) != (s21.length : Int) then
    some false
  else
    rec (.h0 s21 s10 (s10.length : Int) 0)
noncomputable def t28_h0 (k : Nat) (rec : S28 → Option R28) (s21 : Rs) (t15 : Rs) (t16 : Int) (t17 : Int) : Option R28 :=
  bif decide (t17 < t16) then
    ixR t15 t17 fun w_x2 =>
    un_im w_x2 fun type_x4 guards_x4 =>
    ixR s21 t17 fun w_x5 =>
    un_im w_x5 fun type_x7 guards_x7 =>
    (g29 k type_x4 guards_x4 type_x7 guards_x7).bind fun v_x8 =>
    bif !v_x8 then
      some false
    else
      rec (.h0 s21 t15 t16 (IntKind.i64.wrap (t17 + 1)))
  else
    some true
noncomputable def step28 (k : Nat) (rec : S28 → Option R28) : S28 → Option R28
  | .e s10 s21 => t28_e k rec s10 s21
  | .h0 s21 t15 t16 t17 => t28_h0 k rec s21 t15 t16 t17
noncomputable def g28 (k : Nat) (s10 : Rs) (s21 : Rs) : Option R28 := itS step28 k (.e s10 s21)
noncomputable def P28 : S28 → R28 → Prop
  | .e s10 s21, r => Fin cx28 Try.f28 [.code body28] (fr0 Try.f28 [.c (.imm s10), .c (.imm s21), .c (.clo 29 [] [])] []) (res28 r) (bx28 r)
  | .h0 s21 t15 t16 t17, r => Fin cx28 Try.f28 (kAt body28 [1, 1, 0, 1, 0, 4] []) ⟨[.deadv, .c (.imm s21), .c (.clo 29 [] [])] ++ rep 12 .deadv ++ [.c (.imm t15), .c (ic t16), .c (ic t17)] ++ rep 14 .deadv, []⟩ (res28 r) (bx28 r)
theorem evr28 {s10 : Rs} {s21 : Rs} {r : R28} (h : P28 (.e s10 s21) r) : Ev Try.prog noHand 28 [.c (.imm s10), .c (.imm s21), .c (.clo 29 [] [])] [] (res28 r) (bx28 r) := ev_of_fin (fn := Try.f28) (body := body28) (by kernel_rfl) (by kernel_rfl) (by kernel_rfl) rfl h
theorem t28_e_ok (k : Nat) (rec : S28 → Option R28) (ih : ∀ s r, rec s = some r → P28 s r) (s10 : Rs) (s21 : Rs) (r : R28) (h : t28_e k rec s10 s21 = some r) : P28 (.e s10 s21) r := by
  unfold t28_e at h
  rcases bif_or h with ⟨h_x1, h⟩ | ⟨h_x1, h⟩
  ·
    rw [← Option.some.inj h]
    exact mgo_fin (nb := 0) hmix (n := 2000) (ad := [(some 14, .test true)]) (ps := [_]) (by kernel_rfl) ⟨h_x1, trivial⟩
  ·
    exact mgo_at (nb := 0) hmix (ih _ _ h) (n := 12) (ad := [(some 14, .test false)]) (ps := [_]) (m := bm 32 4294737913) (ls := []) (cs := []) (by kernel_rfl) ⟨h_x1, trivial⟩
theorem t28_h0_ok (k : Nat) (rec : S28 → Option R28) (ih : ∀ s r, rec s = some r → P28 s r) (s21 : Rs) (t15 : Rs) (t16 : Int) (t17 : Int) (r : R28) (h : t28_h0 k rec s21 t15 t16 t17 = some r) : P28 (.h0 s21 t15 t16 t17) r := by
  unfold t28_h0 at h
  rcases bif_or h with ⟨h_x1, h⟩ | ⟨h_x1, h⟩
  ·
    obtain ⟨w_x2, h_x3, h⟩ := ixR_or h
    obtain ⟨type_x4, guards_x4, hq, h1'⟩ := un_im_or h
    clear h; subst hq; have h := h1'; clear h1'
    obtain ⟨w_x5, h_x6, h⟩ := ixR_or h
    obtain ⟨type_x7, guards_x7, hq, h1'⟩ := un_im_or h
    clear h; subst hq; have h := h1'; clear h1'
    obtain ⟨v_x8, h_x9, h⟩ := bd_or h
    rcases bif_or h with ⟨h_x10, h⟩ | ⟨h_x10, h⟩
    ·
      rw [← Option.some.inj h]
      exact mgo_fin (nb := 0) hmix (n := 2000) (ad := [(some 18, .test true), (some 20, .row [ic type_x4, .imm guards_x4]), (some 24, .row [ic type_x7, .imm guards_x7]), (some 29, .call (.ret (.c (bc v_x8))) [] false), (some 30, .test true)]) (ps := [_, _, _, _, _]) (by kernel_rfl) ⟨h_x1, ix_row h_x3 rfl, ix_row h_x6 rfl, (ev29 h_x9), h_x10, trivial⟩
    ·
      exact mgo_at (nb := 0) hmix (ih _ _ h) (n := 18) (ad := [(some 18, .test true), (some 20, .row [ic type_x4, .imm guards_x4]), (some 24, .row [ic type_x7, .imm guards_x7]), (some 29, .call (.ret (.c (bc v_x8))) [] false), (some 30, .test false)]) (ps := [_, _, _, _, _]) (m := bm 32 4294737913) (ls := [9, 8]) (cs := []) (by kernel_rfl) ⟨h_x1, ix_row h_x3 rfl, ix_row h_x6 rfl, (ev29 h_x9), h_x10, trivial⟩
  ·
    rw [← Option.some.inj h]
    exact mgo_fin (nb := 0) hmix (n := 2000) (ad := [(some 18, .test false)]) (ps := [_]) (by kernel_rfl) ⟨h_x1, trivial⟩
theorem ok28 : ∀ k s r, itS step28 k s = some r → P28 s r := itS_ok fun k rec ih s r h => match s, h with
  | .e s10 s21, h => t28_e_ok k rec ih s10 s21 r h
  | .h0 s21 t15 t16 t17, h => t28_h0_ok k rec ih s21 t15 t16 t17 r h
theorem ev28 {k : Nat} {s10 : Rs} {s21 : Rs} {r : R28} (h : g28 k s10 s21 = some r) : Ev Try.prog noHand 28 [.c (.imm s10), .c (.imm s21), .c (.clo 29 [] [])] [] (res28 r) (bx28 r) := evr28 (ok28 _ _ _ h)
-- auspice/auto.bars
inductive S18 where
  | e (a0 : Rs) (b1 : Rs)
abbrev R18 := Bool
def res18 : R18 → ARes
  | r => .ret (.c (bc r))
def bx18 : R18 → List (List Cell)
  | r => []
noncomputable def t18_e (k : Nat) (rec : S18 → Option R18) (a0 : Rs) (b1 : Rs) : Option R18 :=
  (g28 k a0 b1).bind fun v_x1 =>
  some v_x1
noncomputable def step18 (k : Nat) (rec : S18 → Option R18) : S18 → Option R18
  | .e a0 b1 => t18_e k rec a0 b1
noncomputable def g18 (k : Nat) (a0 : Rs) (b1 : Rs) : Option R18 := itS step18 k (.e a0 b1)
noncomputable def P18 : S18 → R18 → Prop
  | .e a0 b1, r => Fin cx18 Try.f18 [.code body18] (fr0 Try.f18 [.c (.imm a0), .c (.imm b1)] []) (res18 r) (bx18 r)
theorem evr18 {a0 : Rs} {b1 : Rs} {r : R18} (h : P18 (.e a0 b1) r) : Ev Try.prog noHand 18 [.c (.imm a0), .c (.imm b1)] [] (res18 r) (bx18 r) := ev_of_fin (fn := Try.f18) (body := body18) (by kernel_rfl) (by kernel_rfl) (by kernel_rfl) rfl h
theorem t18_e_ok (k : Nat) (rec : S18 → Option R18) (ih : ∀ s r, rec s = some r → P18 s r) (a0 : Rs) (b1 : Rs) (r : R18) (h : t18_e k rec a0 b1 = some r) : P18 (.e a0 b1) r := by
  unfold t18_e at h
  obtain ⟨v_x1, h_x2, h⟩ := bd_or h
  rw [← Option.some.inj h]
  exact mgo_fin (nb := 0) hmix (n := 2000) (ad := [(some 7, .call (.ret (.c (bc v_x1))) [] false)]) (ps := [_]) (by kernel_rfl) ⟨(ev28 h_x2), trivial⟩
theorem ok18 : ∀ k s r, itS step18 k s = some r → P18 s r := itS_ok fun k rec ih s r h => match s, h with
  | .e a0 b1, h => t18_e_ok k rec ih a0 b1 r h
theorem ev18 {k : Nat} {a0 : Rs} {b1 : Rs} {r : R18} (h : g18 k a0 b1 = some r) : Ev Try.prog noHand 18 [.c (.imm a0), .c (.imm b1)] [] (res18 r) (bx18 r) := evr18 (ok18 _ _ _ h)
-- auspice/auto.Same$1$1
inductive S21 where
  | e (e0_0 : Int) (e0_1 : Rs) (e0_2 : Rs) (f1_0 : Int) (f1_1 : Rs) (f1_2 : Rs)
abbrev R21 := Bool
def res21 : R21 → ARes
  | r => .ret (.c (bc r))
def bx21 : R21 → List (List Cell)
  | r => []
noncomputable def t21_e (k : Nat) (rec : S21 → Option R21) (e0_0 : Int) (e0_1 : Rs) (e0_2 : Rs) (f1_0 : Int) (f1_1 : Rs) (f1_2 : Rs) : Option R21 :=
  bif e0_0 == f1_0 then
    (g19 k e0_1 f1_1).bind fun v_x2 =>
    bif v_x2 then
      (g18 k e0_2 f1_2).bind fun v_x4 =>
      some v_x4
    else
      some false
  else
    some false
noncomputable def step21 (k : Nat) (rec : S21 → Option R21) : S21 → Option R21
  | .e e0_0 e0_1 e0_2 f1_0 f1_1 f1_2 => t21_e k rec e0_0 e0_1 e0_2 f1_0 f1_1 f1_2
noncomputable def g21 (k : Nat) (e0_0 : Int) (e0_1 : Rs) (e0_2 : Rs) (f1_0 : Int) (f1_1 : Rs) (f1_2 : Rs) : Option R21 := itS step21 k (.e e0_0 e0_1 e0_2 f1_0 f1_1 f1_2)
noncomputable def P21 : S21 → R21 → Prop
  | .e e0_0 e0_1 e0_2 f1_0 f1_1 f1_2, r => Fin cx21 Try.f21 [.code body21] (fr0 Try.f21 [.ag [ic e0_0, .imm e0_1, .imm e0_2], .ag [ic f1_0, .imm f1_1, .imm f1_2]] []) (res21 r) (bx21 r)
theorem evr21 {e0_0 : Int} {e0_1 : Rs} {e0_2 : Rs} {f1_0 : Int} {f1_1 : Rs} {f1_2 : Rs} {r : R21} (h : P21 (.e e0_0 e0_1 e0_2 f1_0 f1_1 f1_2) r) : Ev Try.prog noHand 21 [.ag [ic e0_0, .imm e0_1, .imm e0_2], .ag [ic f1_0, .imm f1_1, .imm f1_2]] [] (res21 r) (bx21 r) := ev_of_fin (fn := Try.f21) (body := body21) (by kernel_rfl) (by kernel_rfl) (by kernel_rfl) rfl h
theorem t21_e_ok (k : Nat) (rec : S21 → Option R21) (ih : ∀ s r, rec s = some r → P21 s r) (e0_0 : Int) (e0_1 : Rs) (e0_2 : Rs) (f1_0 : Int) (f1_1 : Rs) (f1_2 : Rs) (r : R21) (h : t21_e k rec e0_0 e0_1 e0_2 f1_0 f1_1 f1_2 = some r) : P21 (.e e0_0 e0_1 e0_2 f1_0 f1_1 f1_2) r := by
  unfold t21_e at h
  rcases bif_or h with ⟨h_x1, h⟩ | ⟨h_x1, h⟩
  ·
    obtain ⟨v_x2, h_x3, h⟩ := bd_or h
    rcases bif_or h with ⟨hq, h1'⟩ | ⟨hq, h1'⟩
    · clear h; subst hq; have h := h1'; clear h1'
      obtain ⟨v_x4, h_x5, h⟩ := bd_or h
      rw [← Option.some.inj h]
      exact mgo_fin (nb := 0) hmix (n := 2000) (ad := [(some 9, .test true), (some 15, .call (.ret (.c (bc true))) [] false), (some 22, .call (.ret (.c (bc v_x4))) [] false)]) (ps := [_, _, _]) (by kernel_rfl) ⟨h_x1, (ev19 h_x3), (ev18 h_x5), trivial⟩
    · clear h; subst hq; have h := h1'; clear h1'
      rw [← Option.some.inj h]
      exact mgo_fin (nb := 0) hmix (n := 2000) (ad := [(some 9, .test true), (some 15, .call (.ret (.c (bc false))) [] false)]) (ps := [_, _]) (by kernel_rfl) ⟨h_x1, (ev19 h_x3), trivial⟩
  ·
    rw [← Option.some.inj h]
    exact mgo_fin (nb := 0) hmix (n := 2000) (ad := [(some 9, .test false)]) (ps := [_]) (by kernel_rfl) ⟨h_x1, trivial⟩
theorem ok21 : ∀ k s r, itS step21 k s = some r → P21 s r := itS_ok fun k rec ih s r h => match s, h with
  | .e e0_0 e0_1 e0_2 f1_0 f1_1 f1_2, h => t21_e_ok k rec ih e0_0 e0_1 e0_2 f1_0 f1_1 f1_2 r h
theorem ev21 {k : Nat} {e0_0 : Int} {e0_1 : Rs} {e0_2 : Rs} {f1_0 : Int} {f1_1 : Rs} {f1_2 : Rs} {r : R21} (h : g21 k e0_0 e0_1 e0_2 f1_0 f1_1 f1_2 = some r) : Ev Try.prog noHand 21 [.ag [ic e0_0, .imm e0_1, .imm e0_2], .ag [ic f1_0, .imm f1_1, .imm f1_2]] [] (res21 r) (bx21 r) := evr21 (ok21 _ _ _ h)
-- slices.EqualFunc[[]auspice/api.End,[]auspice/api.End,auspice/api.End,auspice/api.End]
inductive S20 where
  | e (s10 : Rs) (s21 : Rs)
  | h0 (s21 : Rs) (t15 : Rs) (t16 : Int) (t17 : Int)
abbrev R20 := Bool
def res20 : R20 → ARes
  | r => .ret (.c (bc r))
def bx20 : R20 → List (List Cell)
  | r => []
noncomputable def t20_e (k : Nat) (rec : S20 → Option R20) (s10 : Rs) (s21 : Rs) : Option R20 :=
  bif (s10.length : Int) != (s21.length : Int) then
    some false
  else
    rec (.h0 s21 s10 (s10.length : Int) 0)
noncomputable def t20_h0 (k : Nat) (rec : S20 → Option R20) (s21 : Rs) (t15 : Rs) (t16 : Int) (t17 : Int) : Option R20 :=
  bif decide (t17 < t16) then
    ixR t15 t17 fun w_x2 =>
    un_imm w_x2 fun branch_x4 closes_x4 bars_x4 =>
    ixR s21 t17 fun w_x5 =>
    un_imm w_x5 fun branch_x7 closes_x7 bars_x7 =>
    (g21 k branch_x4 closes_x4 bars_x4 branch_x7 closes_x7 bars_x7).bind fun v_x8 =>
    bif !v_x8 then
      some false
    else
      rec (.h0 s21 t15 t16 (IntKind.i64.wrap (t17 + 1)))
  else
    some true
noncomputable def step20 (k : Nat) (rec : S20 → Option R20) : S20 → Option R20
  | .e s10 s21 => t20_e k rec s10 s21
  | .h0 s21 t15 t16 t17 => t20_h0 k rec s21 t15 t16 t17
noncomputable def g20 (k : Nat) (s10 : Rs) (s21 : Rs) : Option R20 := itS step20 k (.e s10 s21)
noncomputable def P20 : S20 → R20 → Prop
  | .e s10 s21, r => Fin cx20 Try.f20 [.code body20] (fr0 Try.f20 [.c (.imm s10), .c (.imm s21), .c (.clo 21 [] [])] []) (res20 r) (bx20 r)
  | .h0 s21 t15 t16 t17, r => Fin cx20 Try.f20 (kAt body20 [1, 1, 0, 1, 0, 4] []) ⟨[.deadv, .c (.imm s21), .c (.clo 21 [] [])] ++ rep 12 .deadv ++ [.c (.imm t15), .c (ic t16), .c (ic t17)] ++ rep 14 .deadv, []⟩ (res20 r) (bx20 r)
theorem evr20 {s10 : Rs} {s21 : Rs} {r : R20} (h : P20 (.e s10 s21) r) : Ev Try.prog noHand 20 [.c (.imm s10), .c (.imm s21), .c (.clo 21 [] [])] [] (res20 r) (bx20 r) := ev_of_fin (fn := Try.f20) (body := body20) (by kernel_rfl) (by kernel_rfl) (by kernel_rfl) rfl h
theorem t20_e_ok (k : Nat) (rec : S20 → Option R20) (ih : ∀ s r, rec s = some r → P20 s r) (s10 : Rs) (s21 : Rs) (r : R20) (h : t20_e k rec s10 s21 = some r) : P20 (.e s10 s21) r := by
  unfold t20_e at h
  rcases bif_or h with ⟨h_x1, h⟩ | ⟨h_x1, h⟩
  ·
    rw [← Option.some.inj h]
    exact mgo_fin (nb := 0) hmix (n := 2000) (ad := [(some 14, .test true)]) (ps := [_]) (by kernel_rfl) ⟨h_x1, trivial⟩
  ·
    exact mgo_at (nb := 0) hmix (ih _ _ h) (n := 12) (ad := [(some 14, .test false)]) (ps := [_]) (m := bm 32 4294737913) (ls := []) (cs := []) (by kernel_rfl) ⟨h_x1, trivial⟩
theorem t20_h0_ok (k : Nat) (rec : S20 → Option R20) (ih : ∀ s r, rec s = some r → P20 s r) (s21 : Rs) (t15 : Rs) (t16 : Int) (t17 : Int) (r : R20) (h : t20_h0 k rec s21 t15 t16 t17 = some r) : P20 (.h0 s21 t15 t16 t17) r := by
  unfold t20_h0 at h
  rcases bif_or h with ⟨h_x1, h⟩ | ⟨h_x1, h⟩
  ·
    obtain ⟨w_x2, h_x3, h⟩ := ixR_or h
    obtain ⟨branch_x4, closes_x4, bars_x4, hq, h1'⟩ := un_imm_or h
    clear h; subst hq; have h := h1'; clear h1'
    obtain ⟨w_x5, h_x6, h⟩ := ixR_or h
    obtain ⟨branch_x7, closes_x7, bars_x7, hq, h1'⟩ := un_imm_or h
    clear h; subst hq; have h := h1'; clear h1'
    obtain ⟨v_x8, h_x9, h⟩ := bd_or h
    rcases bif_or h with ⟨h_x10, h⟩ | ⟨h_x10, h⟩
    ·
      rw [← Option.some.inj h]
      exact mgo_fin (nb := 0) hmix (n := 2000) (ad := [(some 18, .test true), (some 20, .row [ic branch_x4, .imm closes_x4, .imm bars_x4]), (some 24, .row [ic branch_x7, .imm closes_x7, .imm bars_x7]), (some 29, .call (.ret (.c (bc v_x8))) [] false), (some 30, .test true)]) (ps := [_, _, _, _, _]) (by kernel_rfl) ⟨h_x1, ix_row h_x3 rfl, ix_row h_x6 rfl, (ev21 h_x9), h_x10, trivial⟩
    ·
      exact mgo_at (nb := 0) hmix (ih _ _ h) (n := 18) (ad := [(some 18, .test true), (some 20, .row [ic branch_x4, .imm closes_x4, .imm bars_x4]), (some 24, .row [ic branch_x7, .imm closes_x7, .imm bars_x7]), (some 29, .call (.ret (.c (bc v_x8))) [] false), (some 30, .test false)]) (ps := [_, _, _, _, _]) (m := bm 32 4294737913) (ls := [9, 8]) (cs := []) (by kernel_rfl) ⟨h_x1, ix_row h_x3 rfl, ix_row h_x6 rfl, (ev21 h_x9), h_x10, trivial⟩
  ·
    rw [← Option.some.inj h]
    exact mgo_fin (nb := 0) hmix (n := 2000) (ad := [(some 18, .test false)]) (ps := [_]) (by kernel_rfl) ⟨h_x1, trivial⟩
theorem ok20 : ∀ k s r, itS step20 k s = some r → P20 s r := itS_ok fun k rec ih s r h => match s, h with
  | .e s10 s21, h => t20_e_ok k rec ih s10 s21 r h
  | .h0 s21 t15 t16 t17, h => t20_h0_ok k rec ih s21 t15 t16 t17 r h
theorem ev20 {k : Nat} {s10 : Rs} {s21 : Rs} {r : R20} (h : g20 k s10 s21 = some r) : Ev Try.prog noHand 20 [.c (.imm s10), .c (.imm s21), .c (.clo 21 [] [])] [] (res20 r) (bx20 r) := evr20 (ok20 _ _ _ h)
-- auspice/auto.Same$1
inductive S17 where
  | e (x0_0 : Int) (x0_1 : Int) (x0_2 : Bool) (x0_3 : Int) (x0_4 : Rs) (x0_5 : Rs) (x0_6 : Rs) (x0_7 : Rs) (y1_0 : Int) (y1_1 : Int) (y1_2 : Bool) (y1_3 : Int) (y1_4 : Rs) (y1_5 : Rs) (y1_6 : Rs) (y1_7 : Rs)
abbrev R17 := Bool
def res17 : R17 → ARes
  | r => .ret (.c (bc r))
def bx17 : R17 → List (List Cell)
  | r => []
noncomputable def t17_e (k : Nat) (rec : S17 → Option R17) (x0_0 : Int) (x0_1 : Int) (x0_2 : Bool) (x0_3 : Int) (x0_4 : Rs) (x0_5 : Rs) (x0_6 : Rs) (x0_7 : Rs) (y1_0 : Int) (y1_1 : Int) (y1_2 : Bool) (y1_3 : Int) (y1_4 : Rs) (y1_5 : Rs) (y1_6 : Rs) (y1_7 : Rs) : Option R17 :=
  bif x0_0 == y1_0 then
    bif x0_1 == y1_1 then
      bif x0_2 == y1_2 then
        bif x0_3 == y1_3 then
          (g18 k x0_4 y1_4).bind fun v_x5 =>
          bif v_x5 then
            (g19 k x0_5 y1_5).bind fun v_x7 =>
            bif v_x7 then
              (g19 k x0_6 y1_6).bind fun v_x9 =>
              bif v_x9 then
                (g20 k x0_7 y1_7).bind fun v_x11 =>
                some v_x11
              else
                some false
            else
              some false
          else
            some false
        else
          some false
      else
        some false
    else
      some false
  else
    some false
noncomputable def step17 (k : Nat) (rec : S17 → Option R17) : S17 → Option R17
  | .e x0_0 x0_1 x0_2 x0_3 x0_4 x0_5 x0_6 x0_7 y1_0 y1_1 y1_2 y1_3 y1_4 y1_5 y1_6 y1_7 => t17_e k rec x0_0 x0_1 x0_2 x0_3 x0_4 x0_5 x0_6 x0_7 y1_0 y1_1 y1_2 y1_3 y1_4 y1_5 y1_6 y1_7
noncomputable def g17 (k : Nat) (x0_0 : Int) (x0_1 : Int) (x0_2 : Bool) (x0_3 : Int) (x0_4 : Rs) (x0_5 : Rs) (x0_6 : Rs) (x0_7 : Rs) (y1_0 : Int) (y1_1 : Int) (y1_2 : Bool) (y1_3 : Int) (y1_4 : Rs) (y1_5 : Rs) (y1_6 : Rs) (y1_7 : Rs) : Option R17 := itS step17 k (.e x0_0 x0_1 x0_2 x0_3 x0_4 x0_5 x0_6 x0_7 y1_0 y1_1 y1_2 y1_3 y1_4 y1_5 y1_6 y1_7)
noncomputable def P17 : S17 → R17 → Prop
  | .e x0_0 x0_1 x0_2 x0_3 x0_4 x0_5 x0_6 x0_7 y1_0 y1_1 y1_2 y1_3 y1_4 y1_5 y1_6 y1_7, r => Fin cx17 Try.f17 [.code body17] (fr0 Try.f17 [.ag [ic x0_0, ic x0_1, bc x0_2, ic x0_3, .imm x0_4, .imm x0_5, .imm x0_6, .imm x0_7], .ag [ic y1_0, ic y1_1, bc y1_2, ic y1_3, .imm y1_4, .imm y1_5, .imm y1_6, .imm y1_7]] []) (res17 r) (bx17 r)
theorem evr17 {x0_0 : Int} {x0_1 : Int} {x0_2 : Bool} {x0_3 : Int} {x0_4 : Rs} {x0_5 : Rs} {x0_6 : Rs} {x0_7 : Rs} {y1_0 : Int} {y1_1 : Int} {y1_2 : Bool} {y1_3 : Int} {y1_4 : Rs} {y1_5 : Rs} {y1_6 : Rs} {y1_7 : Rs} {r : R17} (h : P17 (.e x0_0 x0_1 x0_2 x0_3 x0_4 x0_5 x0_6 x0_7 y1_0 y1_1 y1_2 y1_3 y1_4 y1_5 y1_6 y1_7) r) : Ev Try.prog noHand 17 [.ag [ic x0_0, ic x0_1, bc x0_2, ic x0_3, .imm x0_4, .imm x0_5, .imm x0_6, .imm x0_7], .ag [ic y1_0, ic y1_1, bc y1_2, ic y1_3, .imm y1_4, .imm y1_5, .imm y1_6, .imm y1_7]] [] (res17 r) (bx17 r) := ev_of_fin (fn := Try.f17) (body := body17) (by kernel_rfl) (by kernel_rfl) (by kernel_rfl) rfl h
theorem t17_e_ok (k : Nat) (rec : S17 → Option R17) (ih : ∀ s r, rec s = some r → P17 s r) (x0_0 : Int) (x0_1 : Int) (x0_2 : Bool) (x0_3 : Int) (x0_4 : Rs) (x0_5 : Rs) (x0_6 : Rs) (x0_7 : Rs) (y1_0 : Int) (y1_1 : Int) (y1_2 : Bool) (y1_3 : Int) (y1_4 : Rs) (y1_5 : Rs) (y1_6 : Rs) (y1_7 : Rs) (r : R17) (h : t17_e k rec x0_0 x0_1 x0_2 x0_3 x0_4 x0_5 x0_6 x0_7 y1_0 y1_1 y1_2 y1_3 y1_4 y1_5 y1_6 y1_7 = some r) : P17 (.e x0_0 x0_1 x0_2 x0_3 x0_4 x0_5 x0_6 x0_7 y1_0 y1_1 y1_2 y1_3 y1_4 y1_5 y1_6 y1_7) r := by
  unfold t17_e at h
  rcases bif_or h with ⟨h_x1, h⟩ | ⟨h_x1, h⟩
  ·
    rcases bif_or h with ⟨h_x2, h⟩ | ⟨h_x2, h⟩
    ·
      rcases bif_or h with ⟨h_x3, h⟩ | ⟨h_x3, h⟩
      ·
        rcases bif_or h with ⟨h_x4, h⟩ | ⟨h_x4, h⟩
        ·
          obtain ⟨v_x5, h_x6, h⟩ := bd_or h
          rcases bif_or h with ⟨hq, h1'⟩ | ⟨hq, h1'⟩
          · clear h; subst hq; have h := h1'; clear h1'
            obtain ⟨v_x7, h_x8, h⟩ := bd_or h
            rcases bif_or h with ⟨hq, h1'⟩ | ⟨hq, h1'⟩
            · clear h; subst hq; have h := h1'; clear h1'
              obtain ⟨v_x9, h_x10, h⟩ := bd_or h
              rcases bif_or h with ⟨hq, h1'⟩ | ⟨hq, h1'⟩
              · clear h; subst hq; have h := h1'; clear h1'
                obtain ⟨v_x11, h_x12, h⟩ := bd_or h
                rw [← Option.some.inj h]
                exact mgo_fin (nb := 0) hmix (n := 2000) (ad := [(some 9, .test true), (some 15, .test true), (some 22, .test true), (some 29, .test true), (some 36, .call (.ret (.c (bc true))) [] false), (some 43, .call (.ret (.c (bc true))) [] false), (some 50, .call (.ret (.c (bc true))) [] false), (some 57, .call (.ret (.c (bc v_x11))) [] false)]) (ps := [_, _, _, _, _, _, _, _]) (by kernel_rfl) ⟨h_x1, h_x2, h_x3, h_x4, (ev18 h_x6), (ev19 h_x8), (ev19 h_x10), (ev20 h_x12), trivial⟩
              · clear h; subst hq; have h := h1'; clear h1'
                rw [← Option.some.inj h]
                exact mgo_fin (nb := 0) hmix (n := 2000) (ad := [(some 9, .test true), (some 15, .test true), (some 22, .test true), (some 29, .test true), (some 36, .call (.ret (.c (bc true))) [] false), (some 43, .call (.ret (.c (bc true))) [] false), (some 50, .call (.ret (.c (bc false))) [] false)]) (ps := [_, _, _, _, _, _, _]) (by kernel_rfl) ⟨h_x1, h_x2, h_x3, h_x4, (ev18 h_x6), (ev19 h_x8), (ev19 h_x10), trivial⟩
            · clear h; subst hq; have h := h1'; clear h1'
              rw [← Option.some.inj h]
              exact mgo_fin (nb := 0) hmix (n := 2000) (ad := [(some 9, .test true), (some 15, .test true), (some 22, .test true), (some 29, .test true), (some 36, .call (.ret (.c (bc true))) [] false), (some 43, .call (.ret (.c (bc false))) [] false)]) (ps := [_, _, _, _, _, _]) (by kernel_rfl) ⟨h_x1, h_x2, h_x3, h_x4, (ev18 h_x6), (ev19 h_x8), trivial⟩
          · clear h; subst hq; have h := h1'; clear h1'
            rw [← Option.some.inj h]
            exact mgo_fin (nb := 0) hmix (n := 2000) (ad := [(some 9, .test true), (some 15, .test true), (some 22, .test true), (some 29, .test true), (some 36, .call (.ret (.c (bc false))) [] false)]) (ps := [_, _, _, _, _]) (by kernel_rfl) ⟨h_x1, h_x2, h_x3, h_x4, (ev18 h_x6), trivial⟩
        ·
          rw [← Option.some.inj h]
          exact mgo_fin (nb := 0) hmix (n := 2000) (ad := [(some 9, .test true), (some 15, .test true), (some 22, .test true), (some 29, .test false)]) (ps := [_, _, _, _]) (by kernel_rfl) ⟨h_x1, h_x2, h_x3, h_x4, trivial⟩
      ·
        rw [← Option.some.inj h]
        exact mgo_fin (nb := 0) hmix (n := 2000) (ad := [(some 9, .test true), (some 15, .test true), (some 22, .test false)]) (ps := [_, _, _]) (by kernel_rfl) ⟨h_x1, h_x2, h_x3, trivial⟩
    ·
      rw [← Option.some.inj h]
      exact mgo_fin (nb := 0) hmix (n := 2000) (ad := [(some 9, .test true), (some 15, .test false)]) (ps := [_, _]) (by kernel_rfl) ⟨h_x1, h_x2, trivial⟩
  ·
    rw [← Option.some.inj h]
    exact mgo_fin (nb := 0) hmix (n := 2000) (ad := [(some 9, .test false)]) (ps := [_]) (by kernel_rfl) ⟨h_x1, trivial⟩
theorem ok17 : ∀ k s r, itS step17 k s = some r → P17 s r := itS_ok fun k rec ih s r h => match s, h with
  | .e x0_0 x0_1 x0_2 x0_3 x0_4 x0_5 x0_6 x0_7 y1_0 y1_1 y1_2 y1_3 y1_4 y1_5 y1_6 y1_7, h => t17_e_ok k rec ih x0_0 x0_1 x0_2 x0_3 x0_4 x0_5 x0_6 x0_7 y1_0 y1_1 y1_2 y1_3 y1_4 y1_5 y1_6 y1_7 r h
theorem ev17 {k : Nat} {x0_0 : Int} {x0_1 : Int} {x0_2 : Bool} {x0_3 : Int} {x0_4 : Rs} {x0_5 : Rs} {x0_6 : Rs} {x0_7 : Rs} {y1_0 : Int} {y1_1 : Int} {y1_2 : Bool} {y1_3 : Int} {y1_4 : Rs} {y1_5 : Rs} {y1_6 : Rs} {y1_7 : Rs} {r : R17} (h : g17 k x0_0 x0_1 x0_2 x0_3 x0_4 x0_5 x0_6 x0_7 y1_0 y1_1 y1_2 y1_3 y1_4 y1_5 y1_6 y1_7 = some r) : Ev Try.prog noHand 17 [.ag [ic x0_0, ic x0_1, bc x0_2, ic x0_3, .imm x0_4, .imm x0_5, .imm x0_6, .imm x0_7], .ag [ic y1_0, ic y1_1, bc y1_2, ic y1_3, .imm y1_4, .imm y1_5, .imm y1_6, .imm y1_7]] [] (res17 r) (bx17 r) := evr17 (ok17 _ _ _ h)
-- slices.EqualFunc[[]auspice/api.State,[]auspice/api.State,auspice/api.State,auspice/api.State]
inductive S16 where
  | e (s10 : Rs) (s21 : Rs)
  | h0 (s21 : Rs) (t15 : Rs) (t16 : Int) (t17 : Int)
abbrev R16 := Bool
def res16 : R16 → ARes
  | r => .ret (.c (bc r))
def bx16 : R16 → List (List Cell)
  | r => []
noncomputable def t16_e (k : Nat) (rec : S16 → Option R16) (s10 : Rs) (s21 : Rs) : Option R16 :=
  bif (s10.length : Int) != (s21.length : Int) then
    some false
  else
    rec (.h0 s21 s10 (s10.length : Int) 0)
noncomputable def t16_h0 (k : Nat) (rec : S16 → Option R16) (s21 : Rs) (t15 : Rs) (t16 : Int) (t17 : Int) : Option R16 :=
  bif decide (t17 < t16) then
    ixR t15 t17 fun w_x2 =>
    un_iibim4 w_x2 fun parent_x4 type_x4 many_x4 window_x4 bars_x4 leaves_x4 guards_x4 ends_x4 =>
    ixR s21 t17 fun w_x5 =>
    un_iibim4 w_x5 fun parent_x7 type_x7 many_x7 window_x7 bars_x7 leaves_x7 guards_x7 ends_x7 =>
    (g17 k parent_x4 type_x4 many_x4 window_x4 bars_x4 leaves_x4 guards_x4 ends_x4 parent_x7 type_x7 many_x7 window_x7 bars_x7 leaves_x7 guards_x7 ends_x7).bind fun v_x8 =>
    bif !v_x8 then
      some false
    else
      rec (.h0 s21 t15 t16 (IntKind.i64.wrap (t17 + 1)))
  else
    some true
noncomputable def step16 (k : Nat) (rec : S16 → Option R16) : S16 → Option R16
  | .e s10 s21 => t16_e k rec s10 s21
  | .h0 s21 t15 t16 t17 => t16_h0 k rec s21 t15 t16 t17
noncomputable def g16 (k : Nat) (s10 : Rs) (s21 : Rs) : Option R16 := itS step16 k (.e s10 s21)
noncomputable def P16 : S16 → R16 → Prop
  | .e s10 s21, r => Fin cx16 Try.f16 [.code body16] (fr0 Try.f16 [.c (.imm s10), .c (.imm s21), .c (.clo 17 [] [])] []) (res16 r) (bx16 r)
  | .h0 s21 t15 t16 t17, r => Fin cx16 Try.f16 (kAt body16 [1, 1, 0, 1, 0, 4] []) ⟨[.deadv, .c (.imm s21), .c (.clo 17 [] [])] ++ rep 12 .deadv ++ [.c (.imm t15), .c (ic t16), .c (ic t17)] ++ rep 14 .deadv, []⟩ (res16 r) (bx16 r)
theorem evr16 {s10 : Rs} {s21 : Rs} {r : R16} (h : P16 (.e s10 s21) r) : Ev Try.prog noHand 16 [.c (.imm s10), .c (.imm s21), .c (.clo 17 [] [])] [] (res16 r) (bx16 r) := ev_of_fin (fn := Try.f16) (body := body16) (by kernel_rfl) (by kernel_rfl) (by kernel_rfl) rfl h
theorem t16_e_ok (k : Nat) (rec : S16 → Option R16) (ih : ∀ s r, rec s = some r → P16 s r) (s10 : Rs) (s21 : Rs) (r : R16) (h : t16_e k rec s10 s21 = some r) : P16 (.e s10 s21) r := by
  unfold t16_e at h
  rcases bif_or h with ⟨h_x1, h⟩ | ⟨h_x1, h⟩
  ·
    rw [← Option.some.inj h]
    exact mgo_fin (nb := 0) hmix (n := 2000) (ad := [(some 14, .test true)]) (ps := [_]) (by kernel_rfl) ⟨h_x1, trivial⟩
  ·
    exact mgo_at (nb := 0) hmix (ih _ _ h) (n := 12) (ad := [(some 14, .test false)]) (ps := [_]) (m := bm 32 4294737913) (ls := []) (cs := []) (by kernel_rfl) ⟨h_x1, trivial⟩
theorem t16_h0_ok (k : Nat) (rec : S16 → Option R16) (ih : ∀ s r, rec s = some r → P16 s r) (s21 : Rs) (t15 : Rs) (t16 : Int) (t17 : Int) (r : R16) (h : t16_h0 k rec s21 t15 t16 t17 = some r) : P16 (.h0 s21 t15 t16 t17) r := by
  unfold t16_h0 at h
  rcases bif_or h with ⟨h_x1, h⟩ | ⟨h_x1, h⟩
  ·
    obtain ⟨w_x2, h_x3, h⟩ := ixR_or h
    obtain ⟨parent_x4, type_x4, many_x4, window_x4, bars_x4, leaves_x4, guards_x4, ends_x4, hq, h1'⟩ := un_iibim4_or h
    clear h; subst hq; have h := h1'; clear h1'
    obtain ⟨w_x5, h_x6, h⟩ := ixR_or h
    obtain ⟨parent_x7, type_x7, many_x7, window_x7, bars_x7, leaves_x7, guards_x7, ends_x7, hq, h1'⟩ := un_iibim4_or h
    clear h; subst hq; have h := h1'; clear h1'
    obtain ⟨v_x8, h_x9, h⟩ := bd_or h
    rcases bif_or h with ⟨h_x10, h⟩ | ⟨h_x10, h⟩
    ·
      rw [← Option.some.inj h]
      exact mgo_fin (nb := 0) hmix (n := 2000) (ad := [(some 18, .test true), (some 20, .row [ic parent_x4, ic type_x4, bc many_x4, ic window_x4, .imm bars_x4, .imm leaves_x4, .imm guards_x4, .imm ends_x4]), (some 24, .row [ic parent_x7, ic type_x7, bc many_x7, ic window_x7, .imm bars_x7, .imm leaves_x7, .imm guards_x7, .imm ends_x7]), (some 29, .call (.ret (.c (bc v_x8))) [] false), (some 30, .test true)]) (ps := [_, _, _, _, _]) (by kernel_rfl) ⟨h_x1, ix_row h_x3 rfl, ix_row h_x6 rfl, (ev17 h_x9), h_x10, trivial⟩
    ·
      exact mgo_at (nb := 0) hmix (ih _ _ h) (n := 18) (ad := [(some 18, .test true), (some 20, .row [ic parent_x4, ic type_x4, bc many_x4, ic window_x4, .imm bars_x4, .imm leaves_x4, .imm guards_x4, .imm ends_x4]), (some 24, .row [ic parent_x7, ic type_x7, bc many_x7, ic window_x7, .imm bars_x7, .imm leaves_x7, .imm guards_x7, .imm ends_x7]), (some 29, .call (.ret (.c (bc v_x8))) [] false), (some 30, .test false)]) (ps := [_, _, _, _, _]) (m := bm 32 4294737913) (ls := [9, 8]) (cs := []) (by kernel_rfl) ⟨h_x1, ix_row h_x3 rfl, ix_row h_x6 rfl, (ev17 h_x9), h_x10, trivial⟩
  ·
    rw [← Option.some.inj h]
    exact mgo_fin (nb := 0) hmix (n := 2000) (ad := [(some 18, .test false)]) (ps := [_]) (by kernel_rfl) ⟨h_x1, trivial⟩
theorem ok16 : ∀ k s r, itS step16 k s = some r → P16 s r := itS_ok fun k rec ih s r h => match s, h with
  | .e s10 s21, h => t16_e_ok k rec ih s10 s21 r h
  | .h0 s21 t15 t16 t17, h => t16_h0_ok k rec ih s21 t15 t16 t17 r h
theorem ev16 {k : Nat} {s10 : Rs} {s21 : Rs} {r : R16} (h : g16 k s10 s21 = some r) : Ev Try.prog noHand 16 [.c (.imm s10), .c (.imm s21), .c (.clo 17 [] [])] [] (res16 r) (bx16 r) := evr16 (ok16 _ _ _ h)
-- auspice/auto.Same
inductive S8 where
  | e (a0_0 : Int) (a0_1 : Rs) (a0_2 : Rs) (b1_0 : Int) (b1_1 : Rs) (b1_2 : Rs)
abbrev R8 := Bool
def res8 : R8 → ARes
  | r => .ret (.c (bc r))
def bx8 : R8 → List (List Cell)
  | r => []
noncomputable def t8_e (k : Nat) (rec : S8 → Option R8) (a0_0 : Int) (a0_1 : Rs) (a0_2 : Rs) (b1_0 : Int) (b1_1 : Rs) (b1_2 : Rs) : Option R8 :=
  bif a0_0 == b1_0 then
    (g15 k a0_1 b1_1).bind fun v_x2 =>
    bif v_x2 then
      (g16 k a0_2 b1_2).bind fun v_x4 =>
      some v_x4
    else
      some false
  else
    some false
noncomputable def step8 (k : Nat) (rec : S8 → Option R8) : S8 → Option R8
  | .e a0_0 a0_1 a0_2 b1_0 b1_1 b1_2 => t8_e k rec a0_0 a0_1 a0_2 b1_0 b1_1 b1_2
noncomputable def g8 (k : Nat) (a0_0 : Int) (a0_1 : Rs) (a0_2 : Rs) (b1_0 : Int) (b1_1 : Rs) (b1_2 : Rs) : Option R8 := itS step8 k (.e a0_0 a0_1 a0_2 b1_0 b1_1 b1_2)
noncomputable def P8 : S8 → R8 → Prop
  | .e a0_0 a0_1 a0_2 b1_0 b1_1 b1_2, r => Fin cx8 Try.f8 [.code body8] (fr0 Try.f8 [.ag [ic a0_0, .imm a0_1, .imm a0_2], .ag [ic b1_0, .imm b1_1, .imm b1_2]] []) (res8 r) (bx8 r)
theorem evr8 {a0_0 : Int} {a0_1 : Rs} {a0_2 : Rs} {b1_0 : Int} {b1_1 : Rs} {b1_2 : Rs} {r : R8} (h : P8 (.e a0_0 a0_1 a0_2 b1_0 b1_1 b1_2) r) : Ev Try.prog noHand 8 [.ag [ic a0_0, .imm a0_1, .imm a0_2], .ag [ic b1_0, .imm b1_1, .imm b1_2]] [] (res8 r) (bx8 r) := ev_of_fin (fn := Try.f8) (body := body8) (by kernel_rfl) (by kernel_rfl) (by kernel_rfl) rfl h
theorem t8_e_ok (k : Nat) (rec : S8 → Option R8) (ih : ∀ s r, rec s = some r → P8 s r) (a0_0 : Int) (a0_1 : Rs) (a0_2 : Rs) (b1_0 : Int) (b1_1 : Rs) (b1_2 : Rs) (r : R8) (h : t8_e k rec a0_0 a0_1 a0_2 b1_0 b1_1 b1_2 = some r) : P8 (.e a0_0 a0_1 a0_2 b1_0 b1_1 b1_2) r := by
  unfold t8_e at h
  rcases bif_or h with ⟨h_x1, h⟩ | ⟨h_x1, h⟩
  ·
    obtain ⟨v_x2, h_x3, h⟩ := bd_or h
    rcases bif_or h with ⟨hq, h1'⟩ | ⟨hq, h1'⟩
    · clear h; subst hq; have h := h1'; clear h1'
      obtain ⟨v_x4, h_x5, h⟩ := bd_or h
      rw [← Option.some.inj h]
      exact mgo_fin (nb := 0) hmix (n := 2000) (ad := [(some 9, .test true), (some 15, .call (.ret (.c (bc true))) [] false), (some 22, .call (.ret (.c (bc v_x4))) [] false)]) (ps := [_, _, _]) (by kernel_rfl) ⟨h_x1, (ev15 h_x3), (ev16 h_x5), trivial⟩
    · clear h; subst hq; have h := h1'; clear h1'
      rw [← Option.some.inj h]
      exact mgo_fin (nb := 0) hmix (n := 2000) (ad := [(some 9, .test true), (some 15, .call (.ret (.c (bc false))) [] false)]) (ps := [_, _]) (by kernel_rfl) ⟨h_x1, (ev15 h_x3), trivial⟩
  ·
    rw [← Option.some.inj h]
    exact mgo_fin (nb := 0) hmix (n := 2000) (ad := [(some 9, .test false)]) (ps := [_]) (by kernel_rfl) ⟨h_x1, trivial⟩
theorem ok8 : ∀ k s r, itS step8 k s = some r → P8 s r := itS_ok fun k rec ih s r h => match s, h with
  | .e a0_0 a0_1 a0_2 b1_0 b1_1 b1_2, h => t8_e_ok k rec ih a0_0 a0_1 a0_2 b1_0 b1_1 b1_2 r h
theorem ev8 {k : Nat} {a0_0 : Int} {a0_1 : Rs} {a0_2 : Rs} {b1_0 : Int} {b1_1 : Rs} {b1_2 : Rs} {r : R8} (h : g8 k a0_0 a0_1 a0_2 b1_0 b1_1 b1_2 = some r) : Ev Try.prog noHand 8 [.ag [ic a0_0, .imm a0_1, .imm a0_2], .ag [ic b1_0, .imm b1_1, .imm b1_2]] [] (res8 r) (bx8 r) := evr8 (ok8 _ _ _ h)
-- auspice/merge.Alike
inductive S27 where
  | e (x0_0 : Int) (x0_1 : Int) (x0_2 : Bool) (x0_3 : Int) (x0_4 : Rs) (x0_5 : Rs) (x0_6 : Rs) (x0_7 : Rs) (y1_0 : Int) (y1_1 : Int) (y1_2 : Bool) (y1_3 : Int) (y1_4 : Rs) (y1_5 : Rs) (y1_6 : Rs) (y1_7 : Rs)
abbrev R27 := Bool
def res27 : R27 → ARes
  | r => .ret (.c (bc r))
def bx27 : R27 → List (List Cell)
  | r => []
noncomputable def t27_e (k : Nat) (rec : S27 → Option R27) (x0_0 : Int) (x0_1 : Int) (x0_2 : Bool) (x0_3 : Int) (x0_4 : Rs) (x0_5 : Rs) (x0_6 : Rs) (x0_7 : Rs) (y1_0 : Int) (y1_1 : Int) (y1_2 : Bool) (y1_3 : Int) (y1_4 : Rs) (y1_5 : Rs) (y1_6 : Rs) (y1_7 : Rs) : Option R27 :=
  (g45 k x0_0 x0_1 x0_2 x0_3 x0_4 x0_5 x0_6 x0_7).bind fun v_x1 =>
  tup4 v_x1 fun r0_x3 r1_x3 r2_x3 r3_x3 =>
  (g45 k y1_0 y1_1 y1_2 y1_3 y1_4 y1_5 y1_6 y1_7).bind fun v_x4 =>
  tup4 v_x4 fun r0_x6 r1_x6 r2_x6 r3_x6 =>
  bif (r0_x3 == r0_x6 && (r1_x3 == r1_x6 && (r2_x3 == r2_x6 && (r3_x3 == r3_x6 && true)))) then
    (g46 k x0_0 x0_1 x0_2 x0_3 x0_4 x0_5 x0_6 x0_7).bind fun v_x8 =>
    tup2 v_x8 fun r0_x10 r2_x10 =>
    (g46 k y1_0 y1_1 y1_2 y1_3 y1_4 y1_5 y1_6 y1_7).bind fun v_x11 =>
    tup2 v_x11 fun r0_x13 r2_x13 =>
    (g8 k r0_x10 [] (immRs r2_x10) r0_x13 [] (immRs r2_x13)).bind fun v_x14 =>
    some v_x14
  else
    some false
noncomputable def step27 (k : Nat) (rec : S27 → Option R27) : S27 → Option R27
  | .e x0_0 x0_1 x0_2 x0_3 x0_4 x0_5 x0_6 x0_7 y1_0 y1_1 y1_2 y1_3 y1_4 y1_5 y1_6 y1_7 => t27_e k rec x0_0 x0_1 x0_2 x0_3 x0_4 x0_5 x0_6 x0_7 y1_0 y1_1 y1_2 y1_3 y1_4 y1_5 y1_6 y1_7
noncomputable def g27 (k : Nat) (x0_0 : Int) (x0_1 : Int) (x0_2 : Bool) (x0_3 : Int) (x0_4 : Rs) (x0_5 : Rs) (x0_6 : Rs) (x0_7 : Rs) (y1_0 : Int) (y1_1 : Int) (y1_2 : Bool) (y1_3 : Int) (y1_4 : Rs) (y1_5 : Rs) (y1_6 : Rs) (y1_7 : Rs) : Option R27 := itS step27 k (.e x0_0 x0_1 x0_2 x0_3 x0_4 x0_5 x0_6 x0_7 y1_0 y1_1 y1_2 y1_3 y1_4 y1_5 y1_6 y1_7)
noncomputable def P27 : S27 → R27 → Prop
  | .e x0_0 x0_1 x0_2 x0_3 x0_4 x0_5 x0_6 x0_7 y1_0 y1_1 y1_2 y1_3 y1_4 y1_5 y1_6 y1_7, r => Fin cx27 Try.f27 [.code body27] (fr0 Try.f27 [.ag [ic x0_0, ic x0_1, bc x0_2, ic x0_3, .imm x0_4, .imm x0_5, .imm x0_6, .imm x0_7], .ag [ic y1_0, ic y1_1, bc y1_2, ic y1_3, .imm y1_4, .imm y1_5, .imm y1_6, .imm y1_7]] []) (res27 r) (bx27 r)
theorem evr27 {x0_0 : Int} {x0_1 : Int} {x0_2 : Bool} {x0_3 : Int} {x0_4 : Rs} {x0_5 : Rs} {x0_6 : Rs} {x0_7 : Rs} {y1_0 : Int} {y1_1 : Int} {y1_2 : Bool} {y1_3 : Int} {y1_4 : Rs} {y1_5 : Rs} {y1_6 : Rs} {y1_7 : Rs} {r : R27} (h : P27 (.e x0_0 x0_1 x0_2 x0_3 x0_4 x0_5 x0_6 x0_7 y1_0 y1_1 y1_2 y1_3 y1_4 y1_5 y1_6 y1_7) r) : Ev Try.prog noHand 27 [.ag [ic x0_0, ic x0_1, bc x0_2, ic x0_3, .imm x0_4, .imm x0_5, .imm x0_6, .imm x0_7], .ag [ic y1_0, ic y1_1, bc y1_2, ic y1_3, .imm y1_4, .imm y1_5, .imm y1_6, .imm y1_7]] [] (res27 r) (bx27 r) := ev_of_fin (fn := Try.f27) (body := body27) (by kernel_rfl) (by kernel_rfl) (by kernel_rfl) rfl h
theorem t27_e_ok (k : Nat) (rec : S27 → Option R27) (ih : ∀ s r, rec s = some r → P27 s r) (x0_0 : Int) (x0_1 : Int) (x0_2 : Bool) (x0_3 : Int) (x0_4 : Rs) (x0_5 : Rs) (x0_6 : Rs) (x0_7 : Rs) (y1_0 : Int) (y1_1 : Int) (y1_2 : Bool) (y1_3 : Int) (y1_4 : Rs) (y1_5 : Rs) (y1_6 : Rs) (y1_7 : Rs) (r : R27) (h : t27_e k rec x0_0 x0_1 x0_2 x0_3 x0_4 x0_5 x0_6 x0_7 y1_0 y1_1 y1_2 y1_3 y1_4 y1_5 y1_6 y1_7 = some r) : P27 (.e x0_0 x0_1 x0_2 x0_3 x0_4 x0_5 x0_6 x0_7 y1_0 y1_1 y1_2 y1_3 y1_4 y1_5 y1_6 y1_7) r := by
  unfold t27_e at h
  obtain ⟨v_x1, h_x2, h⟩ := bd_or h
  obtain ⟨r0_x3, r1_x3, r2_x3, r3_x3, hq, h1'⟩ := tup4_or h
  clear h; subst hq; have h := h1'; clear h1'
  obtain ⟨v_x4, h_x5, h⟩ := bd_or h
  obtain ⟨r0_x6, r1_x6, r2_x6, r3_x6, hq, h1'⟩ := tup4_or h
  clear h; subst hq; have h := h1'; clear h1'
  rcases bif_or h with ⟨h_x7, h⟩ | ⟨h_x7, h⟩
  ·
    obtain ⟨v_x8, h_x9, h⟩ := bd_or h
    obtain ⟨r0_x10, r2_x10, hq, h1'⟩ := tup2_or h
    clear h; subst hq; have h := h1'; clear h1'
    obtain ⟨v_x11, h_x12, h⟩ := bd_or h
    obtain ⟨r0_x13, r2_x13, hq, h1'⟩ := tup2_or h
    clear h; subst hq; have h := h1'; clear h1'
    obtain ⟨v_x14, h_x15, h⟩ := bd_or h
    rw [← Option.some.inj h]
    exact mgo_fin (nb := 0) hmix (n := 2000) (ad := [(some 6, .call (.ret (.ag [ic r0_x3, ic r1_x3, bc r2_x3, ic r3_x3])) [] false), (some 8, .call (.ret (.ag [ic r0_x6, ic r1_x6, bc r2_x6, ic r3_x6])) [] false), (some 9, .test true), (some 12, .call (.ret (.ag [ic r0_x10, .nil, .own 8 r2_x10])) [] false), (some 14, .call (.ret (.ag [ic r0_x13, .nil, .own 8 r2_x13])) [] false), (some 15, .call (.ret (.c (bc v_x14))) [] true)]) (ps := [_, _, _, _, _, _, _]) (by kernel_rfl) ⟨(ev45 h_x2), (ev45 h_x5), h_x7, (ev46 h_x9), (ev46 h_x12), (ev8 h_x15), (rfl : true = true), trivial⟩
  ·
    rw [← Option.some.inj h]
    exact mgo_fin (nb := 0) hmix (n := 2000) (ad := [(some 6, .call (.ret (.ag [ic r0_x3, ic r1_x3, bc r2_x3, ic r3_x3])) [] false), (some 8, .call (.ret (.ag [ic r0_x6, ic r1_x6, bc r2_x6, ic r3_x6])) [] false), (some 9, .test false)]) (ps := [_, _, _]) (by kernel_rfl) ⟨(ev45 h_x2), (ev45 h_x5), h_x7, trivial⟩
theorem ok27 : ∀ k s r, itS step27 k s = some r → P27 s r := itS_ok fun k rec ih s r h => match s, h with
  | .e x0_0 x0_1 x0_2 x0_3 x0_4 x0_5 x0_6 x0_7 y1_0 y1_1 y1_2 y1_3 y1_4 y1_5 y1_6 y1_7, h => t27_e_ok k rec ih x0_0 x0_1 x0_2 x0_3 x0_4 x0_5 x0_6 x0_7 y1_0 y1_1 y1_2 y1_3 y1_4 y1_5 y1_6 y1_7 r h
theorem ev27 {k : Nat} {x0_0 : Int} {x0_1 : Int} {x0_2 : Bool} {x0_3 : Int} {x0_4 : Rs} {x0_5 : Rs} {x0_6 : Rs} {x0_7 : Rs} {y1_0 : Int} {y1_1 : Int} {y1_2 : Bool} {y1_3 : Int} {y1_4 : Rs} {y1_5 : Rs} {y1_6 : Rs} {y1_7 : Rs} {r : R27} (h : g27 k x0_0 x0_1 x0_2 x0_3 x0_4 x0_5 x0_6 x0_7 y1_0 y1_1 y1_2 y1_3 y1_4 y1_5 y1_6 y1_7 = some r) : Ev Try.prog noHand 27 [.ag [ic x0_0, ic x0_1, bc x0_2, ic x0_3, .imm x0_4, .imm x0_5, .imm x0_6, .imm x0_7], .ag [ic y1_0, ic y1_1, bc y1_2, ic y1_3, .imm y1_4, .imm y1_5, .imm y1_6, .imm y1_7]] [] (res27 r) (bx27 r) := evr27 (ok27 _ _ _ h)
-- auspice/merge.find
inductive S14 where
  | e (l0 : Rs) (s1_0 : Int) (s1_1 : Int) (s1_2 : Bool) (s1_3 : Int) (s1_4 : Rs) (s1_5 : Rs) (s1_6 : Rs) (s1_7 : Rs)
  | h0 (l0 : Rs) (t7 : Rs) (t8 : Int) (t9 : Int) (loc3_0 : Int) (loc3_1 : Int) (loc3_2 : Bool) (loc3_3 : Int) (loc3_4 : Rs) (loc3_5 : Rs) (loc3_6 : Rs) (loc3_7 : Rs)
abbrev R14 := Int
def res14 : R14 → ARes
  | r => .ret (.c (ic r))
def bx14 : R14 → List (List Cell)
  | r => []
noncomputable def t14_e (k : Nat) (rec : S14 → Option R14) (l0 : Rs) (s1_0 : Int) (s1_1 : Int) (s1_2 : Bool) (s1_3 : Int) (s1_4 : Rs) (s1_5 : Rs) (s1_6 : Rs) (s1_7 : Rs) : Option R14 :=
  rec (.h0 l0 l0 (l0.length : Int) 0 s1_0 s1_1 s1_2 s1_3 s1_4 s1_5 s1_6 s1_7)
noncomputable def t14_h0 (k : Nat) (rec : S14 → Option R14) (l0 : Rs) (t7 : Rs) (t8 : Int) (t9 : Int) (loc3_0 : Int) (loc3_1 : Int) (loc3_2 : Bool) (loc3_3 : Int) (loc3_4 : Rs) (loc3_5 : Rs) (loc3_6 : Rs) (loc3_7 : Rs) : Option R14 :=
  bif decide (t9 < t8) then
    ixR t7 t9 fun w_x2 =>
    un_iibim4 w_x2 fun parent_x4 type_x4 many_x4 window_x4 bars_x4 leaves_x4 guards_x4 ends_x4 =>
    (g27 k parent_x4 type_x4 many_x4 window_x4 bars_x4 leaves_x4 guards_x4 ends_x4 loc3_0 loc3_1 loc3_2 loc3_3 loc3_4 loc3_5 loc3_6 loc3_7).bind fun v_x5 =>
    bif v_x5 then
      some t9
    else
      rec (.h0 l0 t7 t8 (IntKind.i64.wrap (t9 + 1)) loc3_0 loc3_1 loc3_2 loc3_3 loc3_4 loc3_5 loc3_6 loc3_7)
  else
    some (l0.length : Int)
noncomputable def step14 (k : Nat) (rec : S14 → Option R14) : S14 → Option R14
  | .e l0 s1_0 s1_1 s1_2 s1_3 s1_4 s1_5 s1_6 s1_7 => t14_e k rec l0 s1_0 s1_1 s1_2 s1_3 s1_4 s1_5 s1_6 s1_7
  | .h0 l0 t7 t8 t9 loc3_0 loc3_1 loc3_2 loc3_3 loc3_4 loc3_5 loc3_6 loc3_7 => t14_h0 k rec l0 t7 t8 t9 loc3_0 loc3_1 loc3_2 loc3_3 loc3_4 loc3_5 loc3_6 loc3_7
noncomputable def g14 (k : Nat) (l0 : Rs) (s1_0 : Int) (s1_1 : Int) (s1_2 : Bool) (s1_3 : Int) (s1_4 : Rs) (s1_5 : Rs) (s1_6 : Rs) (s1_7 : Rs) : Option R14 := itS step14 k (.e l0 s1_0 s1_1 s1_2 s1_3 s1_4 s1_5 s1_6 s1_7)
noncomputable def P14 : S14 → R14 → Prop
  | .e l0 s1_0 s1_1 s1_2 s1_3 s1_4 s1_5 s1_6 s1_7, r => Fin cx14 Try.f14 [.code body14] (fr0 Try.f14 [.c (.imm l0), .ag [ic s1_0, ic s1_1, bc s1_2, ic s1_3, .imm s1_4, .imm s1_5, .imm s1_6, .imm s1_7]] []) (res14 r) (bx14 r)
  | .h0 l0 t7 t8 t9 loc3_0 loc3_1 loc3_2 loc3_3 loc3_4 loc3_5 loc3_6 loc3_7, r => Fin cx14 Try.f14 (kAt body14 [1, 0, 1, 0, 4] []) ⟨[.c (.imm l0), .deadv, .deadv, .c (.ptr ⟨⟨.loc 3, []⟩, 0, 0⟩)] ++ rep 3 .deadv ++ [.c (.imm t7), .c (ic t8), .c (ic t9)] ++ rep 11 .deadv, [(.loc 3, [ic loc3_0, ic loc3_1, bc loc3_2, ic loc3_3, .imm loc3_4, .imm loc3_5, .imm loc3_6, .imm loc3_7])]⟩ (res14 r) (bx14 r)
theorem evr14 {l0 : Rs} {s1_0 : Int} {s1_1 : Int} {s1_2 : Bool} {s1_3 : Int} {s1_4 : Rs} {s1_5 : Rs} {s1_6 : Rs} {s1_7 : Rs} {r : R14} (h : P14 (.e l0 s1_0 s1_1 s1_2 s1_3 s1_4 s1_5 s1_6 s1_7) r) : Ev Try.prog noHand 14 [.c (.imm l0), .ag [ic s1_0, ic s1_1, bc s1_2, ic s1_3, .imm s1_4, .imm s1_5, .imm s1_6, .imm s1_7]] [] (res14 r) (bx14 r) := ev_of_fin (fn := Try.f14) (body := body14) (by kernel_rfl) (by kernel_rfl) (by kernel_rfl) rfl h
theorem t14_e_ok (k : Nat) (rec : S14 → Option R14) (ih : ∀ s r, rec s = some r → P14 s r) (l0 : Rs) (s1_0 : Int) (s1_1 : Int) (s1_2 : Bool) (s1_3 : Int) (s1_4 : Rs) (s1_5 : Rs) (s1_6 : Rs) (s1_7 : Rs) (r : R14) (h : t14_e k rec l0 s1_0 s1_1 s1_2 s1_3 s1_4 s1_5 s1_6 s1_7 = some r) : P14 (.e l0 s1_0 s1_1 s1_2 s1_3 s1_4 s1_5 s1_6 s1_7) r := by
  unfold t14_e at h
  exact mgo_at (nb := 0) hmix (ih _ _ h) (n := 7) (ad := []) (ps := []) (m := bm 21 2096246) (ls := []) (cs := []) (by kernel_rfl) trivial
theorem t14_h0_ok (k : Nat) (rec : S14 → Option R14) (ih : ∀ s r, rec s = some r → P14 s r) (l0 : Rs) (t7 : Rs) (t8 : Int) (t9 : Int) (loc3_0 : Int) (loc3_1 : Int) (loc3_2 : Bool) (loc3_3 : Int) (loc3_4 : Rs) (loc3_5 : Rs) (loc3_6 : Rs) (loc3_7 : Rs) (r : R14) (h : t14_h0 k rec l0 t7 t8 t9 loc3_0 loc3_1 loc3_2 loc3_3 loc3_4 loc3_5 loc3_6 loc3_7 = some r) : P14 (.h0 l0 t7 t8 t9 loc3_0 loc3_1 loc3_2 loc3_3 loc3_4 loc3_5 loc3_6 loc3_7) r := by
  unfold t14_h0 at h
  rcases bif_or h with ⟨h_x1, h⟩ | ⟨h_x1, h⟩
  ·
    obtain ⟨w_x2, h_x3, h⟩ := ixR_or h
    obtain ⟨parent_x4, type_x4, many_x4, window_x4, bars_x4, leaves_x4, guards_x4, ends_x4, hq, h1'⟩ := un_iibim4_or h
    clear h; subst hq; have h := h1'; clear h1'
    obtain ⟨v_x5, h_x6, h⟩ := bd_or h
    rcases bif_or h with ⟨hq, h1'⟩ | ⟨hq, h1'⟩
    · clear h; subst hq; have h := h1'; clear h1'
      rw [← Option.some.inj h]
      exact mgo_fin (nb := 0) hmix (n := 2000) (ad := [(some 10, .test true), (some 12, .row [ic parent_x4, ic type_x4, bc many_x4, ic window_x4, .imm bars_x4, .imm leaves_x4, .imm guards_x4, .imm ends_x4]), (some 16, .call (.ret (.c (bc true))) [] false)]) (ps := [_, _, _]) (by kernel_rfl) ⟨h_x1, ix_row h_x3 rfl, (ev27 h_x6), trivial⟩
    · clear h; subst hq; have h := h1'; clear h1'
      exact mgo_at (nb := 0) hmix (ih _ _ h) (n := 16) (ad := [(some 10, .test true), (some 12, .row [ic parent_x4, ic type_x4, bc many_x4, ic window_x4, .imm bars_x4, .imm leaves_x4, .imm guards_x4, .imm ends_x4]), (some 16, .call (.ret (.c (bc false))) [] false)]) (ps := [_, _, _]) (m := bm 21 2096246) (ls := [6]) (cs := []) (by kernel_rfl) ⟨h_x1, ix_row h_x3 rfl, (ev27 h_x6), trivial⟩
  ·
    rw [← Option.some.inj h]
    exact mgo_fin (nb := 0) hmix (n := 2000) (ad := [(some 10, .test false)]) (ps := [_]) (by kernel_rfl) ⟨h_x1, trivial⟩
theorem ok14 : ∀ k s r, itS step14 k s = some r → P14 s r := itS_ok fun k rec ih s r h => match s, h with
  | .e l0 s1_0 s1_1 s1_2 s1_3 s1_4 s1_5 s1_6 s1_7, h => t14_e_ok k rec ih l0 s1_0 s1_1 s1_2 s1_3 s1_4 s1_5 s1_6 s1_7 r h
  | .h0 l0 t7 t8 t9 loc3_0 loc3_1 loc3_2 loc3_3 loc3_4 loc3_5 loc3_6 loc3_7, h => t14_h0_ok k rec ih l0 t7 t8 t9 loc3_0 loc3_1 loc3_2 loc3_3 loc3_4 loc3_5 loc3_6 loc3_7 r h
theorem ev14 {k : Nat} {l0 : Rs} {s1_0 : Int} {s1_1 : Int} {s1_2 : Bool} {s1_3 : Int} {s1_4 : Rs} {s1_5 : Rs} {s1_6 : Rs} {s1_7 : Rs} {r : R14} (h : g14 k l0 s1_0 s1_1 s1_2 s1_3 s1_4 s1_5 s1_6 s1_7 = some r) : Ev Try.prog noHand 14 [.c (.imm l0), .ag [ic s1_0, ic s1_1, bc s1_2, ic s1_3, .imm s1_4, .imm s1_5, .imm s1_6, .imm s1_7]] [] (res14 r) (bx14 r) := evr14 (ok14 _ _ _ h)
-- auspice/merge.Merge
inductive S6 where
  | e (a0_0 : Int) (a0_1 : Rs) (a0_2 : Rs)
  | h0 (became4 : Es) (t20 : Rs) (t21 : Int) (t22 : Int) (loc3_0 : Int) (loc3_1 : Rs) (loc3_2 : Rs) (loc2_0 : Int)
  | h1 (became4 : Es) (i5 : Int) (ends7 : Rs) (at8 : Int) (t20 : Rs) (t21 : Int) (t22 : Int) (t55 : Bool) (loc6_0 : Int) (loc6_1 : Int) (loc6_2 : Bool) (loc6_3 : Int) (loc6_4 : Rs) (loc6_5 : Rs) (loc6_6 : Rs) (loc3_0 : Int) (loc3_1 : Rs) (loc3_2 : Rs) (loc2_0 : Int)
  | h2 (became4 : Es) (i5 : Int) (ends7 : Rs) (at8 : Int) (t20 : Rs) (t21 : Int) (t22 : Int) (loc3_0 : Int) (loc3_1 : Rs) (loc3_2 : Rs) (loc2_0 : Int)
  | h3 (became4 : Es) (at8 : Int) (t20 : Rs) (t21 : Int) (t22 : Int) (t65 : Rs) (t66 : Int) (t67 : Int) (loc3_0 : Int) (loc3_1 : Rs) (loc3_2 : Rs) (loc2_0 : Int)
  | h4 (became4 : Es) (at8 : Int) (t20 : Rs) (t21 : Int) (t22 : Int) (t65 : Rs) (t66 : Int) (t67 : Int) (loc3_0 : Int) (loc3_1 : Rs) (loc3_2 : Rs) (loc2_0 : Int)
abbrev R6 := Int × Rs × Rs
def res6 : R6 → ARes
  | (r_0, r_1, r_2) => .ret (.ag [ic r_0, .imm r_1, .imm r_2])
def bx6 : R6 → List (List Cell)
  | (r_0, r_1, r_2) => []
noncomputable def t6_e (k : Nat) (rec : S6 → Option R6) (a0_0 : Int) (a0_1 : Rs) (a0_2 : Rs) : Option R6 :=
  bif a0_1.isEmpty then
    gd (apOk 8 1 [] a0_1) <|
    rec (.h0 [(.int .i64 (-1), [ic (-1)])] a0_2 (a0_2.length : Int) 0 a0_0 [] [] 0)
  else
    gd (apOk 8 1 [] a0_1) <|
    rec (.h0 [(.int .i64 (-1), [ic (-1)])] a0_2 (a0_2.length : Int) 0 a0_0 (([] : Rs) ++ a0_1) [] 0)
noncomputable def t6_h0 (k : Nat) (rec : S6 → Option R6) (became4 : Es) (t20 : Rs) (t21 : Int) (t22 : Int) (loc3_0 : Int) (loc3_1 : Rs) (loc3_2 : Rs) (loc2_0 : Int) : Option R6 :=
  bif decide (t22 < t21) then
    ixR t20 t22 fun w_x2 =>
    un_iibim4 w_x2 fun parent_x4 type_x4 many_x4 window_x4 bars_x4 leaves_x4 guards_x4 ends_x4 =>
    (mapFind Try.prog 3 (.int .i64 parent_x4) became4).bind fun e_x5 =>
    optC e_x5 (
        (g12 k bars_x4).bind fun v_x7 =>
        (g13 k leaves_x4).bind fun v_x9 =>
        (g13 k guards_x4).bind fun v_x11 =>
        (g14 k (immRs loc3_2) 0 type_x4 many_x4 window_x4 (immRs v_x7) (immRs v_x9) (immRs v_x11) []).bind fun v_x13 =>
        rec (.h1 became4 t22 ends_x4 v_x13 t20 t21 t22 (v_x13 == (loc3_2.length : Int)) 0 type_x4 many_x4 window_x4 v_x7 v_x9 v_x11 loc3_0 loc3_1 loc3_2 loc2_0)) fun w_x7 =>
      un_i w_x7 fun x_x8 =>
      (g12 k bars_x4).bind fun v_x9 =>
      (g13 k leaves_x4).bind fun v_x11 =>
      (g13 k guards_x4).bind fun v_x13 =>
      (g14 k (immRs loc3_2) x_x8 type_x4 many_x4 window_x4 (immRs v_x9) (immRs v_x11) (immRs v_x13) []).bind fun v_x15 =>
      rec (.h1 became4 t22 ends_x4 v_x15 t20 t21 t22 (v_x15 == (loc3_2.length : Int)) x_x8 type_x4 many_x4 window_x4 v_x9 v_x11 v_x13 loc3_0 loc3_1 loc3_2 loc2_0)
  else
    some (loc3_0, immRs loc3_1, immRs loc3_2)
noncomputable def t6_h1 (k : Nat) (rec : S6 → Option R6) (became4 : Es) (i5 : Int) (ends7 : Rs) (at8 : Int) (t20 : Rs) (t21 : Int) (t22 : Int) (t55 : Bool) (loc6_0 : Int) (loc6_1 : Int) (loc6_2 : Bool) (loc6_3 : Int) (loc6_4 : Rs) (loc6_5 : Rs) (loc6_6 : Rs) (loc3_0 : Int) (loc3_1 : Rs) (loc3_2 : Rs) (loc2_0 : Int) : Option R6 :=
  bif t55 then
    gd (apOk 128 8 loc3_2 [[ic loc6_0, ic loc6_1, bc loc6_2, ic loc6_3, .imm (immRs loc6_4), .imm (immRs loc6_5), .imm (immRs loc6_6), .nil]]) <|
    rec (.h2 became4 i5 ends7 at8 t20 t21 t22 loc3_0 loc3_1 (loc3_2 ++ [[ic loc6_0, ic loc6_1, bc loc6_2, ic loc6_3, .imm (immRs loc6_4), .imm (immRs loc6_5), .imm (immRs loc6_6), .nil]]) loc2_0)
  else
    rec (.h2 became4 i5 ends7 at8 t20 t21 t22 loc3_0 loc3_1 loc3_2 loc2_0)
noncomputable def t6_h2 (k : Nat) (rec : S6 → Option R6) (became4 : Es) (i5 : Int) (ends7 : Rs) (at8 : Int) (t20 : Rs) (t21 : Int) (t22 : Int) (loc3_0 : Int) (loc3_1 : Rs) (loc3_2 : Rs) (loc2_0 : Int) : Option R6 :=
  (mapPut Try.prog 3 (.int .i64 i5) [ic at8] became4).bind fun es_x1 =>
  rec (.h3 es_x1 at8 t20 t21 t22 ends7 (ends7.length : Int) 0 loc3_0 loc3_1 loc3_2 loc2_0)
noncomputable def t6_h3 (k : Nat) (rec : S6 → Option R6) (became4 : Es) (at8 : Int) (t20 : Rs) (t21 : Int) (t22 : Int) (t65 : Rs) (t66 : Int) (t67 : Int) (loc3_0 : Int) (loc3_1 : Rs) (loc3_2 : Rs) (loc2_0 : Int) : Option R6 :=
  bif decide (t67 < t66) then
    ixR t65 t67 fun w_x2 =>
    un_imm w_x2 fun branch_x4 closes_x4 bars_x4 =>
    (g13 k closes_x4).bind fun v_x5 =>
    (g12 k bars_x4).bind fun v_x7 =>
    ixR loc3_2 at8 fun w_x9 =>
    ua_iibim3n_iibim3o3 w_x9 (fun parent_x11 type_x11 many_x11 window_x11 bars_x11 leaves_x11 guards_x11 =>
      rec (.h4 became4 at8 t20 t21 t22 t65 t66 t67 loc3_0 loc3_1 (setRow loc3_2 at8.toNat 7 (.own 3 [[ic branch_x4, .imm (immRs v_x5), .imm (immRs v_x7)]])) loc2_0)) (fun parent_x11 type_x11 many_x11 window_x11 bars_x11 leaves_x11 guards_x11 ends_x11 =>
      gd (apOk 56 3 ends_x11 [[ic branch_x4, .imm (immRs v_x5), .imm (immRs v_x7)]]) <|
      rec (.h4 became4 at8 t20 t21 t22 t65 t66 t67 loc3_0 loc3_1 (setRow (setRow loc3_2 at8.toNat 7 .dead) at8.toNat 7 (.own 3 (ends_x11 ++ [[ic branch_x4, .imm (immRs v_x5), .imm (immRs v_x7)]]))) loc2_0))
  else
    rec (.h0 became4 t20 t21 (IntKind.i64.wrap (t22 + 1)) loc3_0 loc3_1 loc3_2 loc2_0)
noncomputable def t6_h4 (k : Nat) (rec : S6 → Option R6) (became4 : Es) (at8 : Int) (t20 : Rs) (t21 : Int) (t22 : Int) (t65 : Rs) (t66 : Int) (t67 : Int) (loc3_0 : Int) (loc3_1 : Rs) (loc3_2 : Rs) (loc2_0 : Int) : Option R6 :=
  rec (.h3 became4 at8 t20 t21 t22 t65 t66 (IntKind.i64.wrap (t67 + 1)) loc3_0 loc3_1 loc3_2 loc2_0)
noncomputable def step6 (k : Nat) (rec : S6 → Option R6) : S6 → Option R6
  | .e a0_0 a0_1 a0_2 => t6_e k rec a0_0 a0_1 a0_2
  | .h0 became4 t20 t21 t22 loc3_0 loc3_1 loc3_2 loc2_0 => t6_h0 k rec became4 t20 t21 t22 loc3_0 loc3_1 loc3_2 loc2_0
  | .h1 became4 i5 ends7 at8 t20 t21 t22 t55 loc6_0 loc6_1 loc6_2 loc6_3 loc6_4 loc6_5 loc6_6 loc3_0 loc3_1 loc3_2 loc2_0 => t6_h1 k rec became4 i5 ends7 at8 t20 t21 t22 t55 loc6_0 loc6_1 loc6_2 loc6_3 loc6_4 loc6_5 loc6_6 loc3_0 loc3_1 loc3_2 loc2_0
  | .h2 became4 i5 ends7 at8 t20 t21 t22 loc3_0 loc3_1 loc3_2 loc2_0 => t6_h2 k rec became4 i5 ends7 at8 t20 t21 t22 loc3_0 loc3_1 loc3_2 loc2_0
  | .h3 became4 at8 t20 t21 t22 t65 t66 t67 loc3_0 loc3_1 loc3_2 loc2_0 => t6_h3 k rec became4 at8 t20 t21 t22 t65 t66 t67 loc3_0 loc3_1 loc3_2 loc2_0
  | .h4 became4 at8 t20 t21 t22 t65 t66 t67 loc3_0 loc3_1 loc3_2 loc2_0 => t6_h4 k rec became4 at8 t20 t21 t22 t65 t66 t67 loc3_0 loc3_1 loc3_2 loc2_0
noncomputable def g6 (k : Nat) (a0_0 : Int) (a0_1 : Rs) (a0_2 : Rs) : Option R6 := itS step6 k (.e a0_0 a0_1 a0_2)
noncomputable def P6 : S6 → R6 → Prop
  | .e a0_0 a0_1 a0_2, r => Fin cx6 Try.f6 [.code body6] (fr0 Try.f6 [.ag [ic a0_0, .imm a0_1, .imm a0_2]] []) (res6 r) (bx6 r)
  | .h0 became4 t20 t21 t22 loc3_0 loc3_1 loc3_2 loc2_0, r => Fin cx6 Try.f6 (kAt body6 [1, 1, 1, 0, 1, 0, 4] []) ⟨[.deadv, .deadv, .c (.ptr ⟨⟨.loc 2, []⟩, 0, 0⟩), .c (.ptr ⟨⟨.loc 3, []⟩, 0, 0⟩), .c (.mp became4)] ++ rep 15 .deadv ++ [.c (.imm t20), .c (ic t21), .c (ic t22)] ++ rep 73 .deadv, [(.loc 3, [ic loc3_0, .own 1 loc3_1, .own 8 loc3_2]), (.loc 2, [ic loc2_0, .nil, .nil])]⟩ (res6 r) (bx6 r)
  | .h1 became4 i5 ends7 at8 t20 t21 t22 t55 loc6_0 loc6_1 loc6_2 loc6_3 loc6_4 loc6_5 loc6_6 loc3_0 loc3_1 loc3_2 loc2_0, r => Fin cx6 Try.f6 (kAt body6 [1, 1, 1, 0, 1, 0, 0, 1, 1, 0, 0, 1, 1, 1, 1, 1, 1, 0, 1, 2] []) ⟨[.deadv, .deadv, .c (.ptr ⟨⟨.loc 2, []⟩, 0, 0⟩), .c (.ptr ⟨⟨.loc 3, []⟩, 0, 0⟩), .c (.mp became4), .c (ic i5), .c (.ptr ⟨⟨.loc 6, []⟩, 0, 0⟩), .c (.imm ends7), .c (ic at8)] ++ rep 11 .deadv ++ [.c (.imm t20), .c (ic t21), .c (ic t22)] ++ rep 32 .deadv ++ [.c (bc t55)] ++ rep 40 .deadv, [(.loc 6, [ic loc6_0, ic loc6_1, bc loc6_2, ic loc6_3, .own 2 loc6_4, .own 7 loc6_5, .own 7 loc6_6, .nil]), (.loc 3, [ic loc3_0, .own 1 loc3_1, .own 8 loc3_2]), (.loc 2, [ic loc2_0, .nil, .nil])]⟩ (res6 r) (bx6 r)
  | .h2 became4 i5 ends7 at8 t20 t21 t22 loc3_0 loc3_1 loc3_2 loc2_0, r => Fin cx6 Try.f6 (kAt body6 [1, 1, 1, 0, 1, 0, 0, 1, 1, 0, 0, 1, 1, 1, 1, 1, 1, 1, 2] []) ⟨[.deadv, .deadv, .c (.ptr ⟨⟨.loc 2, []⟩, 0, 0⟩), .c (.ptr ⟨⟨.loc 3, []⟩, 0, 0⟩), .c (.mp became4), .c (ic i5), .deadv, .c (.imm ends7), .c (ic at8)] ++ rep 11 .deadv ++ [.c (.imm t20), .c (ic t21), .c (ic t22)] ++ rep 73 .deadv, [(.loc 3, [ic loc3_0, .own 1 loc3_1, .own 8 loc3_2]), (.loc 2, [ic loc2_0, .nil, .nil])]⟩ (res6 r) (bx6 r)
  | .h3 became4 at8 t20 t21 t22 t65 t66 t67 loc3_0 loc3_1 loc3_2 loc2_0, r => Fin cx6 Try.f6 (kAt body6 [1, 1, 1, 0, 1, 0, 0, 1, 1, 0, 0, 1, 1, 1, 1, 1, 1, 1, 1, 1, 0, 4] []) ⟨[.deadv, .deadv, .c (.ptr ⟨⟨.loc 2, []⟩, 0, 0⟩), .c (.ptr ⟨⟨.loc 3, []⟩, 0, 0⟩), .c (.mp became4)] ++ rep 3 .deadv ++ [.c (ic at8)] ++ rep 11 .deadv ++ [.c (.imm t20), .c (ic t21), .c (ic t22)] ++ rep 42 .deadv ++ [.c (.imm t65), .c (ic t66), .c (ic t67)] ++ rep 28 .deadv, [(.loc 3, [ic loc3_0, .own 1 loc3_1, .own 8 loc3_2]), (.loc 2, [ic loc2_0, .nil, .nil])]⟩ (res6 r) (bx6 r)
  | .h4 became4 at8 t20 t21 t22 t65 t66 t67 loc3_0 loc3_1 loc3_2 loc2_0, r => Fin cx6 Try.f6 (kAt body6 [1, 1, 1, 0, 1, 0, 0, 1, 1, 0, 0, 1, 1, 1, 1, 1, 1, 1, 1, 1, 0, 0, 1, 1, 1, 2] []) ⟨[.deadv, .deadv, .c (.ptr ⟨⟨.loc 2, []⟩, 0, 0⟩), .c (.ptr ⟨⟨.loc 3, []⟩, 0, 0⟩), .c (.mp became4)] ++ rep 3 .deadv ++ [.c (ic at8)] ++ rep 11 .deadv ++ [.c (.imm t20), .c (ic t21), .c (ic t22)] ++ rep 42 .deadv ++ [.c (.imm t65), .c (ic t66), .c (ic t67)] ++ rep 28 .deadv, [(.loc 3, [ic loc3_0, .own 1 loc3_1, .own 8 loc3_2]), (.loc 2, [ic loc2_0, .nil, .nil])]⟩ (res6 r) (bx6 r)
theorem evr6 {a0_0 : Int} {a0_1 : Rs} {a0_2 : Rs} {r : R6} (h : P6 (.e a0_0 a0_1 a0_2) r) : Ev Try.prog noHand 6 [.ag [ic a0_0, .imm a0_1, .imm a0_2]] [] (res6 r) (bx6 r) := ev_of_fin (fn := Try.f6) (body := body6) (by kernel_rfl) (by kernel_rfl) (by kernel_rfl) rfl h
theorem t6_e_ok (k : Nat) (rec : S6 → Option R6) (ih : ∀ s r, rec s = some r → P6 s r) (a0_0 : Int) (a0_1 : Rs) (a0_2 : Rs) (r : R6) (h : t6_e k rec a0_0 a0_1 a0_2 = some r) : P6 (.e a0_0 a0_1 a0_2) r := by
  unfold t6_e at h
  rcases bif_or h with ⟨h_x1, h⟩ | ⟨h_x1, h⟩
  ·
    obtain ⟨h_x2, h⟩ := gd_or h
    exact mgo_at (nb := 0) hmix (ih _ _ h) (n := 11) (ad := [(some 15, .okE true)]) (ps := [_]) (m := bm 96 79228162514264337593536610275) (ls := [1]) (cs := [(⟨⟨.loc 3, []⟩, 0, 1⟩, some 1), (⟨⟨.loc 3, []⟩, 0, 2⟩, some 8)]) (by kernel_rfl) ⟨okT h_x2 h_x1, trivial⟩
  ·
    obtain ⟨h_x2, h⟩ := gd_or h
    exact mgo_at (nb := 0) hmix (ih _ _ h) (n := 11) (ad := [(some 15, .okE false)]) (ps := [_]) (m := bm 96 79228162514264337593536610275) (ls := [1]) (cs := [(⟨⟨.loc 3, []⟩, 0, 2⟩, some 8)]) (by kernel_rfl) ⟨okT h_x2 h_x1, trivial⟩
theorem t6_h0_ok (k : Nat) (rec : S6 → Option R6) (ih : ∀ s r, rec s = some r → P6 s r) (became4 : Es) (t20 : Rs) (t21 : Int) (t22 : Int) (loc3_0 : Int) (loc3_1 : Rs) (loc3_2 : Rs) (loc2_0 : Int) (r : R6) (h : t6_h0 k rec became4 t20 t21 t22 loc3_0 loc3_1 loc3_2 loc2_0 = some r) : P6 (.h0 became4 t20 t21 t22 loc3_0 loc3_1 loc3_2 loc2_0) r := by
  unfold t6_h0 at h
  rcases bif_or h with ⟨h_x1, h⟩ | ⟨h_x1, h⟩
  ·
    obtain ⟨w_x2, h_x3, h⟩ := ixR_or h
    obtain ⟨parent_x4, type_x4, many_x4, window_x4, bars_x4, leaves_x4, guards_x4, ends_x4, hq, h1'⟩ := un_iibim4_or h
    clear h; subst hq; have h := h1'; clear h1'
    obtain ⟨e_x5, h_x6, h⟩ := bd_or h
    rcases optC_or h with ⟨w_x7, hq, h1'⟩ | ⟨hq, h1'⟩
    · clear h; subst hq; have h := h1'; clear h1'
      obtain ⟨x_x8, hq, h1'⟩ := un_i_or h
      clear h; subst hq; have h := h1'; clear h1'
      obtain ⟨v_x9, h_x10, h⟩ := bd_or h
      obtain ⟨v_x11, h_x12, h⟩ := bd_or h
      obtain ⟨v_x13, h_x14, h⟩ := bd_or h
      obtain ⟨v_x15, h_x16, h⟩ := bd_or h
      exact mgo_at (nb := 0) hmix (ih _ _ h) (n := 23) (ad := [(some 23, .test true), (some 25, .row [ic parent_x4, ic type_x4, bc many_x4, ic window_x4, .imm bars_x4, .imm leaves_x4, .imm guards_x4, .imm ends_x4]), (some 30, .look (some [ic x_x8])), (some 34, .call (.ret (.c (.own 2 v_x9))) [] false), (some 37, .call (.ret (.c (.own 7 v_x11))) [] false), (some 40, .call (.ret (.c (.own 7 v_x13))) [] false), (some 50, .call (.ret (.c (ic v_x15))) [] true)]) (ps := [_, _, _, _, _, _, _, _]) (m := bm 96 79228162514228308796517645827) (ls := []) (cs := []) (by kernel_rfl) ⟨h_x1, ix_row h_x3 rfl, h_x6, (ev12 h_x10), (ev13 h_x12), (ev13 h_x14), (ev14 h_x16), (rfl : true = true), trivial⟩
    · clear h; subst hq; have h := h1'; clear h1'
      obtain ⟨v_x7, h_x8, h⟩ := bd_or h
      obtain ⟨v_x9, h_x10, h⟩ := bd_or h
      obtain ⟨v_x11, h_x12, h⟩ := bd_or h
      obtain ⟨v_x13, h_x14, h⟩ := bd_or h
      exact mgo_at (nb := 0) hmix (ih _ _ h) (n := 23) (ad := [(some 23, .test true), (some 25, .row [ic parent_x4, ic type_x4, bc many_x4, ic window_x4, .imm bars_x4, .imm leaves_x4, .imm guards_x4, .imm ends_x4]), (some 30, .look none), (some 34, .call (.ret (.c (.own 2 v_x7))) [] false), (some 37, .call (.ret (.c (.own 7 v_x9))) [] false), (some 40, .call (.ret (.c (.own 7 v_x11))) [] false), (some 50, .call (.ret (.c (ic v_x13))) [] true)]) (ps := [_, _, _, _, _, _, _, _]) (m := bm 96 79228162514228308796517645827) (ls := []) (cs := []) (by kernel_rfl) ⟨h_x1, ix_row h_x3 rfl, h_x6, (ev12 h_x8), (ev13 h_x10), (ev13 h_x12), (ev14 h_x14), (rfl : true = true), trivial⟩
  ·
    rw [← Option.some.inj h]
    exact mgo_fin (nb := 0) hmix (n := 2000) (ad := [(some 23, .test false)]) (ps := [_]) (by kernel_rfl) ⟨h_x1, trivial⟩
theorem t6_h1_ok (k : Nat) (rec : S6 → Option R6) (ih : ∀ s r, rec s = some r → P6 s r) (became4 : Es) (i5 : Int) (ends7 : Rs) (at8 : Int) (t20 : Rs) (t21 : Int) (t22 : Int) (t55 : Bool) (loc6_0 : Int) (loc6_1 : Int) (loc6_2 : Bool) (loc6_3 : Int) (loc6_4 : Rs) (loc6_5 : Rs) (loc6_6 : Rs) (loc3_0 : Int) (loc3_1 : Rs) (loc3_2 : Rs) (loc2_0 : Int) (r : R6) (h : t6_h1 k rec became4 i5 ends7 at8 t20 t21 t22 t55 loc6_0 loc6_1 loc6_2 loc6_3 loc6_4 loc6_5 loc6_6 loc3_0 loc3_1 loc3_2 loc2_0 = some r) : P6 (.h1 became4 i5 ends7 at8 t20 t21 t22 t55 loc6_0 loc6_1 loc6_2 loc6_3 loc6_4 loc6_5 loc6_6 loc3_0 loc3_1 loc3_2 loc2_0) r := by
  unfold t6_h1 at h
  rcases bif_or h with ⟨hq, h1'⟩ | ⟨hq, h1'⟩
  · clear h; subst hq; have h := h1'; clear h1'
    obtain ⟨h_x1, h⟩ := gd_or h
    exact mgo_at (nb := 0) hmix (ih _ _ h) (n := 2) (ad := [(some 60, .okE false)]) (ps := [_]) (m := bm 96 79228162514264337593536609859) (ls := [6]) (cs := []) (by kernel_rfl) ⟨okF [[ic loc6_0, ic loc6_1, bc loc6_2, ic loc6_3, .imm (immRs loc6_4), .imm (immRs loc6_5), .imm (immRs loc6_6), .nil]] h_x1, trivial⟩
  · clear h; subst hq; have h := h1'; clear h1'
    exact mgo_at (nb := 0) hmix (ih _ _ h) (n := 2) (ad := []) (ps := []) (m := bm 96 79228162514264337593536609859) (ls := [6]) (cs := []) (by kernel_rfl) trivial
theorem t6_h2_ok (k : Nat) (rec : S6 → Option R6) (ih : ∀ s r, rec s = some r → P6 s r) (became4 : Es) (i5 : Int) (ends7 : Rs) (at8 : Int) (t20 : Rs) (t21 : Int) (t22 : Int) (loc3_0 : Int) (loc3_1 : Rs) (loc3_2 : Rs) (loc2_0 : Int) (r : R6) (h : t6_h2 k rec became4 i5 ends7 at8 t20 t21 t22 loc3_0 loc3_1 loc3_2 loc2_0 = some r) : P6 (.h2 became4 i5 ends7 at8 t20 t21 t22 loc3_0 loc3_1 loc3_2 loc2_0) r := by
  unfold t6_h2 at h
  obtain ⟨es_x1, h_x2, h⟩ := bd_or h
  exact mgo_at (nb := 0) hmix (ih _ _ h) (n := 6) (ad := [(none, .put es_x1)]) (ps := [_]) (m := bm 96 79228162256009920561602887395) (ls := []) (cs := []) (by kernel_rfl) ⟨h_x2, trivial⟩
theorem t6_h3_ok (k : Nat) (rec : S6 → Option R6) (ih : ∀ s r, rec s = some r → P6 s r) (became4 : Es) (at8 : Int) (t20 : Rs) (t21 : Int) (t22 : Int) (t65 : Rs) (t66 : Int) (t67 : Int) (loc3_0 : Int) (loc3_1 : Rs) (loc3_2 : Rs) (loc2_0 : Int) (r : R6) (h : t6_h3 k rec became4 at8 t20 t21 t22 t65 t66 t67 loc3_0 loc3_1 loc3_2 loc2_0 = some r) : P6 (.h3 became4 at8 t20 t21 t22 t65 t66 t67 loc3_0 loc3_1 loc3_2 loc2_0) r := by
  unfold t6_h3 at h
  rcases bif_or h with ⟨h_x1, h⟩ | ⟨h_x1, h⟩
  ·
    obtain ⟨w_x2, h_x3, h⟩ := ixR_or h
    obtain ⟨branch_x4, closes_x4, bars_x4, hq, h1'⟩ := un_imm_or h
    clear h; subst hq; have h := h1'; clear h1'
    obtain ⟨v_x5, h_x6, h⟩ := bd_or h
    obtain ⟨v_x7, h_x8, h⟩ := bd_or h
    obtain ⟨w_x9, h_x10, h⟩ := ixR_or h
    rcases ua_iibim3n_iibim3o3_or h with ⟨parent_x11, type_x11, many_x11, window_x11, bars_x11, leaves_x11, guards_x11, hq, h1'⟩ | ⟨parent_x11, type_x11, many_x11, window_x11, bars_x11, leaves_x11, guards_x11, ends_x11, hq, h1'⟩
    · clear h; subst hq; have h := h1'; clear h1'
      exact mgo_at (nb := 0) hmix (ih _ _ h) (n := 14) (ad := [(some 68, .test true), (some 69, .row [ic branch_x4, .imm closes_x4, .imm bars_x4]), (none, .st), (some 73, .call (.ret (.c (.own 7 v_x5))) [] false), (some 76, .call (.ret (.c (.own 2 v_x7))) [] false), (none, .st), (none, .st), (some 85, .bnd), (some 87, .ld [ic parent_x11, ic type_x11, bc many_x11, ic window_x11, .imm bars_x11, .imm leaves_x11, .imm guards_x11, .nil]), (some 91, .bnd), (none, .st)]) (ps := [_, _, _, _, _, _, _, _, _, _, _, _, _]) (m := bm 96 79228162256009920561602887395) (ls := [10]) (cs := []) (by kernel_rfl) ⟨h_x1, ix_row h_x3 rfl, (⟨_, rfl⟩ : ∃ c0, cellAt [[ic 0, .nil, .nil]] 0 0 = some c0), (⟨_, rfl⟩ : ∃ c0, cellAt [[ic branch_x4, .nil, .nil]] 0 1 = some c0), (⟨_, rfl⟩ : ∃ c0, cellAt [[ic branch_x4, .imm closes_x4, .nil]] 0 2 = some c0), (ev13 h_x6), (ev12 h_x8), (⟨_, rfl⟩ : ∃ c0, cellAt [[ic branch_x4, .imm closes_x4, .imm bars_x4]] 0 1 = some c0), (⟨_, rfl⟩ : ∃ c0, cellAt [[ic branch_x4, .own 7 v_x5, .imm bars_x4]] 0 2 = some c0), ix_bnd h_x10, h_x10.2, ix_bnd h_x10, ix_cell (o := 7) h_x10 rfl, trivial⟩
    · clear h; subst hq; have h := h1'; clear h1'
      obtain ⟨h_x12, h⟩ := gd_or h
      exact mgo_at (nb := 0) hmix (ih _ _ h) (n := 14) (ad := [(some 68, .test true), (some 69, .row [ic branch_x4, .imm closes_x4, .imm bars_x4]), (none, .st), (some 73, .call (.ret (.c (.own 7 v_x5))) [] false), (some 76, .call (.ret (.c (.own 2 v_x7))) [] false), (none, .st), (none, .st), (none, .alt 1 11), (some 85, .bnd), (some 87, .ld [ic parent_x11, ic type_x11, bc many_x11, ic window_x11, .imm bars_x11, .imm leaves_x11, .imm guards_x11, .own 3 ends_x11]), (some 90, .okO ends_x11 false), (some 91, .bnd), (none, .st), (some 85, .bnd), (some 87, .ld [ic parent_x11, ic type_x11, bc many_x11, ic window_x11, .imm bars_x11, .imm leaves_x11, .imm guards_x11, .own 3 ends_x11]), (some 90, .okO ends_x11 false), (some 91, .bnd), (none, .st)]) (ps := [_, _, _, _, _, _, _, _, _, _, _, _, _, _, _, _, _, _, _, _, _, _, _, _]) (m := bm 96 79228162256009920561602887395) (ls := [10]) (cs := []) (by kernel_rfl) ⟨h_x1, ix_row h_x3 rfl, (⟨_, rfl⟩ : ∃ c0, cellAt [[ic 0, .nil, .nil]] 0 0 = some c0), (⟨_, rfl⟩ : ∃ c0, cellAt [[ic branch_x4, .nil, .nil]] 0 1 = some c0), (⟨_, rfl⟩ : ∃ c0, cellAt [[ic branch_x4, .imm closes_x4, .nil]] 0 2 = some c0), (ev13 h_x6), (ev12 h_x8), (⟨_, rfl⟩ : ∃ c0, cellAt [[ic branch_x4, .imm closes_x4, .imm bars_x4]] 0 1 = some c0), (⟨_, rfl⟩ : ∃ c0, cellAt [[ic branch_x4, .own 7 v_x5, .imm bars_x4]] 0 2 = some c0), (rfl : (⟨[.deadv, .deadv, .c (.ptr ⟨⟨.loc 2, []⟩, 0, 0⟩), .c (.ptr ⟨⟨.loc 3, []⟩, 0, 0⟩), .c (.mp became4)] ++ rep 3 .deadv ++ [.c (ic at8), .deadv, .c (.ptr ⟨⟨.loc 10, []⟩, 0, 0⟩)] ++ rep 9 .deadv ++ [.c (.imm t20), .c (ic t21), .c (ic t22)] ++ rep 42 .deadv ++ [.c (.imm t65), .c (ic t66), .c (ic t67), .c (bc true), .c (.cptr [ic branch_x4, .imm closes_x4, .imm bars_x4] 0), .ag [ic branch_x4, .imm closes_x4, .imm bars_x4], .c (.ptr ⟨⟨.loc 10, []⟩, 0, 1⟩), .c (.imm closes_x4), .deadv, .c (.ptr ⟨⟨.loc 10, []⟩, 0, 2⟩), .c (.imm bars_x4), .deadv, .c (.ptr ⟨⟨.loc 10, []⟩, 0, 1⟩), .c (.ptr ⟨⟨.loc 10, []⟩, 0, 2⟩), .c (.ptr ⟨⟨.loc 3, []⟩, 0, 2⟩), .c (.ref ⟨⟨.loc 3, []⟩, 0, 2⟩), .c (ic at8), .c (.ptr ⟨⟨.loc 3, []⟩, 0, 2⟩), .c (.ref ⟨⟨.loc 3, []⟩, 0, 2⟩), .c (ic at8), .c (.ptr ⟨⟨.loc 3, [(0, 2)]⟩, at8.toNat, 0⟩), .c (.ptr ⟨⟨.loc 3, [(0, 2)]⟩, at8.toNat, 7⟩), .deadv, .ag [ic branch_x4, .ref ⟨⟨.loc 10, []⟩, 0, 1⟩, .ref ⟨⟨.loc 10, []⟩, 0, 2⟩], .deadv, .deadv, .c (.ptr ⟨⟨.loc 3, [(0, 2)]⟩, at8.toNat, 0⟩), .c (.ptr ⟨⟨.loc 3, [(0, 2)]⟩, at8.toNat, 7⟩)] ++ rep 3 .deadv, [(.loc 3, [ic loc3_0, .own 1 loc3_1, .own 8 (setRow (setRow loc3_2 at8.toNat 7 .dead) at8.toNat 7 (.own 3 (ends_x11 ++ [[ic branch_x4, .imm (immRs v_x5), .imm (immRs v_x7)]])))]), (.loc 10, [ic branch_x4, .imm (immRs v_x5), .imm (immRs v_x7)]), (.loc 2, [ic loc2_0, .nil, .nil])]⟩ : Fr) = ⟨[.deadv, .deadv, .c (.ptr ⟨⟨.loc 2, []⟩, 0, 0⟩), .c (.ptr ⟨⟨.loc 3, []⟩, 0, 0⟩), .c (.mp became4)] ++ rep 3 .deadv ++ [.c (ic at8), .deadv, .c (.ptr ⟨⟨.loc 10, []⟩, 0, 0⟩)] ++ rep 9 .deadv ++ [.c (.imm t20), .c (ic t21), .c (ic t22)] ++ rep 42 .deadv ++ [.c (.imm t65), .c (ic t66), .c (ic t67), .c (bc true), .c (.cptr [ic branch_x4, .imm closes_x4, .imm bars_x4] 0), .ag [ic branch_x4, .imm closes_x4, .imm bars_x4], .c (.ptr ⟨⟨.loc 10, []⟩, 0, 1⟩), .c (.imm closes_x4), .deadv, .c (.ptr ⟨⟨.loc 10, []⟩, 0, 2⟩), .c (.imm bars_x4), .deadv, .c (.ptr ⟨⟨.loc 10, []⟩, 0, 1⟩), .c (.ptr ⟨⟨.loc 10, []⟩, 0, 2⟩), .c (.ptr ⟨⟨.loc 3, []⟩, 0, 2⟩), .c (.ref ⟨⟨.loc 3, []⟩, 0, 2⟩), .c (ic at8), .c (.ptr ⟨⟨.loc 3, []⟩, 0, 2⟩), .c (.ref ⟨⟨.loc 3, []⟩, 0, 2⟩), .c (ic at8), .c (.ptr ⟨⟨.loc 3, [(0, 2)]⟩, at8.toNat, 0⟩), .c (.ptr ⟨⟨.loc 3, [(0, 2)]⟩, at8.toNat, 7⟩), .deadv, .ag [ic branch_x4, .ref ⟨⟨.loc 10, []⟩, 0, 1⟩, .ref ⟨⟨.loc 10, []⟩, 0, 2⟩], .deadv, .deadv, .c (.ptr ⟨⟨.loc 3, [(0, 2)]⟩, at8.toNat, 0⟩), .c (.ptr ⟨⟨.loc 3, [(0, 2)]⟩, at8.toNat, 7⟩)] ++ rep 3 .deadv, [(.loc 3, [ic loc3_0, .own 1 loc3_1, .own 8 (setRow (setRow loc3_2 at8.toNat 7 .dead) at8.toNat 7 (.own 3 (ends_x11 ++ [[ic branch_x4, .imm (immRs v_x5), .imm (immRs v_x7)]])))]), (.loc 10, [ic branch_x4, .imm (immRs v_x5), .imm (immRs v_x7)]), (.loc 2, [ic loc2_0, .nil, .nil])]⟩), ix_bnd h_x10, h_x10.2, ix_at (o := 7) h_x10 rfl, (rfl : some (AV.c (.ref ⟨⟨.loc 3, [(0, 2)]⟩, at8.toNat, 7⟩)) = some (AV.c (.ref ⟨⟨.loc 3, [(0, 2)]⟩, at8.toNat, 7⟩))), okF [[ic branch_x4, .imm (immRs v_x5), .imm (immRs v_x7)]] h_x12, ix_bnd (row_set (o := 7) (c := .dead) h_x10), ix_cell (o := 7) (row_set (o := 7) (c := .dead) h_x10) rfl, ix_bnd h_x10, h_x10.2, ix_at (o := 7) h_x10 rfl, (rfl : some (AV.c (.ref ⟨⟨.loc 3, [(0, 2)]⟩, at8.toNat, 7⟩)) = some (AV.c (.ref ⟨⟨.loc 3, [(0, 2)]⟩, at8.toNat, 7⟩))), okF [[ic branch_x4, .imm (immRs v_x5), .imm (immRs v_x7)]] h_x12, ix_bnd (row_set (o := 7) (c := .dead) h_x10), ix_cell (o := 7) (row_set (o := 7) (c := .dead) h_x10) rfl, trivial⟩
  ·
    exact mgo_at (nb := 0) hmix (ih _ _ h) (n := 8) (ad := [(some 68, .test false)]) (ps := [_]) (m := bm 96 79228162514264337593536610275) (ls := []) (cs := []) (by kernel_rfl) ⟨h_x1, trivial⟩
theorem t6_h4_ok (k : Nat) (rec : S6 → Option R6) (ih : ∀ s r, rec s = some r → P6 s r) (became4 : Es) (at8 : Int) (t20 : Rs) (t21 : Int) (t22 : Int) (t65 : Rs) (t66 : Int) (t67 : Int) (loc3_0 : Int) (loc3_1 : Rs) (loc3_2 : Rs) (loc2_0 : Int) (r : R6) (h : t6_h4 k rec became4 at8 t20 t21 t22 t65 t66 t67 loc3_0 loc3_1 loc3_2 loc2_0 = some r) : P6 (.h4 became4 at8 t20 t21 t22 t65 t66 t67 loc3_0 loc3_1 loc3_2 loc2_0) r := by
  unfold t6_h4 at h
  exact mgo_at (nb := 0) hmix (ih _ _ h) (n := 1) (ad := []) (ps := []) (m := bm 96 79228162256009920561602887395) (ls := []) (cs := []) (by kernel_rfl) trivial
theorem ok6 : ∀ k s r, itS step6 k s = some r → P6 s r := itS_ok fun k rec ih s r h => match s, h with
  | .e a0_0 a0_1 a0_2, h => t6_e_ok k rec ih a0_0 a0_1 a0_2 r h
  | .h0 became4 t20 t21 t22 loc3_0 loc3_1 loc3_2 loc2_0, h => t6_h0_ok k rec ih became4 t20 t21 t22 loc3_0 loc3_1 loc3_2 loc2_0 r h
  | .h1 became4 i5 ends7 at8 t20 t21 t22 t55 loc6_0 loc6_1 loc6_2 loc6_3 loc6_4 loc6_5 loc6_6 loc3_0 loc3_1 loc3_2 loc2_0, h => t6_h1_ok k rec ih became4 i5 ends7 at8 t20 t21 t22 t55 loc6_0 loc6_1 loc6_2 loc6_3 loc6_4 loc6_5 loc6_6 loc3_0 loc3_1 loc3_2 loc2_0 r h
  | .h2 became4 i5 ends7 at8 t20 t21 t22 loc3_0 loc3_1 loc3_2 loc2_0, h => t6_h2_ok k rec ih became4 i5 ends7 at8 t20 t21 t22 loc3_0 loc3_1 loc3_2 loc2_0 r h
  | .h3 became4 at8 t20 t21 t22 t65 t66 t67 loc3_0 loc3_1 loc3_2 loc2_0, h => t6_h3_ok k rec ih became4 at8 t20 t21 t22 t65 t66 t67 loc3_0 loc3_1 loc3_2 loc2_0 r h
  | .h4 became4 at8 t20 t21 t22 t65 t66 t67 loc3_0 loc3_1 loc3_2 loc2_0, h => t6_h4_ok k rec ih became4 at8 t20 t21 t22 t65 t66 t67 loc3_0 loc3_1 loc3_2 loc2_0 r h
theorem ev6 {k : Nat} {a0_0 : Int} {a0_1 : Rs} {a0_2 : Rs} {r : R6} (h : g6 k a0_0 a0_1 a0_2 = some r) : Ev Try.prog noHand 6 [.ag [ic a0_0, .imm a0_1, .imm a0_2]] [] (res6 r) (bx6 r) := evr6 (ok6 _ _ _ h)
-- auspice/merge.Least
inductive S7 where
  | e (a0_0 : Int) (a0_1 : Rs) (a0_2 : Rs)
  | h0 (t6 : Rs) (t7 : Int) (t8 : Int) (loc1_0 : Int) (loc1_1 : Rs) (loc1_2 : Rs)
abbrev R7 := Bool
def res7 : R7 → ARes
  | r => .ret (.c (bc r))
def bx7 : R7 → List (List Cell)
  | r => []
noncomputable def t7_e (k : Nat) (rec : S7 → Option R7) (a0_0 : Int) (a0_1 : Rs) (a0_2 : Rs) : Option R7 :=
  rec (.h0 a0_2 (a0_2.length : Int) 0 a0_0 a0_1 a0_2)
noncomputable def t7_h0 (k : Nat) (rec : S7 → Option R7) (t6 : Rs) (t7 : Int) (t8 : Int) (loc1_0 : Int) (loc1_1 : Rs) (loc1_2 : Rs) : Option R7 :=
  bif decide (t8 < t7) then
    ixR t6 t8 fun w_x2 =>
    un_iibim4 w_x2 fun parent_x4 type_x4 many_x4 window_x4 bars_x4 leaves_x4 guards_x4 ends_x4 =>
    (g14 k loc1_2 parent_x4 type_x4 many_x4 window_x4 bars_x4 leaves_x4 guards_x4 ends_x4).bind fun v_x5 =>
    bif decide (v_x5 < t8) then
      some false
    else
      rec (.h0 t6 t7 (IntKind.i64.wrap (t8 + 1)) loc1_0 loc1_1 loc1_2)
  else
    some true
noncomputable def step7 (k : Nat) (rec : S7 → Option R7) : S7 → Option R7
  | .e a0_0 a0_1 a0_2 => t7_e k rec a0_0 a0_1 a0_2
  | .h0 t6 t7 t8 loc1_0 loc1_1 loc1_2 => t7_h0 k rec t6 t7 t8 loc1_0 loc1_1 loc1_2
noncomputable def g7 (k : Nat) (a0_0 : Int) (a0_1 : Rs) (a0_2 : Rs) : Option R7 := itS step7 k (.e a0_0 a0_1 a0_2)
noncomputable def P7 : S7 → R7 → Prop
  | .e a0_0 a0_1 a0_2, r => Fin cx7 Try.f7 [.code body7] (fr0 Try.f7 [.ag [ic a0_0, .imm a0_1, .imm a0_2]] []) (res7 r) (bx7 r)
  | .h0 t6 t7 t8 loc1_0 loc1_1 loc1_2, r => Fin cx7 Try.f7 (kAt body7 [1, 0, 1, 0, 4] []) ⟨[.deadv, .c (.ptr ⟨⟨.loc 1, []⟩, 0, 0⟩)] ++ rep 4 .deadv ++ [.c (.imm t6), .c (ic t7), .c (ic t8)] ++ rep 11 .deadv, [(.loc 1, [ic loc1_0, .imm loc1_1, .imm loc1_2])]⟩ (res7 r) (bx7 r)
theorem evr7 {a0_0 : Int} {a0_1 : Rs} {a0_2 : Rs} {r : R7} (h : P7 (.e a0_0 a0_1 a0_2) r) : Ev Try.prog noHand 7 [.ag [ic a0_0, .imm a0_1, .imm a0_2]] [] (res7 r) (bx7 r) := ev_of_fin (fn := Try.f7) (body := body7) (by kernel_rfl) (by kernel_rfl) (by kernel_rfl) rfl h
theorem t7_e_ok (k : Nat) (rec : S7 → Option R7) (ih : ∀ s r, rec s = some r → P7 s r) (a0_0 : Int) (a0_1 : Rs) (a0_2 : Rs) (r : R7) (h : t7_e k rec a0_0 a0_1 a0_2 = some r) : P7 (.e a0_0 a0_1 a0_2) r := by
  unfold t7_e at h
  exact mgo_at (nb := 0) hmix (ih _ _ h) (n := 7) (ad := []) (ps := []) (m := bm 20 1048125) (ls := []) (cs := []) (by kernel_rfl) trivial
theorem t7_h0_ok (k : Nat) (rec : S7 → Option R7) (ih : ∀ s r, rec s = some r → P7 s r) (t6 : Rs) (t7 : Int) (t8 : Int) (loc1_0 : Int) (loc1_1 : Rs) (loc1_2 : Rs) (r : R7) (h : t7_h0 k rec t6 t7 t8 loc1_0 loc1_1 loc1_2 = some r) : P7 (.h0 t6 t7 t8 loc1_0 loc1_1 loc1_2) r := by
  unfold t7_h0 at h
  rcases bif_or h with ⟨h_x1, h⟩ | ⟨h_x1, h⟩
  ·
    obtain ⟨w_x2, h_x3, h⟩ := ixR_or h
    obtain ⟨parent_x4, type_x4, many_x4, window_x4, bars_x4, leaves_x4, guards_x4, ends_x4, hq, h1'⟩ := un_iibim4_or h
    clear h; subst hq; have h := h1'; clear h1'
    obtain ⟨v_x5, h_x6, h⟩ := bd_or h
    rcases bif_or h with ⟨h_x7, h⟩ | ⟨h_x7, h⟩
    ·
      rw [← Option.some.inj h]
      exact mgo_fin (nb := 0) hmix (n := 2000) (ad := [(some 9, .test true), (some 11, .row [ic parent_x4, ic type_x4, bc many_x4, ic window_x4, .imm bars_x4, .imm leaves_x4, .imm guards_x4, .imm ends_x4]), (some 16, .call (.ret (.c (ic v_x5))) [] false), (some 18, .test true)]) (ps := [_, _, _, _]) (by kernel_rfl) ⟨h_x1, ix_row h_x3 rfl, (ev14 h_x6), h_x7, trivial⟩
    ·
      exact mgo_at (nb := 0) hmix (ih _ _ h) (n := 16) (ad := [(some 9, .test true), (some 11, .row [ic parent_x4, ic type_x4, bc many_x4, ic window_x4, .imm bars_x4, .imm leaves_x4, .imm guards_x4, .imm ends_x4]), (some 16, .call (.ret (.c (ic v_x5))) [] false), (some 18, .test false)]) (ps := [_, _, _, _]) (m := bm 20 1048125) (ls := [4]) (cs := []) (by kernel_rfl) ⟨h_x1, ix_row h_x3 rfl, (ev14 h_x6), h_x7, trivial⟩
  ·
    rw [← Option.some.inj h]
    exact mgo_fin (nb := 0) hmix (n := 2000) (ad := [(some 9, .test false)]) (ps := [_]) (by kernel_rfl) ⟨h_x1, trivial⟩
theorem ok7 : ∀ k s r, itS step7 k s = some r → P7 s r := itS_ok fun k rec ih s r h => match s, h with
  | .e a0_0 a0_1 a0_2, h => t7_e_ok k rec ih a0_0 a0_1 a0_2 r h
  | .h0 t6 t7 t8 loc1_0 loc1_1 loc1_2, h => t7_h0_ok k rec ih t6 t7 t8 loc1_0 loc1_1 loc1_2 r h
theorem ev7 {k : Nat} {a0_0 : Int} {a0_1 : Rs} {a0_2 : Rs} {r : R7} (h : g7 k a0_0 a0_1 a0_2 = some r) : Ev Try.prog noHand 7 [.ag [ic a0_0, .imm a0_1, .imm a0_2]] [] (res7 r) (bx7 r) := evr7 (ok7 _ _ _ h)
-- auspice/auspicelaw16.MergeLeast
end Ab
end Go.Proofs.Ytgghingfdcmelaa
