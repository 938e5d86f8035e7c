/-
  Functions' ways, printed by a program: what each computes, and that this is what the interpreter computes.
-/
import Derived.Test.YtebmcaceklbopaaAwake
import Derived.KernelRfl
set_option linter.unusedVariables false
set_option linter.unusedSimpArgs false
namespace Go.Proofs.Ytebmcaceklbopaa
namespace Ab
def un_b {α : Type} (row : List Cell) (k : Bool → Option α) : Option α := match row with
  | [.val (.bool x0)] => k x0
  | _ => none
theorem un_b_or {α : Type} {row : List Cell} {k : Bool → Option α} {r : α} (h : un_b row k = some r) : ∃ x0, row = [.val (.bool x0)] ∧ k x0 = some r := by
  unfold un_b at h
  split at h
  · exact ⟨_, rfl, h⟩
  · cases h
def un_i {α : Type} (row : List Cell) (k : Int → Option α) : Option α := match row with
  | [.val (.int .i64 x0)] => k x0
  | _ => none
theorem un_i_or {α : Type} {row : List Cell} {k : Int → Option α} {r : α} (h : un_i row k = some r) : ∃ x0, row = [.val (.int .i64 x0)] ∧ k x0 = some r := by
  unfold un_i at h
  split at h
  · exact ⟨_, rfl, h⟩
  · cases h
def un_i4 {α : Type} (row : List Cell) (k : Int → Int → Int → Int → Option α) : Option α := match row with
  | [.val (.int .i64 x0), .val (.int .i64 x1), .val (.int .i64 x2), .val (.int .i64 x3)] => k x0 x1 x2 x3
  | _ => none
theorem un_i4_or {α : Type} {row : List Cell} {k : Int → Int → Int → Int → Option α} {r : α} (h : un_i4 row k = some r) : ∃ x0 x1 x2 x3, row = [.val (.int .i64 x0), .val (.int .i64 x1), .val (.int .i64 x2), .val (.int .i64 x3)] ∧ k x0 x1 x2 x3 = some r := by
  unfold un_i4 at h
  split at h
  · exact ⟨_, _, _, _, rfl, h⟩
  · cases h
def un_iimiuii {α : Type} (row : List Cell) (k : Int → Int → Rs → Int → Int → Int → Int → Option α) : Option α := match row with
  | [.val (.int .i64 x0), .val (.int .i64 x1), .imm x2, .val (.int .i64 x3), .val (.int .u64 x4), .val (.int .i64 x5), .val (.int .i64 x6)] => k x0 x1 x2 x3 x4 x5 x6
  | _ => none
theorem un_iimiuii_or {α : Type} {row : List Cell} {k : Int → Int → Rs → Int → Int → Int → Int → Option α} {r : α} (h : un_iimiuii row k = some r) : ∃ x0 x1 x2 x3 x4 x5 x6, row = [.val (.int .i64 x0), .val (.int .i64 x1), .imm x2, .val (.int .i64 x3), .val (.int .u64 x4), .val (.int .i64 x5), .val (.int .i64 x6)] ∧ k x0 x1 x2 x3 x4 x5 x6 = some r := by
  unfold un_iimiuii at h
  split at h
  · exact ⟨_, _, _, _, _, _, _, rfl, h⟩
  · cases h
def un_iu {α : Type} (row : List Cell) (k : Int → Int → Option α) : Option α := match row with
  | [.val (.int .i64 x0), .val (.int .u64 x1)] => k x0 x1
  | _ => none
theorem un_iu_or {α : Type} {row : List Cell} {k : Int → Int → Option α} {r : α} (h : un_iu row k = some r) : ∃ x0 x1, row = [.val (.int .i64 x0), .val (.int .u64 x1)] ∧ k x0 x1 = some r := by
  unfold un_iu at h
  split at h
  · exact ⟨_, _, rfl, h⟩
  · cases h
-- auspice/value.numeric
inductive S44 where
  | e (k0 : Int)
abbrev R44 := Bool
def res44 : R44 → ARes
  | r => .ret (.c (bc r))
def bx44 : R44 → List (List Cell)
  | r => []
noncomputable def t44_e (k : Nat) (rec : S44 → Option R44) (k0 : Int) : Option R44 :=
  bif k0 == 1 then
    some true
  else
    some (k0 == 4)
noncomputable def step44 (k : Nat) (rec : S44 → Option R44) : S44 → Option R44
  | .e k0 => t44_e k rec k0
noncomputable def g44 (k : Nat) (k0 : Int) : Option R44 := itS step44 k (.e k0)
noncomputable def P44 : S44 → R44 → Prop
  | .e k0, r => Fin cx44 Try.f44 [.code body44] (fr0 Try.f44 [.c (ic k0)] []) (res44 r) (bx44 r)
theorem evr44 {k0 : Int} {r : R44} (h : P44 (.e k0) r) : Ev Try.prog noHand 44 [.c (ic k0)] [] (res44 r) (bx44 r) := ev_of_fin (fn := Try.f44) (body := body44) (by kernel_rfl) (by kernel_rfl) (by kernel_rfl) rfl h
theorem t44_e_ok (k : Nat) (rec : S44 → Option R44) (ih : ∀ s r, rec s = some r → P44 s r) (k0 : Int) (r : R44) (h : t44_e k rec k0 = some r) : P44 (.e k0) r := by
  unfold t44_e at h
  rcases bif_or h with ⟨h_x1, h⟩ | ⟨h_x1, h⟩
  ·
    rw [← Option.some.inj h]
    exact mgo_fin (nb := 0) hmix (n := 2000) (ad := [(some 4, .test true)]) (ps := [_]) (by kernel_rfl) ⟨h_x1, trivial⟩
  ·
    rw [← Option.some.inj h]
    exact mgo_fin (nb := 0) hmix (n := 2000) (ad := [(some 4, .test false)]) (ps := [_]) (by kernel_rfl) ⟨h_x1, trivial⟩
theorem ok44 : ∀ k s r, itS step44 k s = some r → P44 s r := itS_ok fun k rec ih s r h => match s, h with
  | .e k0, h => t44_e_ok k rec ih k0 r h
theorem ev44 {k : Nat} {k0 : Int} {r : R44} (h : g44 k k0 = some r) : Ev Try.prog noHand 44 [.c (ic k0)] [] (res44 r) (bx44 r) := evr44 (ok44 _ _ _ h)
-- auspice/value.one
inductive S42 where
  | e (op0 : Int) (k1 : Int)
  | h0 (op0 : Int) (k1 : Int) (t5 : Bool)
  | h1 (op0 : Int) (k1 : Int) (t13 : Bool)
  | h2 (op0 : Int) (k1 : Int) (t20 : Bool)
  | h3 (t27 : Bool)
abbrev R42 := Int
def res42 : R42 → ARes
  | r => .ret (.c (ic r))
def bx42 : R42 → List (List Cell)
  | r => []
noncomputable def t42_e (k : Nat) (rec : S42 → Option R42) (op0 : Int) (k1 : Int) : Option R42 :=
  bif op0 == 6 then
    (g44 k k1).bind fun v_x2 =>
    rec (.h0 op0 k1 v_x2)
  else
    rec (.h0 op0 k1 false)
noncomputable def t42_h0 (k : Nat) (rec : S42 → Option R42) (op0 : Int) (k1 : Int) (t5 : Bool) : Option R42 :=
  bif t5 then
    some k1
  else
    bif op0 == 15 then
      rec (.h1 op0 k1 (k1 == 2))
    else
      rec (.h1 op0 k1 false)
noncomputable def t42_h1 (k : Nat) (rec : S42 → Option R42) (op0 : Int) (k1 : Int) (t13 : Bool) : Option R42 :=
  bif t13 then
    some 2
  else
    bif op0 == 16 then
      rec (.h2 op0 k1 (k1 == 1))
    else
      rec (.h2 op0 k1 false)
noncomputable def t42_h2 (k : Nat) (rec : S42 → Option R42) (op0 : Int) (k1 : Int) (t20 : Bool) : Option R42 :=
  bif t20 then
    some 4
  else
    bif op0 == 17 then
      rec (.h3 (k1 == 4))
    else
      rec (.h3 false)
noncomputable def t42_h3 (k : Nat) (rec : S42 → Option R42) (t27 : Bool) : Option R42 :=
  bif t27 then
    some 2
  else
    some 0
noncomputable def step42 (k : Nat) (rec : S42 → Option R42) : S42 → Option R42
  | .e op0 k1 => t42_e k rec op0 k1
  | .h0 op0 k1 t5 => t42_h0 k rec op0 k1 t5
  | .h1 op0 k1 t13 => t42_h1 k rec op0 k1 t13
  | .h2 op0 k1 t20 => t42_h2 k rec op0 k1 t20
  | .h3 t27 => t42_h3 k rec t27
noncomputable def g42 (k : Nat) (op0 : Int) (k1 : Int) : Option R42 := itS step42 k (.e op0 k1)
noncomputable def P42 : S42 → R42 → Prop
  | .e op0 k1, r => Fin cx42 Try.f42 [.code body42] (fr0 Try.f42 [.c (ic op0), .c (ic k1)] []) (res42 r) (bx42 r)
  | .h0 op0 k1 t5, r => Fin cx42 Try.f42 (kAt body42 [1, 0, 0, 1, 2] []) ⟨[.c (ic op0), .c (ic k1)] ++ rep 3 .deadv ++ [.c (bc t5)] ++ rep 28 .deadv, []⟩ (res42 r) (bx42 r)
  | .h1 op0 k1 t13, r => Fin cx42 Try.f42 (kAt body42 [1, 0, 0, 1, 1, 1, 2] []) ⟨[.c (ic op0), .c (ic k1)] ++ rep 11 .deadv ++ [.c (bc t13)] ++ rep 20 .deadv, []⟩ (res42 r) (bx42 r)
  | .h2 op0 k1 t20, r => Fin cx42 Try.f42 (kAt body42 [1, 0, 0, 1, 1, 1, 1, 1, 2] []) ⟨[.c (ic op0), .c (ic k1)] ++ rep 18 .deadv ++ [.c (bc t20)] ++ rep 13 .deadv, []⟩ (res42 r) (bx42 r)
  | .h3 t27, r => Fin cx42 Try.f42 (kAt body42 [1, 0, 0, 1, 1, 1, 1, 1, 1, 1, 2] []) ⟨rep 27 .deadv ++ [.c (bc t27)] ++ rep 6 .deadv, []⟩ (res42 r) (bx42 r)
theorem evr42 {op0 : Int} {k1 : Int} {r : R42} (h : P42 (.e op0 k1) r) : Ev Try.prog noHand 42 [.c (ic op0), .c (ic k1)] [] (res42 r) (bx42 r) := ev_of_fin (fn := Try.f42) (body := body42) (by kernel_rfl) (by kernel_rfl) (by kernel_rfl) rfl h
theorem t42_e_ok (k : Nat) (rec : S42 → Option R42) (ih : ∀ s r, rec s = some r → P42 s r) (op0 : Int) (k1 : Int) (r : R42) (h : t42_e k rec op0 k1 = some r) : P42 (.e op0 k1) r := by
  unfold t42_e at h
  rcases bif_or h with ⟨h_x1, h⟩ | ⟨h_x1, h⟩
  ·
    obtain ⟨v_x2, h_x3, h⟩ := bd_or h
    exact mgo_at (nb := 0) hmix (ih _ _ h) (n := 6) (ad := [(some 7, .test true), (some 10, .call (.ret (.c (bc v_x2))) [] false)]) (ps := [_, _]) (m := bm 34 17179869148) (ls := []) (cs := []) (by kernel_rfl) ⟨h_x1, (ev44 h_x3), trivial⟩
  ·
    exact mgo_at (nb := 0) hmix (ih _ _ h) (n := 6) (ad := [(some 7, .test false)]) (ps := [_]) (m := bm 34 17179869148) (ls := []) (cs := []) (by kernel_rfl) ⟨h_x1, trivial⟩
theorem t42_h0_ok (k : Nat) (rec : S42 → Option R42) (ih : ∀ s r, rec s = some r → P42 s r) (op0 : Int) (k1 : Int) (t5 : Bool) (r : R42) (h : t42_h0 k rec op0 k1 t5 = some r) : P42 (.h0 op0 k1 t5) r := by
  unfold t42_h0 at h
  rcases bif_or h with ⟨hq, h1'⟩ | ⟨hq, h1'⟩
  · clear h; subst hq; have h := h1'; clear h1'
    rw [← Option.some.inj h]
    exact mgo_fin (nb := 0) hmix (n := 2000) (ad := []) (ps := []) (by kernel_rfl) trivial
  · clear h; subst hq; have h := h1'; clear h1'
    rcases bif_or h with ⟨h_x1, h⟩ | ⟨h_x1, h⟩
    ·
      exact mgo_at (nb := 0) hmix (ih _ _ h) (n := 3) (ad := [(some 15, .test true)]) (ps := [_]) (m := bm 34 17179860988) (ls := []) (cs := []) (by kernel_rfl) ⟨h_x1, trivial⟩
    ·
      exact mgo_at (nb := 0) hmix (ih _ _ h) (n := 3) (ad := [(some 15, .test false)]) (ps := [_]) (m := bm 34 17179860988) (ls := []) (cs := []) (by kernel_rfl) ⟨h_x1, trivial⟩
theorem t42_h1_ok (k : Nat) (rec : S42 → Option R42) (ih : ∀ s r, rec s = some r → P42 s r) (op0 : Int) (k1 : Int) (t13 : Bool) (r : R42) (h : t42_h1 k rec op0 k1 t13 = some r) : P42 (.h1 op0 k1 t13) r := by
  unfold t42_h1 at h
  rcases bif_or h with ⟨hq, h1'⟩ | ⟨hq, h1'⟩
  · clear h; subst hq; have h := h1'; clear h1'
    rw [← Option.some.inj h]
    exact mgo_fin (nb := 0) hmix (n := 2000) (ad := []) (ps := []) (by kernel_rfl) trivial
  · clear h; subst hq; have h := h1'; clear h1'
    rcases bif_or h with ⟨h_x1, h⟩ | ⟨h_x1, h⟩
    ·
      exact mgo_at (nb := 0) hmix (ih _ _ h) (n := 3) (ad := [(some 22, .test true)]) (ps := [_]) (m := bm 34 17178820604) (ls := []) (cs := []) (by kernel_rfl) ⟨h_x1, trivial⟩
    ·
      exact mgo_at (nb := 0) hmix (ih _ _ h) (n := 3) (ad := [(some 22, .test false)]) (ps := [_]) (m := bm 34 17178820604) (ls := []) (cs := []) (by kernel_rfl) ⟨h_x1, trivial⟩
theorem t42_h2_ok (k : Nat) (rec : S42 → Option R42) (ih : ∀ s r, rec s = some r → P42 s r) (op0 : Int) (k1 : Int) (t20 : Bool) (r : R42) (h : t42_h2 k rec op0 k1 t20 = some r) : P42 (.h2 op0 k1 t20) r := by
  unfold t42_h2 at h
  rcases bif_or h with ⟨hq, h1'⟩ | ⟨hq, h1'⟩
  · clear h; subst hq; have h := h1'; clear h1'
    rw [← Option.some.inj h]
    exact mgo_fin (nb := 0) hmix (n := 2000) (ad := []) (ps := []) (by kernel_rfl) trivial
  · clear h; subst hq; have h := h1'; clear h1'
    rcases bif_or h with ⟨h_x1, h⟩ | ⟨h_x1, h⟩
    ·
      exact mgo_at (nb := 0) hmix (ih _ _ h) (n := 3) (ad := [(some 29, .test true)]) (ps := [_]) (m := bm 34 17045651455) (ls := []) (cs := []) (by kernel_rfl) ⟨h_x1, trivial⟩
    ·
      exact mgo_at (nb := 0) hmix (ih _ _ h) (n := 3) (ad := [(some 29, .test false)]) (ps := [_]) (m := bm 34 17045651455) (ls := []) (cs := []) (by kernel_rfl) ⟨h_x1, trivial⟩
theorem t42_h3_ok (k : Nat) (rec : S42 → Option R42) (ih : ∀ s r, rec s = some r → P42 s r) (t27 : Bool) (r : R42) (h : t42_h3 k rec t27 = some r) : P42 (.h3 t27) r := by
  unfold t42_h3 at h
  rcases bif_or h with ⟨hq, h1'⟩ | ⟨hq, h1'⟩
  · clear h; subst hq; have h := h1'; clear h1'
    rw [← Option.some.inj h]
    exact mgo_fin (nb := 0) hmix (n := 2000) (ad := []) (ps := []) (by kernel_rfl) trivial
  · clear h; subst hq; have h := h1'; clear h1'
    rw [← Option.some.inj h]
    exact mgo_fin (nb := 0) hmix (n := 2000) (ad := []) (ps := []) (by kernel_rfl) trivial
theorem ok42 : ∀ k s r, itS step42 k s = some r → P42 s r := itS_ok fun k rec ih s r h => match s, h with
  | .e op0 k1, h => t42_e_ok k rec ih op0 k1 r h
  | .h0 op0 k1 t5, h => t42_h0_ok k rec ih op0 k1 t5 r h
  | .h1 op0 k1 t13, h => t42_h1_ok k rec ih op0 k1 t13 r h
  | .h2 op0 k1 t20, h => t42_h2_ok k rec ih op0 k1 t20 r h
  | .h3 t27, h => t42_h3_ok k rec ih t27 r h
theorem ev42 {k : Nat} {op0 : Int} {k1 : Int} {r : R42} (h : g42 k op0 k1 = some r) : Ev Try.prog noHand 42 [.c (ic op0), .c (ic k1)] [] (res42 r) (bx42 r) := evr42 (ok42 _ _ _ h)
-- auspice/value.two
inductive S43 where
  | e (op0 : Int) (k1 : Int)
  | h0 (op0 : Int) (k1 : Int) (t5 : Bool)
  | h1 (op0 : Int) (k1 : Int) (t5 : Bool)
  | h2 (op0 : Int) (k1 : Int) (t23 : Bool)
  | h3 (op0 : Int) (k1 : Int) (t23 : Bool)
  | h4 (t48 : Bool)
abbrev R43 := Int
def res43 : R43 → ARes
  | r => .ret (.c (ic r))
def bx43 : R43 → List (List Cell)
  | r => []
noncomputable def t43_e (k : Nat) (rec : S43 → Option R43) (op0 : Int) (k1 : Int) : Option R43 :=
  bif decide (op0 ≥ 1) then
    bif decide (op0 ≤ 4) then
      (g44 k k1).bind fun v_x3 =>
      rec (.h0 op0 k1 v_x3)
    else
      rec (.h0 op0 k1 false)
  else
    rec (.h0 op0 k1 false)
noncomputable def t43_h0 (k : Nat) (rec : S43 → Option R43) (op0 : Int) (k1 : Int) (t5 : Bool) : Option R43 :=
  bif t5 then
    rec (.h1 op0 k1 t5)
  else
    bif op0 == 5 then
      rec (.h1 op0 k1 (k1 == 1))
    else
      rec (.h1 op0 k1 false)
noncomputable def t43_h1 (k : Nat) (rec : S43 → Option R43) (op0 : Int) (k1 : Int) (t5 : Bool) : Option R43 :=
  bif t5 then
    some k1
  else
    bif op0 == 7 then
      bif decide (k1 ≥ 1) then
        rec (.h2 op0 k1 (decide (k1 ≤ 4)))
      else
        rec (.h2 op0 k1 false)
    else
      bif op0 == 8 then
        bif decide (k1 ≥ 1) then
          rec (.h2 op0 k1 (decide (k1 ≤ 4)))
        else
          rec (.h2 op0 k1 false)
      else
        rec (.h2 op0 k1 false)
noncomputable def t43_h2 (k : Nat) (rec : S43 → Option R43) (op0 : Int) (k1 : Int) (t23 : Bool) : Option R43 :=
  bif t23 then
    rec (.h3 op0 k1 t23)
  else
    bif decide (op0 ≥ 9) then
      bif decide (op0 ≤ 12) then
        (g44 k k1).bind fun v_x3 =>
        rec (.h3 op0 k1 v_x3)
      else
        rec (.h3 op0 k1 false)
    else
      rec (.h3 op0 k1 false)
noncomputable def t43_h3 (k : Nat) (rec : S43 → Option R43) (op0 : Int) (k1 : Int) (t23 : Bool) : Option R43 :=
  bif t23 then
    some 2
  else
    bif op0 == 13 then
      rec (.h4 (k1 == 2))
    else
      bif op0 == 14 then
        rec (.h4 (k1 == 2))
      else
        rec (.h4 false)
noncomputable def t43_h4 (k : Nat) (rec : S43 → Option R43) (t48 : Bool) : Option R43 :=
  bif t48 then
    some 2
  else
    some 0
noncomputable def step43 (k : Nat) (rec : S43 → Option R43) : S43 → Option R43
  | .e op0 k1 => t43_e k rec op0 k1
  | .h0 op0 k1 t5 => t43_h0 k rec op0 k1 t5
  | .h1 op0 k1 t5 => t43_h1 k rec op0 k1 t5
  | .h2 op0 k1 t23 => t43_h2 k rec op0 k1 t23
  | .h3 op0 k1 t23 => t43_h3 k rec op0 k1 t23
  | .h4 t48 => t43_h4 k rec t48
noncomputable def g43 (k : Nat) (op0 : Int) (k1 : Int) : Option R43 := itS step43 k (.e op0 k1)
noncomputable def P43 : S43 → R43 → Prop
  | .e op0 k1, r => Fin cx43 Try.f43 [.code body43] (fr0 Try.f43 [.c (ic op0), .c (ic k1)] []) (res43 r) (bx43 r)
  | .h0 op0 k1 t5, r => Fin cx43 Try.f43 (kAt body43 [1, 0, 0, 0, 1, 2] []) ⟨[.c (ic op0), .c (ic k1)] ++ rep 3 .deadv ++ [.c (bc t5)] ++ rep 53 .deadv, []⟩ (res43 r) (bx43 r)
  | .h1 op0 k1 t5, r => Fin cx43 Try.f43 (kAt body43 [1, 0, 0, 1, 2] []) ⟨[.c (ic op0), .c (ic k1)] ++ rep 3 .deadv ++ [.c (bc t5)] ++ rep 53 .deadv, []⟩ (res43 r) (bx43 r)
  | .h2 op0 k1 t23, r => Fin cx43 Try.f43 (kAt body43 [1, 0, 0, 1, 1, 0, 1, 2] []) ⟨[.c (ic op0), .c (ic k1)] ++ rep 21 .deadv ++ [.c (bc t23)] ++ rep 35 .deadv, []⟩ (res43 r) (bx43 r)
  | .h3 op0 k1 t23, r => Fin cx43 Try.f43 (kAt body43 [1, 0, 0, 1, 1, 1, 2] []) ⟨[.c (ic op0), .c (ic k1)] ++ rep 21 .deadv ++ [.c (bc t23)] ++ rep 35 .deadv, []⟩ (res43 r) (bx43 r)
  | .h4 t48, r => Fin cx43 Try.f43 (kAt body43 [1, 0, 0, 1, 1, 1, 1, 1, 2] []) ⟨rep 48 .deadv ++ [.c (bc t48)] ++ rep 10 .deadv, []⟩ (res43 r) (bx43 r)
theorem evr43 {op0 : Int} {k1 : Int} {r : R43} (h : P43 (.e op0 k1) r) : Ev Try.prog noHand 43 [.c (ic op0), .c (ic k1)] [] (res43 r) (bx43 r) := ev_of_fin (fn := Try.f43) (body := body43) (by kernel_rfl) (by kernel_rfl) (by kernel_rfl) rfl h
theorem t43_e_ok (k : Nat) (rec : S43 → Option R43) (ih : ∀ s r, rec s = some r → P43 s r) (op0 : Int) (k1 : Int) (r : R43) (h : t43_e k rec op0 k1 = some r) : P43 (.e op0 k1) r := by
  unfold t43_e at h
  rcases bif_or h with ⟨h_x1, h⟩ | ⟨h_x1, h⟩
  ·
    rcases bif_or h with ⟨h_x2, h⟩ | ⟨h_x2, h⟩
    ·
      obtain ⟨v_x3, h_x4, h⟩ := bd_or h
      exact mgo_at (nb := 0) hmix (ih _ _ h) (n := 7) (ad := [(some 7, .test true), (some 10, .test true), (some 14, .call (.ret (.c (bc v_x3))) [] false)]) (ps := [_, _, _]) (m := bm 59 576460752303423452) (ls := []) (cs := []) (by kernel_rfl) ⟨h_x1, h_x2, (ev44 h_x4), trivial⟩
    ·
      exact mgo_at (nb := 0) hmix (ih _ _ h) (n := 7) (ad := [(some 7, .test true), (some 10, .test false)]) (ps := [_, _]) (m := bm 59 576460752303423452) (ls := []) (cs := []) (by kernel_rfl) ⟨h_x1, h_x2, trivial⟩
  ·
    exact mgo_at (nb := 0) hmix (ih _ _ h) (n := 7) (ad := [(some 7, .test false)]) (ps := [_]) (m := bm 59 576460752303423452) (ls := []) (cs := []) (by kernel_rfl) ⟨h_x1, trivial⟩
theorem t43_h0_ok (k : Nat) (rec : S43 → Option R43) (ih : ∀ s r, rec s = some r → P43 s r) (op0 : Int) (k1 : Int) (t5 : Bool) (r : R43) (h : t43_h0 k rec op0 k1 t5 = some r) : P43 (.h0 op0 k1 t5) r := by
  unfold t43_h0 at h
  rcases bif_or h with ⟨hq, h1'⟩ | ⟨hq, h1'⟩
  · clear h; subst hq; have h := h1'; clear h1'
    exact mgo_at (nb := 0) hmix (ih _ _ h) (n := 2) (ad := []) (ps := []) (m := bm 59 576460752303423452) (ls := []) (cs := []) (by kernel_rfl) trivial
  · clear h; subst hq; have h := h1'; clear h1'
    rcases bif_or h with ⟨h_x1, h⟩ | ⟨h_x1, h⟩
    ·
      exact mgo_at (nb := 0) hmix (ih _ _ h) (n := 2) (ad := [(some 17, .test true)]) (ps := [_]) (m := bm 59 576460752303423452) (ls := []) (cs := []) (by kernel_rfl) ⟨h_x1, trivial⟩
    ·
      exact mgo_at (nb := 0) hmix (ih _ _ h) (n := 2) (ad := [(some 17, .test false)]) (ps := [_]) (m := bm 59 576460752303423452) (ls := []) (cs := []) (by kernel_rfl) ⟨h_x1, trivial⟩
theorem t43_h1_ok (k : Nat) (rec : S43 → Option R43) (ih : ∀ s r, rec s = some r → P43 s r) (op0 : Int) (k1 : Int) (t5 : Bool) (r : R43) (h : t43_h1 k rec op0 k1 t5 = some r) : P43 (.h1 op0 k1 t5) r := by
  unfold t43_h1 at h
  rcases bif_or h with ⟨hq, h1'⟩ | ⟨hq, h1'⟩
  · clear h; subst hq; have h := h1'; clear h1'
    rw [← Option.some.inj h]
    exact mgo_fin (nb := 0) hmix (n := 2000) (ad := []) (ps := []) (by kernel_rfl) trivial
  · clear h; subst hq; have h := h1'; clear h1'
    rcases bif_or h with ⟨h_x1, h⟩ | ⟨h_x1, h⟩
    ·
      rcases bif_or h with ⟨h_x2, h⟩ | ⟨h_x2, h⟩
      ·
        exact mgo_at (nb := 0) hmix (ih _ _ h) (n := 4) (ad := [(some 25, .test true), (some 32, .test true)]) (ps := [_, _]) (m := bm 59 576460752295034876) (ls := []) (cs := []) (by kernel_rfl) ⟨h_x1, h_x2, trivial⟩
      ·
        exact mgo_at (nb := 0) hmix (ih _ _ h) (n := 4) (ad := [(some 25, .test true), (some 32, .test false)]) (ps := [_, _]) (m := bm 59 576460752295034876) (ls := []) (cs := []) (by kernel_rfl) ⟨h_x1, h_x2, trivial⟩
    ·
      rcases bif_or h with ⟨h_x2, h⟩ | ⟨h_x2, h⟩
      ·
        rcases bif_or h with ⟨h_x3, h⟩ | ⟨h_x3, h⟩
        ·
          exact mgo_at (nb := 0) hmix (ih _ _ h) (n := 4) (ad := [(some 25, .test false), (some 28, .test true), (some 32, .test true)]) (ps := [_, _, _]) (m := bm 59 576460752295034876) (ls := []) (cs := []) (by kernel_rfl) ⟨h_x1, h_x2, h_x3, trivial⟩
        ·
          exact mgo_at (nb := 0) hmix (ih _ _ h) (n := 4) (ad := [(some 25, .test false), (some 28, .test true), (some 32, .test false)]) (ps := [_, _, _]) (m := bm 59 576460752295034876) (ls := []) (cs := []) (by kernel_rfl) ⟨h_x1, h_x2, h_x3, trivial⟩
      ·
        exact mgo_at (nb := 0) hmix (ih _ _ h) (n := 4) (ad := [(some 25, .test false), (some 28, .test false)]) (ps := [_, _]) (m := bm 59 576460752295034876) (ls := []) (cs := []) (by kernel_rfl) ⟨h_x1, h_x2, trivial⟩
theorem t43_h2_ok (k : Nat) (rec : S43 → Option R43) (ih : ∀ s r, rec s = some r → P43 s r) (op0 : Int) (k1 : Int) (t23 : Bool) (r : R43) (h : t43_h2 k rec op0 k1 t23 = some r) : P43 (.h2 op0 k1 t23) r := by
  unfold t43_h2 at h
  rcases bif_or h with ⟨hq, h1'⟩ | ⟨hq, h1'⟩
  · clear h; subst hq; have h := h1'; clear h1'
    exact mgo_at (nb := 0) hmix (ih _ _ h) (n := 2) (ad := []) (ps := []) (m := bm 59 576460752295034876) (ls := []) (cs := []) (by kernel_rfl) trivial
  · clear h; subst hq; have h := h1'; clear h1'
    rcases bif_or h with ⟨h_x1, h⟩ | ⟨h_x1, h⟩
    ·
      rcases bif_or h with ⟨h_x2, h⟩ | ⟨h_x2, h⟩
      ·
        obtain ⟨v_x3, h_x4, h⟩ := bd_or h
        exact mgo_at (nb := 0) hmix (ih _ _ h) (n := 2) (ad := [(some 39, .test true), (some 42, .test true), (some 46, .call (.ret (.c (bc v_x3))) [] false)]) (ps := [_, _, _]) (m := bm 59 576460752295034876) (ls := []) (cs := []) (by kernel_rfl) ⟨h_x1, h_x2, (ev44 h_x4), trivial⟩
      ·
        exact mgo_at (nb := 0) hmix (ih _ _ h) (n := 2) (ad := [(some 39, .test true), (some 42, .test false)]) (ps := [_, _]) (m := bm 59 576460752295034876) (ls := []) (cs := []) (by kernel_rfl) ⟨h_x1, h_x2, trivial⟩
    ·
      exact mgo_at (nb := 0) hmix (ih _ _ h) (n := 2) (ad := [(some 39, .test false)]) (ps := [_]) (m := bm 59 576460752295034876) (ls := []) (cs := []) (by kernel_rfl) ⟨h_x1, trivial⟩
theorem t43_h3_ok (k : Nat) (rec : S43 → Option R43) (ih : ∀ s r, rec s = some r → P43 s r) (op0 : Int) (k1 : Int) (t23 : Bool) (r : R43) (h : t43_h3 k rec op0 k1 t23 = some r) : P43 (.h3 op0 k1 t23) r := by
  unfold t43_h3 at h
  rcases bif_or h with ⟨hq, h1'⟩ | ⟨hq, h1'⟩
  · clear h; subst hq; have h := h1'; clear h1'
    rw [← Option.some.inj h]
    exact mgo_fin (nb := 0) hmix (n := 2000) (ad := []) (ps := []) (by kernel_rfl) trivial
  · clear h; subst hq; have h := h1'; clear h1'
    rcases bif_or h with ⟨h_x1, h⟩ | ⟨h_x1, h⟩
    ·
      exact mgo_at (nb := 0) hmix (ih _ _ h) (n := 3) (ad := [(some 50, .test true)]) (ps := [_]) (m := bm 59 576179277326712831) (ls := []) (cs := []) (by kernel_rfl) ⟨h_x1, trivial⟩
    ·
      rcases bif_or h with ⟨h_x2, h⟩ | ⟨h_x2, h⟩
      ·
        exact mgo_at (nb := 0) hmix (ih _ _ h) (n := 3) (ad := [(some 50, .test false), (some 53, .test true)]) (ps := [_, _]) (m := bm 59 576179277326712831) (ls := []) (cs := []) (by kernel_rfl) ⟨h_x1, h_x2, trivial⟩
      ·
        exact mgo_at (nb := 0) hmix (ih _ _ h) (n := 3) (ad := [(some 50, .test false), (some 53, .test false)]) (ps := [_, _]) (m := bm 59 576179277326712831) (ls := []) (cs := []) (by kernel_rfl) ⟨h_x1, h_x2, trivial⟩
theorem t43_h4_ok (k : Nat) (rec : S43 → Option R43) (ih : ∀ s r, rec s = some r → P43 s r) (t48 : Bool) (r : R43) (h : t43_h4 k rec t48 = some r) : P43 (.h4 t48) r := by
  unfold t43_h4 at h
  rcases bif_or h with ⟨hq, h1'⟩ | ⟨hq, h1'⟩
  · clear h; subst hq; have h := h1'; clear h1'
    rw [← Option.some.inj h]
    exact mgo_fin (nb := 0) hmix (n := 2000) (ad := []) (ps := []) (by kernel_rfl) trivial
  · clear h; subst hq; have h := h1'; clear h1'
    rw [← Option.some.inj h]
    exact mgo_fin (nb := 0) hmix (n := 2000) (ad := []) (ps := []) (by kernel_rfl) trivial
theorem ok43 : ∀ k s r, itS step43 k s = some r → P43 s r := itS_ok fun k rec ih s r h => match s, h with
  | .e op0 k1, h => t43_e_ok k rec ih op0 k1 r h
  | .h0 op0 k1 t5, h => t43_h0_ok k rec ih op0 k1 t5 r h
  | .h1 op0 k1 t5, h => t43_h1_ok k rec ih op0 k1 t5 r h
  | .h2 op0 k1 t23, h => t43_h2_ok k rec ih op0 k1 t23 r h
  | .h3 op0 k1 t23, h => t43_h3_ok k rec ih op0 k1 t23 r h
  | .h4 t48, h => t43_h4_ok k rec ih t48 r h
theorem ev43 {k : Nat} {op0 : Int} {k1 : Int} {r : R43} (h : g43 k op0 k1 = some r) : Ev Try.prog noHand 43 [.c (ic op0), .c (ic k1)] [] (res43 r) (bx43 r) := evr43 (ok43 _ _ _ h)
-- auspice/value.Result
inductive S41 where
  | e (op0 : Int) (kinds1 : Rs)
  | h0
abbrev R41 := Int
def res41 : R41 → ARes
  | r => .ret (.c (ic r))
def bx41 : R41 → List (List Cell)
  | r => []
noncomputable def t41_e (k : Nat) (rec : S41 → Option R41) (op0 : Int) (kinds1 : Rs) : Option R41 :=
  bif (kinds1.length : Int) == 1 then
    ixR kinds1 0 fun w_x2 =>
    un_i w_x2 fun x_x4 =>
    (g42 k op0 x_x4).bind fun v_x5 =>
    some v_x5
  else
    bif (kinds1.length : Int) == 2 then
      ixR kinds1 0 fun w_x3 =>
      un_i w_x3 fun x_x5 =>
      ixR kinds1 1 fun w_x6 =>
      un_i w_x6 fun x_x8 =>
      bif x_x5 == x_x8 then
        (g43 k op0 x_x5).bind fun v_x10 =>
        some v_x10
      else
        rec (.h0)
    else
      rec (.h0)
noncomputable def t41_h0 (k : Nat) (rec : S41 → Option R41) : Option R41 :=
  some 0
noncomputable def step41 (k : Nat) (rec : S41 → Option R41) : S41 → Option R41
  | .e op0 kinds1 => t41_e k rec op0 kinds1
  | .h0 => t41_h0 k rec
noncomputable def g41 (k : Nat) (op0 : Int) (kinds1 : Rs) : Option R41 := itS step41 k (.e op0 kinds1)
noncomputable def P41 : S41 → R41 → Prop
  | .e op0 kinds1, r => Fin cx41 Try.f41 [.code body41] (fr0 Try.f41 [.c (ic op0), .c (.imm kinds1)] []) (res41 r) (bx41 r)
  | .h0, r => Fin cx41 Try.f41 (kAt body41 [1, 1, 2] []) ⟨rep 28 .deadv, []⟩ (res41 r) (bx41 r)
theorem evr41 {op0 : Int} {kinds1 : Rs} {r : R41} (h : P41 (.e op0 kinds1) r) : Ev Try.prog noHand 41 [.c (ic op0), .c (.imm kinds1)] [] (res41 r) (bx41 r) := ev_of_fin (fn := Try.f41) (body := body41) (by kernel_rfl) (by kernel_rfl) (by kernel_rfl) rfl h
theorem t41_e_ok (k : Nat) (rec : S41 → Option R41) (ih : ∀ s r, rec s = some r → P41 s r) (op0 : Int) (kinds1 : Rs) (r : R41) (h : t41_e k rec op0 kinds1 = some r) : P41 (.e op0 kinds1) r := by
  unfold t41_e at h
  rcases bif_or h with ⟨h_x1, h⟩ | ⟨h_x1, h⟩
  ·
    obtain ⟨w_x2, h_x3, h⟩ := ixR_or h
    obtain ⟨x_x4, hq, h1'⟩ := un_i_or h
    clear h; subst hq; have h := h1'; clear h1'
    obtain ⟨v_x5, h_x6, h⟩ := bd_or h
    rw [← Option.some.inj h]
    exact mgo_fin (nb := 0) hmix (n := 2000) (ad := [(some 8, .test true), (some 11, .row [ic x_x4]), (some 13, .call (.ret (.c (ic v_x5))) [] false)]) (ps := [_, _, _]) (by kernel_rfl) ⟨h_x1, ix_row h_x3 rfl, (ev42 h_x6), trivial⟩
  ·
    rcases bif_or h with ⟨h_x2, h⟩ | ⟨h_x2, h⟩
    ·
      obtain ⟨w_x3, h_x4, h⟩ := ixR_or h
      obtain ⟨x_x5, hq, h1'⟩ := un_i_or h
      clear h; subst hq; have h := h1'; clear h1'
      obtain ⟨w_x6, h_x7, h⟩ := ixR_or h
      obtain ⟨x_x8, hq, h1'⟩ := un_i_or h
      clear h; subst hq; have h := h1'; clear h1'
      rcases bif_or h with ⟨h_x9, h⟩ | ⟨h_x9, h⟩
      ·
        obtain ⟨v_x10, h_x11, h⟩ := bd_or h
        rw [← Option.some.inj h]
        exact mgo_fin (nb := 0) hmix (n := 2000) (ad := [(some 8, .test false), (some 15, .test true), (some 17, .row [ic x_x5]), (some 20, .row [ic x_x8]), (some 22, .test true), (some 25, .row [ic x_x5]), (some 27, .call (.ret (.c (ic v_x10))) [] false)]) (ps := [_, _, _, _, _, _, _]) (by kernel_rfl) ⟨h_x1, h_x2, ix_row h_x4 rfl, ix_row h_x7 rfl, h_x9, ix_row h_x4 rfl, (ev43 h_x11), trivial⟩
      ·
        exact mgo_at (nb := 0) hmix (ih _ _ h) (n := 17) (ad := [(some 8, .test false), (some 15, .test true), (some 17, .row [ic x_x5]), (some 20, .row [ic x_x8]), (some 22, .test false)]) (ps := [_, _, _, _, _]) (m := bm 28 268435455) (ls := []) (cs := []) (by kernel_rfl) ⟨h_x1, h_x2, ix_row h_x4 rfl, ix_row h_x7 rfl, h_x9, trivial⟩
    ·
      exact mgo_at (nb := 0) hmix (ih _ _ h) (n := 14) (ad := [(some 8, .test false), (some 15, .test false)]) (ps := [_, _]) (m := bm 28 268435455) (ls := []) (cs := []) (by kernel_rfl) ⟨h_x1, h_x2, trivial⟩
theorem t41_h0_ok (k : Nat) (rec : S41 → Option R41) (ih : ∀ s r, rec s = some r → P41 s r) (r : R41) (h : t41_h0 k rec = some r) : P41 (.h0) r := by
  unfold t41_h0 at h
  rw [← Option.some.inj h]
  exact mgo_fin (nb := 0) hmix (n := 2000) (ad := []) (ps := []) (by kernel_rfl) trivial
theorem ok41 : ∀ k s r, itS step41 k s = some r → P41 s r := itS_ok fun k rec ih s r h => match s, h with
  | .e op0 kinds1, h => t41_e_ok k rec ih op0 kinds1 r h
  | .h0, h => t41_h0_ok k rec ih r h
theorem ev41 {k : Nat} {op0 : Int} {kinds1 : Rs} {r : R41} (h : g41 k op0 kinds1 = some r) : Ev Try.prog noHand 41 [.c (ic op0), .c (.imm kinds1)] [] (res41 r) (bx41 r) := evr41 (ok41 _ _ _ h)
-- auspice/ssa.operands
inductive S30 where
  | e (op0 : Int)
  | h0 (op0 : Int) (t3 : Bool)
  | h1 (t16 : Bool)
abbrev R30 := Int
def res30 : R30 → ARes
  | r => .ret (.c (ic r))
def bx30 : R30 → List (List Cell)
  | r => []
noncomputable def t30_e (k : Nat) (rec : S30 → Option R30) (op0 : Int) : Option R30 :=
  (g41 k op0 [[ic 1]]).bind fun v_x1 =>
  bif v_x1 != 0 then
    rec (.h0 op0 true)
  else
    (g41 k op0 [[ic 2]]).bind fun v_x4 =>
    bif v_x4 != 0 then
      rec (.h0 op0 true)
    else
      (g41 k op0 [[ic 4]]).bind fun v_x7 =>
      rec (.h0 op0 (v_x7 != 0))
noncomputable def t30_h0 (k : Nat) (rec : S30 → Option R30) (op0 : Int) (t3 : Bool) : Option R30 :=
  bif t3 then
    some 1
  else
    bif decide (op0 ≥ 1) then
      rec (.h1 (decide (op0 ≤ 14)))
    else
      rec (.h1 false)
noncomputable def t30_h1 (k : Nat) (rec : S30 → Option R30) (t16 : Bool) : Option R30 :=
  bif t16 then
    some 2
  else
    some 0
noncomputable def step30 (k : Nat) (rec : S30 → Option R30) : S30 → Option R30
  | .e op0 => t30_e k rec op0
  | .h0 op0 t3 => t30_h0 k rec op0 t3
  | .h1 t16 => t30_h1 k rec t16
noncomputable def g30 (k : Nat) (op0 : Int) : Option R30 := itS step30 k (.e op0)
noncomputable def P30 : S30 → R30 → Prop
  | .e op0, r => Fin cx30 Try.f30 [.code body30] (fr0 Try.f30 [.c (ic op0)] []) (res30 r) (bx30 r)
  | .h0 op0 t3, r => Fin cx30 Try.f30 (kAt body30 [1, 0, 0, 1, 2] []) ⟨[.c (ic op0), .deadv, .deadv, .c (bc t3)] ++ rep 19 .deadv, []⟩ (res30 r) (bx30 r)
  | .h1 t16, r => Fin cx30 Try.f30 (kAt body30 [1, 0, 0, 1, 1, 1, 2] []) ⟨rep 16 .deadv ++ [.c (bc t16)] ++ rep 6 .deadv, []⟩ (res30 r) (bx30 r)
theorem evr30 {op0 : Int} {r : R30} (h : P30 (.e op0) r) : Ev Try.prog noHand 30 [.c (ic op0)] [] (res30 r) (bx30 r) := ev_of_fin (fn := Try.f30) (body := body30) (by kernel_rfl) (by kernel_rfl) (by kernel_rfl) rfl h
theorem t30_e_ok (k : Nat) (rec : S30 → Option R30) (ih : ∀ s r, rec s = some r → P30 s r) (op0 : Int) (r : R30) (h : t30_e k rec op0 = some r) : P30 (.e op0) r := by
  unfold t30_e at h
  obtain ⟨v_x1, h_x2, h⟩ := bd_or h
  rcases bif_or h with ⟨h_x3, h⟩ | ⟨h_x3, h⟩
  ·
    exact mgo_at (nb := 0) hmix (ih _ _ h) (n := 9) (ad := [(some 6, .call (.ret (.c (ic v_x1))) [] true), (some 7, .test true)]) (ps := [_, _, _]) (m := bm 23 8388598) (ls := []) (cs := []) (by kernel_rfl) ⟨(ev41 h_x2), (rfl : true = true), h_x3, trivial⟩
  ·
    obtain ⟨v_x4, h_x5, h⟩ := bd_or h
    rcases bif_or h with ⟨h_x6, h⟩ | ⟨h_x6, h⟩
    ·
      exact mgo_at (nb := 0) hmix (ih _ _ h) (n := 12) (ad := [(some 6, .call (.ret (.c (ic v_x1))) [] true), (some 7, .test false), (some 10, .call (.ret (.c (ic v_x4))) [] true), (some 11, .test true)]) (ps := [_, _, _, _, _, _]) (m := bm 23 8388598) (ls := []) (cs := []) (by kernel_rfl) ⟨(ev41 h_x2), (rfl : true = true), h_x3, (ev41 h_x5), (rfl : true = true), h_x6, trivial⟩
    ·
      obtain ⟨v_x7, h_x8, h⟩ := bd_or h
      exact mgo_at (nb := 0) hmix (ih _ _ h) (n := 12) (ad := [(some 6, .call (.ret (.c (ic v_x1))) [] true), (some 7, .test false), (some 10, .call (.ret (.c (ic v_x4))) [] true), (some 11, .test false), (some 14, .call (.ret (.c (ic v_x7))) [] true)]) (ps := [_, _, _, _, _, _, _, _]) (m := bm 23 8388598) (ls := []) (cs := []) (by kernel_rfl) ⟨(ev41 h_x2), (rfl : true = true), h_x3, (ev41 h_x5), (rfl : true = true), h_x6, (ev41 h_x8), (rfl : true = true), trivial⟩
theorem t30_h0_ok (k : Nat) (rec : S30 → Option R30) (ih : ∀ s r, rec s = some r → P30 s r) (op0 : Int) (t3 : Bool) (r : R30) (h : t30_h0 k rec op0 t3 = some r) : P30 (.h0 op0 t3) r := by
  unfold t30_h0 at h
  rcases bif_or h with ⟨hq, h1'⟩ | ⟨hq, h1'⟩
  · clear h; subst hq; have h := h1'; clear h1'
    rw [← Option.some.inj h]
    exact mgo_fin (nb := 0) hmix (n := 2000) (ad := []) (ps := []) (by kernel_rfl) trivial
  · clear h; subst hq; have h := h1'; clear h1'
    rcases bif_or h with ⟨h_x1, h⟩ | ⟨h_x1, h⟩
    ·
      exact mgo_at (nb := 0) hmix (ih _ _ h) (n := 3) (ad := [(some 18, .test true)]) (ps := [_]) (m := bm 23 8323071) (ls := []) (cs := []) (by kernel_rfl) ⟨h_x1, trivial⟩
    ·
      exact mgo_at (nb := 0) hmix (ih _ _ h) (n := 3) (ad := [(some 18, .test false)]) (ps := [_]) (m := bm 23 8323071) (ls := []) (cs := []) (by kernel_rfl) ⟨h_x1, trivial⟩
theorem t30_h1_ok (k : Nat) (rec : S30 → Option R30) (ih : ∀ s r, rec s = some r → P30 s r) (t16 : Bool) (r : R30) (h : t30_h1 k rec t16 = some r) : P30 (.h1 t16) r := by
  unfold t30_h1 at h
  rcases bif_or h with ⟨hq, h1'⟩ | ⟨hq, h1'⟩
  · clear h; subst hq; have h := h1'; clear h1'
    rw [← Option.some.inj h]
    exact mgo_fin (nb := 0) hmix (n := 2000) (ad := []) (ps := []) (by kernel_rfl) trivial
  · clear h; subst hq; have h := h1'; clear h1'
    rw [← Option.some.inj h]
    exact mgo_fin (nb := 0) hmix (n := 2000) (ad := []) (ps := []) (by kernel_rfl) trivial
theorem ok30 : ∀ k s r, itS step30 k s = some r → P30 s r := itS_ok fun k rec ih s r h => match s, h with
  | .e op0, h => t30_e_ok k rec ih op0 r h
  | .h0 op0 t3, h => t30_h0_ok k rec ih op0 t3 r h
  | .h1 t16, h => t30_h1_ok k rec ih t16 r h
theorem ev30 {k : Nat} {op0 : Int} {r : R30} (h : g30 k op0 = some r) : Ev Try.prog noHand 30 [.c (ic op0)] [] (res30 r) (bx30 r) := evr30 (ok30 _ _ _ h)
-- auspice/auspiceref17.Operands
inductive S31 where
  | e (op0 : Int)
  | h0 (op0 : Int) (t16 : Bool)
  | h1 (t22 : Bool)
abbrev R31 := Int
def res31 : R31 → ARes
  | r => .ret (.c (ic r))
def bx31 : R31 → List (List Cell)
  | r => []
noncomputable def t31_e (k : Nat) (rec : S31 → Option R31) (op0 : Int) : Option R31 :=
  bif op0 == 6 then
    rec (.h0 op0 true)
  else
    bif op0 == 15 then
      rec (.h0 op0 true)
    else
      bif op0 == 16 then
        rec (.h0 op0 true)
      else
        rec (.h0 op0 (op0 == 17))
noncomputable def t31_h0 (k : Nat) (rec : S31 → Option R31) (op0 : Int) (t16 : Bool) : Option R31 :=
  bif t16 then
    some 1
  else
    bif decide (op0 ≥ 1) then
      rec (.h1 (decide (op0 ≤ 14)))
    else
      rec (.h1 false)
noncomputable def t31_h1 (k : Nat) (rec : S31 → Option R31) (t22 : Bool) : Option R31 :=
  bif t22 then
    some 2
  else
    some 0
noncomputable def step31 (k : Nat) (rec : S31 → Option R31) : S31 → Option R31
  | .e op0 => t31_e k rec op0
  | .h0 op0 t16 => t31_h0 k rec op0 t16
  | .h1 t22 => t31_h1 k rec t22
noncomputable def g31 (k : Nat) (op0 : Int) : Option R31 := itS step31 k (.e op0)
noncomputable def P31 : S31 → R31 → Prop
  | .e op0, r => Fin cx31 Try.f31 [.code body31] (fr0 Try.f31 [.c (ic op0)] []) (res31 r) (bx31 r)
  | .h0 op0 t16, r => Fin cx31 Try.f31 (kAt body31 [1, 0, 1, 2] []) ⟨[.c (ic op0)] ++ rep 15 .deadv ++ [.c (bc t16)] ++ rep 6 .deadv, []⟩ (res31 r) (bx31 r)
  | .h1 t22, r => Fin cx31 Try.f31 (kAt body31 [1, 1, 0, 1, 2] []) ⟨rep 22 .deadv ++ [.c (bc t22)], []⟩ (res31 r) (bx31 r)
theorem evr31 {op0 : Int} {r : R31} (h : P31 (.e op0) r) : Ev Try.prog noHand 31 [.c (ic op0)] [] (res31 r) (bx31 r) := ev_of_fin (fn := Try.f31) (body := body31) (by kernel_rfl) (by kernel_rfl) (by kernel_rfl) rfl h
theorem t31_e_ok (k : Nat) (rec : S31 → Option R31) (ih : ∀ s r, rec s = some r → P31 s r) (op0 : Int) (r : R31) (h : t31_e k rec op0 = some r) : P31 (.e op0) r := by
  unfold t31_e at h
  rcases bif_or h with ⟨h_x1, h⟩ | ⟨h_x1, h⟩
  ·
    exact mgo_at (nb := 0) hmix (ih _ _ h) (n := 5) (ad := [(some 4, .test true)]) (ps := [_]) (m := bm 23 8323070) (ls := []) (cs := []) (by kernel_rfl) ⟨h_x1, trivial⟩
  ·
    rcases bif_or h with ⟨h_x2, h⟩ | ⟨h_x2, h⟩
    ·
      exact mgo_at (nb := 0) hmix (ih _ _ h) (n := 5) (ad := [(some 4, .test false), (some 7, .test true)]) (ps := [_, _]) (m := bm 23 8323070) (ls := []) (cs := []) (by kernel_rfl) ⟨h_x1, h_x2, trivial⟩
    ·
      rcases bif_or h with ⟨h_x3, h⟩ | ⟨h_x3, h⟩
      ·
        exact mgo_at (nb := 0) hmix (ih _ _ h) (n := 5) (ad := [(some 4, .test false), (some 7, .test false), (some 11, .test true)]) (ps := [_, _, _]) (m := bm 23 8323070) (ls := []) (cs := []) (by kernel_rfl) ⟨h_x1, h_x2, h_x3, trivial⟩
      ·
        exact mgo_at (nb := 0) hmix (ih _ _ h) (n := 5) (ad := [(some 4, .test false), (some 7, .test false), (some 11, .test false)]) (ps := [_, _, _]) (m := bm 23 8323070) (ls := []) (cs := []) (by kernel_rfl) ⟨h_x1, h_x2, h_x3, trivial⟩
theorem t31_h0_ok (k : Nat) (rec : S31 → Option R31) (ih : ∀ s r, rec s = some r → P31 s r) (op0 : Int) (t16 : Bool) (r : R31) (h : t31_h0 k rec op0 t16 = some r) : P31 (.h0 op0 t16) r := by
  unfold t31_h0 at h
  rcases bif_or h with ⟨hq, h1'⟩ | ⟨hq, h1'⟩
  · clear h; subst hq; have h := h1'; clear h1'
    rw [← Option.some.inj h]
    exact mgo_fin (nb := 0) hmix (n := 2000) (ad := []) (ps := []) (by kernel_rfl) trivial
  · clear h; subst hq; have h := h1'; clear h1'
    rcases bif_or h with ⟨h_x1, h⟩ | ⟨h_x1, h⟩
    ·
      exact mgo_at (nb := 0) hmix (ih _ _ h) (n := 5) (ad := [(some 18, .test true)]) (ps := [_]) (m := bm 23 4194303) (ls := []) (cs := []) (by kernel_rfl) ⟨h_x1, trivial⟩
    ·
      exact mgo_at (nb := 0) hmix (ih _ _ h) (n := 5) (ad := [(some 18, .test false)]) (ps := [_]) (m := bm 23 4194303) (ls := []) (cs := []) (by kernel_rfl) ⟨h_x1, trivial⟩
theorem t31_h1_ok (k : Nat) (rec : S31 → Option R31) (ih : ∀ s r, rec s = some r → P31 s r) (t22 : Bool) (r : R31) (h : t31_h1 k rec t22 = some r) : P31 (.h1 t22) r := by
  unfold t31_h1 at h
  rcases bif_or h with ⟨hq, h1'⟩ | ⟨hq, h1'⟩
  · clear h; subst hq; have h := h1'; clear h1'
    rw [← Option.some.inj h]
    exact mgo_fin (nb := 0) hmix (n := 2000) (ad := []) (ps := []) (by kernel_rfl) trivial
  · clear h; subst hq; have h := h1'; clear h1'
    rw [← Option.some.inj h]
    exact mgo_fin (nb := 0) hmix (n := 2000) (ad := []) (ps := []) (by kernel_rfl) trivial
theorem ok31 : ∀ k s r, itS step31 k s = some r → P31 s r := itS_ok fun k rec ih s r h => match s, h with
  | .e op0, h => t31_e_ok k rec ih op0 r h
  | .h0 op0 t16, h => t31_h0_ok k rec ih op0 t16 r h
  | .h1 t22, h => t31_h1_ok k rec ih t22 r h
theorem ev31 {k : Nat} {op0 : Int} {r : R31} (h : g31 k op0 = some r) : Ev Try.prog noHand 31 [.c (ic op0)] [] (res31 r) (bx31 r) := evr31 (ok31 _ _ _ h)
-- auspice/auspiceref17.constant
inductive S38c where
  | e (v1_0 : Int) (v1_1 : Int) (b0_0 : Int) (b0_1 : Int) (b0_2 : Rs) (b0_3 : Rs) (b0_4 : Rs)
  | h0 (t11 : Int) (t12 : Int) (loc3_0 : Int) (loc3_1 : Int) (par0_0 : Int) (par0_1 : Int) (par0_2 : Rs) (par0_3 : Rs) (par0_4 : Rs)
abbrev R38c := Int × Int × Int × Rs × Rs × Rs
def res38c : R38c → ARes
  | (r, r_b0_0, r_b0_1, r_b0_2, r_b0_3, r_b0_4) => .ret (.c (ic r))
def bx38c : R38c → List (List Cell)
  | (r, r_b0_0, r_b0_1, r_b0_2, r_b0_3, r_b0_4) => [[ic r_b0_0, ic r_b0_1, .own 4 r_b0_2, .own 2 r_b0_3, .own 4 r_b0_4]]
noncomputable def t38c_e (k : Nat) (rec : S38c → Option R38c) (v1_0 : Int) (v1_1 : Int) (b0_0 : Int) (b0_1 : Int) (b0_2 : Rs) (b0_3 : Rs) (b0_4 : Rs) : Option R38c :=
  rec (.h0 (b0_3.length : Int) 0 v1_0 v1_1 b0_0 b0_1 b0_2 b0_3 b0_4)
noncomputable def t38c_h0 (k : Nat) (rec : S38c → Option R38c) (t11 : Int) (t12 : Int) (loc3_0 : Int) (loc3_1 : Int) (par0_0 : Int) (par0_1 : Int) (par0_2 : Rs) (par0_3 : Rs) (par0_4 : Rs) : Option R38c :=
  bif decide (t12 < t11) then
    ixR par0_3 t12 fun w_x2 =>
    un_iu w_x2 fun kind_x4 bits_x4 =>
    bif (loc3_0 == kind_x4 && (loc3_1 == bits_x4 && true)) then
      some (t12, par0_0, par0_1, par0_2, par0_3, par0_4)
    else
      rec (.h0 t11 (IntKind.i64.wrap (t12 + 1)) loc3_0 loc3_1 par0_0 par0_1 par0_2 par0_3 par0_4)
  else
    gd (apOk 16 2 par0_3 [[ic loc3_0, .val (.int .u64 loc3_1)]]) <|
    some (IntKind.i64.wrap (((par0_3 ++ [[ic loc3_0, .val (.int .u64 loc3_1)]]).length : Int) - 1), par0_0, par0_1, par0_2, par0_3 ++ [[ic loc3_0, .val (.int .u64 loc3_1)]], par0_4)
noncomputable def step38c (k : Nat) (rec : S38c → Option R38c) : S38c → Option R38c
  | .e v1_0 v1_1 b0_0 b0_1 b0_2 b0_3 b0_4 => t38c_e k rec v1_0 v1_1 b0_0 b0_1 b0_2 b0_3 b0_4
  | .h0 t11 t12 loc3_0 loc3_1 par0_0 par0_1 par0_2 par0_3 par0_4 => t38c_h0 k rec t11 t12 loc3_0 loc3_1 par0_0 par0_1 par0_2 par0_3 par0_4
noncomputable def g38c (k : Nat) (v1_0 : Int) (v1_1 : Int) (b0_0 : Int) (b0_1 : Int) (b0_2 : Rs) (b0_3 : Rs) (b0_4 : Rs) : Option R38c := itS step38c k (.e v1_0 v1_1 b0_0 b0_1 b0_2 b0_3 b0_4)
noncomputable def P38c : S38c → R38c → Prop
  | .e v1_0 v1_1 b0_0 b0_1 b0_2 b0_3 b0_4, r => Fin cx38 Try.f38 [.code body38] (fr0 Try.f38 [.c (.ptr ⟨⟨.par 0, []⟩, 0, 0⟩), .ag [ic v1_0, .val (.int .u64 v1_1)]] [[ic b0_0, ic b0_1, .own 4 b0_2, .own 2 b0_3, .own 4 b0_4]]) (res38c r) (bx38c r)
  | .h0 t11 t12 loc3_0 loc3_1 par0_0 par0_1 par0_2 par0_3 par0_4, r => Fin cx38 Try.f38 (kAt body38 [1, 0, 1, 0, 4] []) ⟨[.c (.ptr ⟨⟨.par 0, []⟩, 0, 0⟩), .deadv, .deadv, .c (.ptr ⟨⟨.loc 3, []⟩, 0, 0⟩)] ++ rep 6 .deadv ++ [.c (.ref ⟨⟨.par 0, []⟩, 0, 3⟩), .c (ic t11), .c (ic t12)] ++ rep 25 .deadv, [(.loc 3, [ic loc3_0, .val (.int .u64 loc3_1)]), (.par 0, [ic par0_0, ic par0_1, .own 4 par0_2, .own 2 par0_3, .own 4 par0_4])]⟩ (res38c r) (bx38c r)
theorem evr38c {v1_0 : Int} {v1_1 : Int} {b0_0 : Int} {b0_1 : Int} {b0_2 : Rs} {b0_3 : Rs} {b0_4 : Rs} {r : R38c} (h : P38c (.e v1_0 v1_1 b0_0 b0_1 b0_2 b0_3 b0_4) r) : Ev Try.prog noHand 38 [.c (.ptr ⟨⟨.par 0, []⟩, 0, 0⟩), .ag [ic v1_0, .val (.int .u64 v1_1)]] [[ic b0_0, ic b0_1, .own 4 b0_2, .own 2 b0_3, .own 4 b0_4]] (res38c r) (bx38c r) := ev_of_fin (fn := Try.f38) (body := body38) (by kernel_rfl) (by kernel_rfl) (by kernel_rfl) rfl h
theorem t38c_e_ok (k : Nat) (rec : S38c → Option R38c) (ih : ∀ s r, rec s = some r → P38c s r) (v1_0 : Int) (v1_1 : Int) (b0_0 : Int) (b0_1 : Int) (b0_2 : Rs) (b0_3 : Rs) (b0_4 : Rs) (r : R38c) (h : t38c_e k rec v1_0 v1_1 b0_0 b0_1 b0_2 b0_3 b0_4 = some r) : P38c (.e v1_0 v1_1 b0_0 b0_1 b0_2 b0_3 b0_4) r := by
  unfold t38c_e at h
  exact mgo_at (nb := 1) hmix (ih _ _ h) (n := 7) (ad := []) (ps := []) (m := bm 38 274877899766) (ls := []) (cs := []) (by kernel_rfl) trivial
theorem t38c_h0_ok (k : Nat) (rec : S38c → Option R38c) (ih : ∀ s r, rec s = some r → P38c s r) (t11 : Int) (t12 : Int) (loc3_0 : Int) (loc3_1 : Int) (par0_0 : Int) (par0_1 : Int) (par0_2 : Rs) (par0_3 : Rs) (par0_4 : Rs) (r : R38c) (h : t38c_h0 k rec t11 t12 loc3_0 loc3_1 par0_0 par0_1 par0_2 par0_3 par0_4 = some r) : P38c (.h0 t11 t12 loc3_0 loc3_1 par0_0 par0_1 par0_2 par0_3 par0_4) r := by
  unfold t38c_h0 at h
  rcases bif_or h with ⟨h_x1, h⟩ | ⟨h_x1, h⟩
  ·
    obtain ⟨w_x2, h_x3, h⟩ := ixR_or h
    obtain ⟨kind_x4, bits_x4, hq, h1'⟩ := un_iu_or h
    clear h; subst hq; have h := h1'; clear h1'
    rcases bif_or h with ⟨h_x5, h⟩ | ⟨h_x5, h⟩
    ·
      rw [← Option.some.inj h]
      exact mgo_fin (nb := 1) hmix (n := 2000) (ad := [(some 13, .test true), (some 15, .bnd), (some 16, .ld [ic kind_x4, .val (.int .u64 bits_x4)]), (some 19, .test true)]) (ps := [_, _, _, _]) (by kernel_rfl) ⟨h_x1, ix_bnd h_x3, h_x3.2, h_x5, trivial⟩
    ·
      exact mgo_at (nb := 1) hmix (ih _ _ h) (n := 16) (ad := [(some 13, .test true), (some 15, .bnd), (some 16, .ld [ic kind_x4, .val (.int .u64 bits_x4)]), (some 19, .test false)]) (ps := [_, _, _, _]) (m := bm 38 274877899766) (ls := [6]) (cs := []) (by kernel_rfl) ⟨h_x1, ix_bnd h_x3, h_x3.2, h_x5, trivial⟩
  ·
    obtain ⟨h_x2, h⟩ := gd_or h
    rw [← Option.some.inj h]
    exact mgo_fin (nb := 1) hmix (n := 2000) (ad := [(some 13, .test false), (some 29, .okE false)]) (ps := [_, _]) (by kernel_rfl) ⟨h_x1, okF [[ic loc3_0, .val (.int .u64 loc3_1)]] h_x2, trivial⟩
theorem ok38c : ∀ k s r, itS step38c k s = some r → P38c s r := itS_ok fun k rec ih s r h => match s, h with
  | .e v1_0 v1_1 b0_0 b0_1 b0_2 b0_3 b0_4, h => t38c_e_ok k rec ih v1_0 v1_1 b0_0 b0_1 b0_2 b0_3 b0_4 r h
  | .h0 t11 t12 loc3_0 loc3_1 par0_0 par0_1 par0_2 par0_3 par0_4, h => t38c_h0_ok k rec ih t11 t12 loc3_0 loc3_1 par0_0 par0_1 par0_2 par0_3 par0_4 r h
theorem ev38c {k : Nat} {v1_0 : Int} {v1_1 : Int} {b0_0 : Int} {b0_1 : Int} {b0_2 : Rs} {b0_3 : Rs} {b0_4 : Rs} {r : R38c} (h : g38c k v1_0 v1_1 b0_0 b0_1 b0_2 b0_3 b0_4 = some r) : Ev Try.prog noHand 38 [.c (.ptr ⟨⟨.par 0, []⟩, 0, 0⟩), .ag [ic v1_0, .val (.int .u64 v1_1)]] [[ic b0_0, ic b0_1, .own 4 b0_2, .own 2 b0_3, .own 4 b0_4]] (res38c r) (bx38c r) := evr38c (ok38c _ _ _ h)
-- auspice/auspiceref17.input
inductive S37c where
  | e (x1_0 : Int) (x1_1 : Int) (x1_2 : Int) (x1_3 : Int) (b0_0 : Int) (b0_1 : Int) (b0_2 : Rs) (b0_3 : Rs) (b0_4 : Rs)
  | h0 (t11 : Int) (t12 : Int) (loc3_0 : Int) (loc3_1 : Int) (loc3_2 : Int) (loc3_3 : Int) (par0_0 : Int) (par0_1 : Int) (par0_2 : Rs) (par0_3 : Rs) (par0_4 : Rs)
abbrev R37c := Int × Int × Int × Rs × Rs × Rs
def res37c : R37c → ARes
  | (r, r_b0_0, r_b0_1, r_b0_2, r_b0_3, r_b0_4) => .ret (.c (ic r))
def bx37c : R37c → List (List Cell)
  | (r, r_b0_0, r_b0_1, r_b0_2, r_b0_3, r_b0_4) => [[ic r_b0_0, ic r_b0_1, .own 4 r_b0_2, .own 2 r_b0_3, .own 4 r_b0_4]]
noncomputable def t37c_e (k : Nat) (rec : S37c → Option R37c) (x1_0 : Int) (x1_1 : Int) (x1_2 : Int) (x1_3 : Int) (b0_0 : Int) (b0_1 : Int) (b0_2 : Rs) (b0_3 : Rs) (b0_4 : Rs) : Option R37c :=
  rec (.h0 (b0_2.length : Int) 0 x1_0 x1_1 x1_2 x1_3 b0_0 b0_1 b0_2 b0_3 b0_4)
noncomputable def t37c_h0 (k : Nat) (rec : S37c → Option R37c) (t11 : Int) (t12 : Int) (loc3_0 : Int) (loc3_1 : Int) (loc3_2 : Int) (loc3_3 : Int) (par0_0 : Int) (par0_1 : Int) (par0_2 : Rs) (par0_3 : Rs) (par0_4 : Rs) : Option R37c :=
  bif decide (t12 < t11) then
    ixR par0_2 t12 fun w_x2 =>
    un_i4 w_x2 fun op_x4 kind_x4 pos_x4 attr_x4 =>
    bif (loc3_0 == op_x4 && (loc3_1 == kind_x4 && (loc3_2 == pos_x4 && (loc3_3 == attr_x4 && true)))) then
      some (t12, par0_0, par0_1, par0_2, par0_3, par0_4)
    else
      rec (.h0 t11 (IntKind.i64.wrap (t12 + 1)) loc3_0 loc3_1 loc3_2 loc3_3 par0_0 par0_1 par0_2 par0_3 par0_4)
  else
    gd (apOk 32 4 par0_2 [[ic loc3_0, ic loc3_1, ic loc3_2, ic loc3_3]]) <|
    some (IntKind.i64.wrap (((par0_2 ++ [[ic loc3_0, ic loc3_1, ic loc3_2, ic loc3_3]]).length : Int) - 1), par0_0, par0_1, par0_2 ++ [[ic loc3_0, ic loc3_1, ic loc3_2, ic loc3_3]], par0_3, par0_4)
noncomputable def step37c (k : Nat) (rec : S37c → Option R37c) : S37c → Option R37c
  | .e x1_0 x1_1 x1_2 x1_3 b0_0 b0_1 b0_2 b0_3 b0_4 => t37c_e k rec x1_0 x1_1 x1_2 x1_3 b0_0 b0_1 b0_2 b0_3 b0_4
  | .h0 t11 t12 loc3_0 loc3_1 loc3_2 loc3_3 par0_0 par0_1 par0_2 par0_3 par0_4 => t37c_h0 k rec t11 t12 loc3_0 loc3_1 loc3_2 loc3_3 par0_0 par0_1 par0_2 par0_3 par0_4
noncomputable def g37c (k : Nat) (x1_0 : Int) (x1_1 : Int) (x1_2 : Int) (x1_3 : Int) (b0_0 : Int) (b0_1 : Int) (b0_2 : Rs) (b0_3 : Rs) (b0_4 : Rs) : Option R37c := itS step37c k (.e x1_0 x1_1 x1_2 x1_3 b0_0 b0_1 b0_2 b0_3 b0_4)
noncomputable def P37c : S37c → R37c → Prop
  | .e x1_0 x1_1 x1_2 x1_3 b0_0 b0_1 b0_2 b0_3 b0_4, r => Fin cx37 Try.f37 [.code body37] (fr0 Try.f37 [.c (.ptr ⟨⟨.par 0, []⟩, 0, 0⟩), .ag [ic x1_0, ic x1_1, ic x1_2, ic x1_3]] [[ic b0_0, ic b0_1, .own 4 b0_2, .own 2 b0_3, .own 4 b0_4]]) (res37c r) (bx37c r)
  | .h0 t11 t12 loc3_0 loc3_1 loc3_2 loc3_3 par0_0 par0_1 par0_2 par0_3 par0_4, r => Fin cx37 Try.f37 (kAt body37 [1, 0, 1, 0, 4] []) ⟨[.c (.ptr ⟨⟨.par 0, []⟩, 0, 0⟩), .deadv, .deadv, .c (.ptr ⟨⟨.loc 3, []⟩, 0, 0⟩)] ++ rep 6 .deadv ++ [.c (.ref ⟨⟨.par 0, []⟩, 0, 2⟩), .c (ic t11), .c (ic t12)] ++ rep 25 .deadv, [(.loc 3, [ic loc3_0, ic loc3_1, ic loc3_2, ic loc3_3]), (.par 0, [ic par0_0, ic par0_1, .own 4 par0_2, .own 2 par0_3, .own 4 par0_4])]⟩ (res37c r) (bx37c r)
theorem evr37c {x1_0 : Int} {x1_1 : Int} {x1_2 : Int} {x1_3 : Int} {b0_0 : Int} {b0_1 : Int} {b0_2 : Rs} {b0_3 : Rs} {b0_4 : Rs} {r : R37c} (h : P37c (.e x1_0 x1_1 x1_2 x1_3 b0_0 b0_1 b0_2 b0_3 b0_4) r) : Ev Try.prog noHand 37 [.c (.ptr ⟨⟨.par 0, []⟩, 0, 0⟩), .ag [ic x1_0, ic x1_1, ic x1_2, ic x1_3]] [[ic b0_0, ic b0_1, .own 4 b0_2, .own 2 b0_3, .own 4 b0_4]] (res37c r) (bx37c r) := ev_of_fin (fn := Try.f37) (body := body37) (by kernel_rfl) (by kernel_rfl) (by kernel_rfl) rfl h
theorem t37c_e_ok (k : Nat) (rec : S37c → Option R37c) (ih : ∀ s r, rec s = some r → P37c s r) (x1_0 : Int) (x1_1 : Int) (x1_2 : Int) (x1_3 : Int) (b0_0 : Int) (b0_1 : Int) (b0_2 : Rs) (b0_3 : Rs) (b0_4 : Rs) (r : R37c) (h : t37c_e k rec x1_0 x1_1 x1_2 x1_3 b0_0 b0_1 b0_2 b0_3 b0_4 = some r) : P37c (.e x1_0 x1_1 x1_2 x1_3 b0_0 b0_1 b0_2 b0_3 b0_4) r := by
  unfold t37c_e at h
  exact mgo_at (nb := 1) hmix (ih _ _ h) (n := 7) (ad := []) (ps := []) (m := bm 38 274877899766) (ls := []) (cs := []) (by kernel_rfl) trivial
theorem t37c_h0_ok (k : Nat) (rec : S37c → Option R37c) (ih : ∀ s r, rec s = some r → P37c s r) (t11 : Int) (t12 : Int) (loc3_0 : Int) (loc3_1 : Int) (loc3_2 : Int) (loc3_3 : Int) (par0_0 : Int) (par0_1 : Int) (par0_2 : Rs) (par0_3 : Rs) (par0_4 : Rs) (r : R37c) (h : t37c_h0 k rec t11 t12 loc3_0 loc3_1 loc3_2 loc3_3 par0_0 par0_1 par0_2 par0_3 par0_4 = some r) : P37c (.h0 t11 t12 loc3_0 loc3_1 loc3_2 loc3_3 par0_0 par0_1 par0_2 par0_3 par0_4) r := by
  unfold t37c_h0 at h
  rcases bif_or h with ⟨h_x1, h⟩ | ⟨h_x1, h⟩
  ·
    obtain ⟨w_x2, h_x3, h⟩ := ixR_or h
    obtain ⟨op_x4, kind_x4, pos_x4, attr_x4, hq, h1'⟩ := un_i4_or h
    clear h; subst hq; have h := h1'; clear h1'
    rcases bif_or h with ⟨h_x5, h⟩ | ⟨h_x5, h⟩
    ·
      rw [← Option.some.inj h]
      exact mgo_fin (nb := 1) hmix (n := 2000) (ad := [(some 13, .test true), (some 15, .bnd), (some 16, .ld [ic op_x4, ic kind_x4, ic pos_x4, ic attr_x4]), (some 19, .test true)]) (ps := [_, _, _, _]) (by kernel_rfl) ⟨h_x1, ix_bnd h_x3, h_x3.2, h_x5, trivial⟩
    ·
      exact mgo_at (nb := 1) hmix (ih _ _ h) (n := 16) (ad := [(some 13, .test true), (some 15, .bnd), (some 16, .ld [ic op_x4, ic kind_x4, ic pos_x4, ic attr_x4]), (some 19, .test false)]) (ps := [_, _, _, _]) (m := bm 38 274877899766) (ls := [6]) (cs := []) (by kernel_rfl) ⟨h_x1, ix_bnd h_x3, h_x3.2, h_x5, trivial⟩
  ·
    obtain ⟨h_x2, h⟩ := gd_or h
    rw [← Option.some.inj h]
    exact mgo_fin (nb := 1) hmix (n := 2000) (ad := [(some 13, .test false), (some 29, .okE false)]) (ps := [_, _]) (by kernel_rfl) ⟨h_x1, okF [[ic loc3_0, ic loc3_1, ic loc3_2, ic loc3_3]] h_x2, trivial⟩
theorem ok37c : ∀ k s r, itS step37c k s = some r → P37c s r := itS_ok fun k rec ih s r h => match s, h with
  | .e x1_0 x1_1 x1_2 x1_3 b0_0 b0_1 b0_2 b0_3 b0_4, h => t37c_e_ok k rec ih x1_0 x1_1 x1_2 x1_3 b0_0 b0_1 b0_2 b0_3 b0_4 r h
  | .h0 t11 t12 loc3_0 loc3_1 loc3_2 loc3_3 par0_0 par0_1 par0_2 par0_3 par0_4, h => t37c_h0_ok k rec ih t11 t12 loc3_0 loc3_1 loc3_2 loc3_3 par0_0 par0_1 par0_2 par0_3 par0_4 r h
theorem ev37c {k : Nat} {x1_0 : Int} {x1_1 : Int} {x1_2 : Int} {x1_3 : Int} {b0_0 : Int} {b0_1 : Int} {b0_2 : Rs} {b0_3 : Rs} {b0_4 : Rs} {r : R37c} (h : g37c k x1_0 x1_1 x1_2 x1_3 b0_0 b0_1 b0_2 b0_3 b0_4 = some r) : Ev Try.prog noHand 37 [.c (.ptr ⟨⟨.par 0, []⟩, 0, 0⟩), .ag [ic x1_0, ic x1_1, ic x1_2, ic x1_3]] [[ic b0_0, ic b0_1, .own 4 b0_2, .own 2 b0_3, .own 4 b0_4]] (res37c r) (bx37c r) := evr37c (ok37c _ _ _ h)
-- auspice/auspiceref17.Same
inductive S13 where
  | e (a0_0 : Int) (a0_1 : Int) (a0_2 : Rs) (a0_3 : Rs) (a0_4 : Rs) (b1_0 : Int) (b1_1 : Int) (b1_2 : Rs) (b1_3 : Rs) (b1_4 : Rs)
  | h0 (t46 : Bool) (loc3_0 : Int) (loc3_1 : Int) (loc3_2 : Rs) (loc3_3 : Rs) (loc3_4 : Rs) (loc2_0 : Int) (loc2_1 : Int) (loc2_2 : Rs) (loc2_3 : Rs) (loc2_4 : Rs)
  | h1 (t49 : Int) (t50 : Int) (loc3_0 : Int) (loc3_1 : Int) (loc3_2 : Rs) (loc3_3 : Rs) (loc3_4 : Rs) (loc2_0 : Int) (loc2_1 : Int) (loc2_2 : Rs) (loc2_3 : Rs) (loc2_4 : Rs)
  | h2 (t67 : Int) (t68 : Int) (loc3_0 : Int) (loc3_1 : Int) (loc3_2 : Rs) (loc3_3 : Rs) (loc3_4 : Rs) (loc2_0 : Int) (loc2_1 : Int) (loc2_2 : Rs) (loc2_3 : Rs) (loc2_4 : Rs)
  | h3 (t85 : Int) (t86 : Int) (loc3_0 : Int) (loc3_1 : Int) (loc3_2 : Rs) (loc3_3 : Rs) (loc3_4 : Rs) (loc2_0 : Int) (loc2_1 : Int) (loc2_2 : Rs) (loc2_3 : Rs) (loc2_4 : Rs)
abbrev R13 := Bool
def res13 : R13 → ARes
  | r => .ret (.c (bc r))
def bx13 : R13 → List (List Cell)
  | r => []
noncomputable def t13_e (k : Nat) (rec : S13 → Option R13) (a0_0 : Int) (a0_1 : Int) (a0_2 : Rs) (a0_3 : Rs) (a0_4 : Rs) (b1_0 : Int) (b1_1 : Int) (b1_2 : Rs) (b1_3 : Rs) (b1_4 : Rs) : Option R13 :=
  bif a0_0 != b1_0 then
    rec (.h0 true b1_0 b1_1 b1_2 b1_3 b1_4 a0_0 a0_1 a0_2 a0_3 a0_4)
  else
    bif a0_1 != b1_1 then
      rec (.h0 true b1_0 b1_1 b1_2 b1_3 b1_4 a0_0 a0_1 a0_2 a0_3 a0_4)
    else
      bif (a0_2.length : Int) != (b1_2.length : Int) then
        rec (.h0 true b1_0 b1_1 b1_2 b1_3 b1_4 a0_0 a0_1 a0_2 a0_3 a0_4)
      else
        bif (a0_3.length : Int) != (b1_3.length : Int) then
          rec (.h0 true b1_0 b1_1 b1_2 b1_3 b1_4 a0_0 a0_1 a0_2 a0_3 a0_4)
        else
          rec (.h0 ((a0_4.length : Int) != (b1_4.length : Int)) b1_0 b1_1 b1_2 b1_3 b1_4 a0_0 a0_1 a0_2 a0_3 a0_4)
noncomputable def t13_h0 (k : Nat) (rec : S13 → Option R13) (t46 : Bool) (loc3_0 : Int) (loc3_1 : Int) (loc3_2 : Rs) (loc3_3 : Rs) (loc3_4 : Rs) (loc2_0 : Int) (loc2_1 : Int) (loc2_2 : Rs) (loc2_3 : Rs) (loc2_4 : Rs) : Option R13 :=
  bif t46 then
    some false
  else
    rec (.h1 (loc2_2.length : Int) 0 loc3_0 loc3_1 loc3_2 loc3_3 loc3_4 loc2_0 loc2_1 loc2_2 loc2_3 loc2_4)
noncomputable def t13_h1 (k : Nat) (rec : S13 → Option R13) (t49 : Int) (t50 : Int) (loc3_0 : Int) (loc3_1 : Int) (loc3_2 : Rs) (loc3_3 : Rs) (loc3_4 : Rs) (loc2_0 : Int) (loc2_1 : Int) (loc2_2 : Rs) (loc2_3 : Rs) (loc2_4 : Rs) : Option R13 :=
  bif decide (t50 < t49) then
    ixR loc2_2 t50 fun w_x2 =>
    un_i4 w_x2 fun op_x4 kind_x4 pos_x4 attr_x4 =>
    ixR loc3_2 t50 fun w_x5 =>
    un_i4 w_x5 fun op_x7 kind_x7 pos_x7 attr_x7 =>
    bif !(op_x4 == op_x7 && (kind_x4 == kind_x7 && (pos_x4 == pos_x7 && (attr_x4 == attr_x7 && true)))) then
      some false
    else
      rec (.h1 t49 (IntKind.i64.wrap (t50 + 1)) loc3_0 loc3_1 loc3_2 loc3_3 loc3_4 loc2_0 loc2_1 loc2_2 loc2_3 loc2_4)
  else
    rec (.h2 (loc2_3.length : Int) 0 loc3_0 loc3_1 loc3_2 loc3_3 loc3_4 loc2_0 loc2_1 loc2_2 loc2_3 loc2_4)
noncomputable def t13_h2 (k : Nat) (rec : S13 → Option R13) (t67 : Int) (t68 : Int) (loc3_0 : Int) (loc3_1 : Int) (loc3_2 : Rs) (loc3_3 : Rs) (loc3_4 : Rs) (loc2_0 : Int) (loc2_1 : Int) (loc2_2 : Rs) (loc2_3 : Rs) (loc2_4 : Rs) : Option R13 :=
  bif decide (t68 < t67) then
    ixR loc2_3 t68 fun w_x2 =>
    un_iu w_x2 fun kind_x4 bits_x4 =>
    ixR loc3_3 t68 fun w_x5 =>
    un_iu w_x5 fun kind_x7 bits_x7 =>
    bif !(kind_x4 == kind_x7 && (bits_x4 == bits_x7 && true)) then
      some false
    else
      rec (.h2 t67 (IntKind.i64.wrap (t68 + 1)) loc3_0 loc3_1 loc3_2 loc3_3 loc3_4 loc2_0 loc2_1 loc2_2 loc2_3 loc2_4)
  else
    rec (.h3 (loc2_4.length : Int) 0 loc3_0 loc3_1 loc3_2 loc3_3 loc3_4 loc2_0 loc2_1 loc2_2 loc2_3 loc2_4)
noncomputable def t13_h3 (k : Nat) (rec : S13 → Option R13) (t85 : Int) (t86 : Int) (loc3_0 : Int) (loc3_1 : Int) (loc3_2 : Rs) (loc3_3 : Rs) (loc3_4 : Rs) (loc2_0 : Int) (loc2_1 : Int) (loc2_2 : Rs) (loc2_3 : Rs) (loc2_4 : Rs) : Option R13 :=
  bif decide (t86 < t85) then
    ixR loc2_4 t86 fun w_x2 =>
    un_i4 w_x2 fun op_x4 dst_x4 a_x4 b_x4 =>
    ixR loc3_4 t86 fun w_x5 =>
    un_i4 w_x5 fun op_x7 dst_x7 a_x7 b_x7 =>
    bif !(op_x4 == op_x7 && (dst_x4 == dst_x7 && (a_x4 == a_x7 && (b_x4 == b_x7 && true)))) then
      some false
    else
      rec (.h3 t85 (IntKind.i64.wrap (t86 + 1)) loc3_0 loc3_1 loc3_2 loc3_3 loc3_4 loc2_0 loc2_1 loc2_2 loc2_3 loc2_4)
  else
    some true
noncomputable def step13 (k : Nat) (rec : S13 → Option R13) : S13 → Option R13
  | .e a0_0 a0_1 a0_2 a0_3 a0_4 b1_0 b1_1 b1_2 b1_3 b1_4 => t13_e k rec a0_0 a0_1 a0_2 a0_3 a0_4 b1_0 b1_1 b1_2 b1_3 b1_4
  | .h0 t46 loc3_0 loc3_1 loc3_2 loc3_3 loc3_4 loc2_0 loc2_1 loc2_2 loc2_3 loc2_4 => t13_h0 k rec t46 loc3_0 loc3_1 loc3_2 loc3_3 loc3_4 loc2_0 loc2_1 loc2_2 loc2_3 loc2_4
  | .h1 t49 t50 loc3_0 loc3_1 loc3_2 loc3_3 loc3_4 loc2_0 loc2_1 loc2_2 loc2_3 loc2_4 => t13_h1 k rec t49 t50 loc3_0 loc3_1 loc3_2 loc3_3 loc3_4 loc2_0 loc2_1 loc2_2 loc2_3 loc2_4
  | .h2 t67 t68 loc3_0 loc3_1 loc3_2 loc3_3 loc3_4 loc2_0 loc2_1 loc2_2 loc2_3 loc2_4 => t13_h2 k rec t67 t68 loc3_0 loc3_1 loc3_2 loc3_3 loc3_4 loc2_0 loc2_1 loc2_2 loc2_3 loc2_4
  | .h3 t85 t86 loc3_0 loc3_1 loc3_2 loc3_3 loc3_4 loc2_0 loc2_1 loc2_2 loc2_3 loc2_4 => t13_h3 k rec t85 t86 loc3_0 loc3_1 loc3_2 loc3_3 loc3_4 loc2_0 loc2_1 loc2_2 loc2_3 loc2_4
noncomputable def g13 (k : Nat) (a0_0 : Int) (a0_1 : Int) (a0_2 : Rs) (a0_3 : Rs) (a0_4 : Rs) (b1_0 : Int) (b1_1 : Int) (b1_2 : Rs) (b1_3 : Rs) (b1_4 : Rs) : Option R13 := itS step13 k (.e a0_0 a0_1 a0_2 a0_3 a0_4 b1_0 b1_1 b1_2 b1_3 b1_4)
noncomputable def P13 : S13 → R13 → Prop
  | .e a0_0 a0_1 a0_2 a0_3 a0_4 b1_0 b1_1 b1_2 b1_3 b1_4, r => Fin cx13 Try.f13 [.code body13] (fr0 Try.f13 [.ag [ic a0_0, ic a0_1, .imm a0_2, .imm a0_3, .imm a0_4], .ag [ic b1_0, ic b1_1, .imm b1_2, .imm b1_3, .imm b1_4]] []) (res13 r) (bx13 r)
  | .h0 t46 loc3_0 loc3_1 loc3_2 loc3_3 loc3_4 loc2_0 loc2_1 loc2_2 loc2_3 loc2_4, r => Fin cx13 Try.f13 (kAt body13 [1, 0, 1, 2] []) ⟨[.deadv, .deadv, .c (.ptr ⟨⟨.loc 2, []⟩, 0, 0⟩), .c (.ptr ⟨⟨.loc 3, []⟩, 0, 0⟩)] ++ rep 42 .deadv ++ [.c (bc t46)] ++ rep 54 .deadv, [(.loc 3, [ic loc3_0, ic loc3_1, .imm loc3_2, .imm loc3_3, .imm loc3_4]), (.loc 2, [ic loc2_0, ic loc2_1, .imm loc2_2, .imm loc2_3, .imm loc2_4])]⟩ (res13 r) (bx13 r)
  | .h1 t49 t50 loc3_0 loc3_1 loc3_2 loc3_3 loc3_4 loc2_0 loc2_1 loc2_2 loc2_3 loc2_4, r => Fin cx13 Try.f13 (kAt body13 [1, 1, 0, 1, 0, 4] []) ⟨[.deadv, .deadv, .c (.ptr ⟨⟨.loc 2, []⟩, 0, 0⟩), .c (.ptr ⟨⟨.loc 3, []⟩, 0, 0⟩)] ++ rep 45 .deadv ++ [.c (ic t49), .c (ic t50)] ++ rep 50 .deadv, [(.loc 3, [ic loc3_0, ic loc3_1, .imm loc3_2, .imm loc3_3, .imm loc3_4]), (.loc 2, [ic loc2_0, ic loc2_1, .imm loc2_2, .imm loc2_3, .imm loc2_4])]⟩ (res13 r) (bx13 r)
  | .h2 t67 t68 loc3_0 loc3_1 loc3_2 loc3_3 loc3_4 loc2_0 loc2_1 loc2_2 loc2_3 loc2_4, r => Fin cx13 Try.f13 (kAt body13 [1, 1, 1, 0, 1, 0, 4] []) ⟨[.deadv, .deadv, .c (.ptr ⟨⟨.loc 2, []⟩, 0, 0⟩), .c (.ptr ⟨⟨.loc 3, []⟩, 0, 0⟩)] ++ rep 63 .deadv ++ [.c (ic t67), .c (ic t68)] ++ rep 32 .deadv, [(.loc 3, [ic loc3_0, ic loc3_1, .imm loc3_2, .imm loc3_3, .imm loc3_4]), (.loc 2, [ic loc2_0, ic loc2_1, .imm loc2_2, .imm loc2_3, .imm loc2_4])]⟩ (res13 r) (bx13 r)
  | .h3 t85 t86 loc3_0 loc3_1 loc3_2 loc3_3 loc3_4 loc2_0 loc2_1 loc2_2 loc2_3 loc2_4, r => Fin cx13 Try.f13 (kAt body13 [1, 1, 1, 1, 0, 1, 0, 4] []) ⟨[.deadv, .deadv, .c (.ptr ⟨⟨.loc 2, []⟩, 0, 0⟩), .c (.ptr ⟨⟨.loc 3, []⟩, 0, 0⟩)] ++ rep 81 .deadv ++ [.c (ic t85), .c (ic t86)] ++ rep 14 .deadv, [(.loc 3, [ic loc3_0, ic loc3_1, .imm loc3_2, .imm loc3_3, .imm loc3_4]), (.loc 2, [ic loc2_0, ic loc2_1, .imm loc2_2, .imm loc2_3, .imm loc2_4])]⟩ (res13 r) (bx13 r)
theorem evr13 {a0_0 : Int} {a0_1 : Int} {a0_2 : Rs} {a0_3 : Rs} {a0_4 : Rs} {b1_0 : Int} {b1_1 : Int} {b1_2 : Rs} {b1_3 : Rs} {b1_4 : Rs} {r : R13} (h : P13 (.e a0_0 a0_1 a0_2 a0_3 a0_4 b1_0 b1_1 b1_2 b1_3 b1_4) r) : Ev Try.prog noHand 13 [.ag [ic a0_0, ic a0_1, .imm a0_2, .imm a0_3, .imm a0_4], .ag [ic b1_0, ic b1_1, .imm b1_2, .imm b1_3, .imm b1_4]] [] (res13 r) (bx13 r) := ev_of_fin (fn := Try.f13) (body := body13) (by kernel_rfl) (by kernel_rfl) (by kernel_rfl) rfl h
theorem t13_e_ok (k : Nat) (rec : S13 → Option R13) (ih : ∀ s r, rec s = some r → P13 s r) (a0_0 : Int) (a0_1 : Int) (a0_2 : Rs) (a0_3 : Rs) (a0_4 : Rs) (b1_0 : Int) (b1_1 : Int) (b1_2 : Rs) (b1_3 : Rs) (b1_4 : Rs) (r : R13) (h : t13_e k rec a0_0 a0_1 a0_2 a0_3 a0_4 b1_0 b1_1 b1_2 b1_3 b1_4 = some r) : P13 (.e a0_0 a0_1 a0_2 a0_3 a0_4 b1_0 b1_1 b1_2 b1_3 b1_4) r := by
  unfold t13_e at h
  rcases bif_or h with ⟨h_x1, h⟩ | ⟨h_x1, h⟩
  ·
    exact mgo_at (nb := 0) hmix (ih _ _ h) (n := 5) (ad := [(some 12, .test true)]) (ps := [_]) (m := bm 101 2535301200456458732624662233075) (ls := []) (cs := []) (by kernel_rfl) ⟨h_x1, trivial⟩
  ·
    rcases bif_or h with ⟨h_x2, h⟩ | ⟨h_x2, h⟩
    ·
      exact mgo_at (nb := 0) hmix (ih _ _ h) (n := 5) (ad := [(some 12, .test false), (some 18, .test true)]) (ps := [_, _]) (m := bm 101 2535301200456458732624662233075) (ls := []) (cs := []) (by kernel_rfl) ⟨h_x1, h_x2, trivial⟩
    ·
      rcases bif_or h with ⟨h_x3, h⟩ | ⟨h_x3, h⟩
      ·
        exact mgo_at (nb := 0) hmix (ih _ _ h) (n := 5) (ad := [(some 12, .test false), (some 18, .test false), (some 27, .test true)]) (ps := [_, _, _]) (m := bm 101 2535301200456458732624662233075) (ls := []) (cs := []) (by kernel_rfl) ⟨h_x1, h_x2, h_x3, trivial⟩
      ·
        rcases bif_or h with ⟨h_x4, h⟩ | ⟨h_x4, h⟩
        ·
          exact mgo_at (nb := 0) hmix (ih _ _ h) (n := 5) (ad := [(some 12, .test false), (some 18, .test false), (some 27, .test false), (some 36, .test true)]) (ps := [_, _, _, _]) (m := bm 101 2535301200456458732624662233075) (ls := []) (cs := []) (by kernel_rfl) ⟨h_x1, h_x2, h_x3, h_x4, trivial⟩
        ·
          exact mgo_at (nb := 0) hmix (ih _ _ h) (n := 5) (ad := [(some 12, .test false), (some 18, .test false), (some 27, .test false), (some 36, .test false)]) (ps := [_, _, _, _]) (m := bm 101 2535301200456458732624662233075) (ls := []) (cs := []) (by kernel_rfl) ⟨h_x1, h_x2, h_x3, h_x4, trivial⟩
theorem t13_h0_ok (k : Nat) (rec : S13 → Option R13) (ih : ∀ s r, rec s = some r → P13 s r) (t46 : Bool) (loc3_0 : Int) (loc3_1 : Int) (loc3_2 : Rs) (loc3_3 : Rs) (loc3_4 : Rs) (loc2_0 : Int) (loc2_1 : Int) (loc2_2 : Rs) (loc2_3 : Rs) (loc2_4 : Rs) (r : R13) (h : t13_h0 k rec t46 loc3_0 loc3_1 loc3_2 loc3_3 loc3_4 loc2_0 loc2_1 loc2_2 loc2_3 loc2_4 = some r) : P13 (.h0 t46 loc3_0 loc3_1 loc3_2 loc3_3 loc3_4 loc2_0 loc2_1 loc2_2 loc2_3 loc2_4) r := by
  unfold t13_h0 at h
  rcases bif_or h with ⟨hq, h1'⟩ | ⟨hq, h1'⟩
  · clear h; subst hq; have h := h1'; clear h1'
    rw [← Option.some.inj h]
    exact mgo_fin (nb := 0) hmix (n := 2000) (ad := []) (ps := []) (by kernel_rfl) trivial
  · clear h; subst hq; have h := h1'; clear h1'
    exact mgo_at (nb := 0) hmix (ih _ _ h) (n := 7) (ad := []) (ps := []) (m := bm 101 2535301200456457114143546146803) (ls := []) (cs := []) (by kernel_rfl) trivial
theorem t13_h1_ok (k : Nat) (rec : S13 → Option R13) (ih : ∀ s r, rec s = some r → P13 s r) (t49 : Int) (t50 : Int) (loc3_0 : Int) (loc3_1 : Int) (loc3_2 : Rs) (loc3_3 : Rs) (loc3_4 : Rs) (loc2_0 : Int) (loc2_1 : Int) (loc2_2 : Rs) (loc2_3 : Rs) (loc2_4 : Rs) (r : R13) (h : t13_h1 k rec t49 t50 loc3_0 loc3_1 loc3_2 loc3_3 loc3_4 loc2_0 loc2_1 loc2_2 loc2_3 loc2_4 = some r) : P13 (.h1 t49 t50 loc3_0 loc3_1 loc3_2 loc3_3 loc3_4 loc2_0 loc2_1 loc2_2 loc2_3 loc2_4) r := by
  unfold t13_h1 at h
  rcases bif_or h with ⟨h_x1, h⟩ | ⟨h_x1, h⟩
  ·
    obtain ⟨w_x2, h_x3, h⟩ := ixR_or h
    obtain ⟨op_x4, kind_x4, pos_x4, attr_x4, hq, h1'⟩ := un_i4_or h
    clear h; subst hq; have h := h1'; clear h1'
    obtain ⟨w_x5, h_x6, h⟩ := ixR_or h
    obtain ⟨op_x7, kind_x7, pos_x7, attr_x7, hq, h1'⟩ := un_i4_or h
    clear h; subst hq; have h := h1'; clear h1'
    rcases bif_or h with ⟨h_x8, h⟩ | ⟨h_x8, h⟩
    ·
      rw [← Option.some.inj h]
      exact mgo_fin (nb := 0) hmix (n := 2000) (ad := [(some 51, .test true), (some 56, .row [ic op_x4, ic kind_x4, ic pos_x4, ic attr_x4]), (some 61, .row [ic op_x7, ic kind_x7, ic pos_x7, ic attr_x7]), (some 63, .test true)]) (ps := [_, _, _, _]) (by kernel_rfl) ⟨h_x1, ix_row h_x3 rfl, ix_row h_x6 rfl, h_x8, trivial⟩
    ·
      exact mgo_at (nb := 0) hmix (ih _ _ h) (n := 16) (ad := [(some 51, .test true), (some 56, .row [ic op_x4, ic kind_x4, ic pos_x4, ic attr_x4]), (some 61, .row [ic op_x7, ic kind_x7, ic pos_x7, ic attr_x7]), (some 63, .test false)]) (ps := [_, _, _, _]) (m := bm 101 2535301200456457114143546146803) (ls := []) (cs := []) (by kernel_rfl) ⟨h_x1, ix_row h_x3 rfl, ix_row h_x6 rfl, h_x8, trivial⟩
  ·
    exact mgo_at (nb := 0) hmix (ih _ _ h) (n := 11) (ad := [(some 51, .test false)]) (ps := [_]) (m := bm 101 2535301200013736945224377171955) (ls := []) (cs := []) (by kernel_rfl) ⟨h_x1, trivial⟩
theorem t13_h2_ok (k : Nat) (rec : S13 → Option R13) (ih : ∀ s r, rec s = some r → P13 s r) (t67 : Int) (t68 : Int) (loc3_0 : Int) (loc3_1 : Int) (loc3_2 : Rs) (loc3_3 : Rs) (loc3_4 : Rs) (loc2_0 : Int) (loc2_1 : Int) (loc2_2 : Rs) (loc2_3 : Rs) (loc2_4 : Rs) (r : R13) (h : t13_h2 k rec t67 t68 loc3_0 loc3_1 loc3_2 loc3_3 loc3_4 loc2_0 loc2_1 loc2_2 loc2_3 loc2_4 = some r) : P13 (.h2 t67 t68 loc3_0 loc3_1 loc3_2 loc3_3 loc3_4 loc2_0 loc2_1 loc2_2 loc2_3 loc2_4) r := by
  unfold t13_h2 at h
  rcases bif_or h with ⟨h_x1, h⟩ | ⟨h_x1, h⟩
  ·
    obtain ⟨w_x2, h_x3, h⟩ := ixR_or h
    obtain ⟨kind_x4, bits_x4, hq, h1'⟩ := un_iu_or h
    clear h; subst hq; have h := h1'; clear h1'
    obtain ⟨w_x5, h_x6, h⟩ := ixR_or h
    obtain ⟨kind_x7, bits_x7, hq, h1'⟩ := un_iu_or h
    clear h; subst hq; have h := h1'; clear h1'
    rcases bif_or h with ⟨h_x8, h⟩ | ⟨h_x8, h⟩
    ·
      rw [← Option.some.inj h]
      exact mgo_fin (nb := 0) hmix (n := 2000) (ad := [(some 69, .test true), (some 74, .row [ic kind_x4, .val (.int .u64 bits_x4)]), (some 79, .row [ic kind_x7, .val (.int .u64 bits_x7)]), (some 81, .test true)]) (ps := [_, _, _, _]) (by kernel_rfl) ⟨h_x1, ix_row h_x3 rfl, ix_row h_x6 rfl, h_x8, trivial⟩
    ·
      exact mgo_at (nb := 0) hmix (ih _ _ h) (n := 16) (ad := [(some 69, .test true), (some 74, .row [ic kind_x4, .val (.int .u64 bits_x4)]), (some 79, .row [ic kind_x7, .val (.int .u64 bits_x7)]), (some 81, .test false)]) (ps := [_, _, _, _]) (m := bm 101 2535301200013736945224377171955) (ls := []) (cs := []) (by kernel_rfl) ⟨h_x1, ix_row h_x3 rfl, ix_row h_x6 rfl, h_x8, trivial⟩
  ·
    exact mgo_at (nb := 0) hmix (ih _ _ h) (n := 11) (ad := [(some 69, .test false)]) (ps := [_]) (m := bm 101 2535185143577775798592634617843) (ls := []) (cs := []) (by kernel_rfl) ⟨h_x1, trivial⟩
theorem t13_h3_ok (k : Nat) (rec : S13 → Option R13) (ih : ∀ s r, rec s = some r → P13 s r) (t85 : Int) (t86 : Int) (loc3_0 : Int) (loc3_1 : Int) (loc3_2 : Rs) (loc3_3 : Rs) (loc3_4 : Rs) (loc2_0 : Int) (loc2_1 : Int) (loc2_2 : Rs) (loc2_3 : Rs) (loc2_4 : Rs) (r : R13) (h : t13_h3 k rec t85 t86 loc3_0 loc3_1 loc3_2 loc3_3 loc3_4 loc2_0 loc2_1 loc2_2 loc2_3 loc2_4 = some r) : P13 (.h3 t85 t86 loc3_0 loc3_1 loc3_2 loc3_3 loc3_4 loc2_0 loc2_1 loc2_2 loc2_3 loc2_4) r := by
  unfold t13_h3 at h
  rcases bif_or h with ⟨h_x1, h⟩ | ⟨h_x1, h⟩
  ·
    obtain ⟨w_x2, h_x3, h⟩ := ixR_or h
    obtain ⟨op_x4, dst_x4, a_x4, b_x4, hq, h1'⟩ := un_i4_or h
    clear h; subst hq; have h := h1'; clear h1'
    obtain ⟨w_x5, h_x6, h⟩ := ixR_or h
    obtain ⟨op_x7, dst_x7, a_x7, b_x7, hq, h1'⟩ := un_i4_or h
    clear h; subst hq; have h := h1'; clear h1'
    rcases bif_or h with ⟨h_x8, h⟩ | ⟨h_x8, h⟩
    ·
      rw [← Option.some.inj h]
      exact mgo_fin (nb := 0) hmix (n := 2000) (ad := [(some 87, .test true), (some 92, .row [ic op_x4, ic dst_x4, ic a_x4, ic b_x4]), (some 97, .row [ic op_x7, ic dst_x7, ic a_x7, ic b_x7]), (some 99, .test true)]) (ps := [_, _, _, _]) (by kernel_rfl) ⟨h_x1, ix_row h_x3 rfl, ix_row h_x6 rfl, h_x8, trivial⟩
    ·
      exact mgo_at (nb := 0) hmix (ih _ _ h) (n := 16) (ad := [(some 87, .test true), (some 92, .row [ic op_x4, ic dst_x4, ic a_x4, ic b_x4]), (some 97, .row [ic op_x7, ic dst_x7, ic a_x7, ic b_x7]), (some 99, .test false)]) (ps := [_, _, _, _]) (m := bm 101 2535185143577775798592634617843) (ls := []) (cs := []) (by kernel_rfl) ⟨h_x1, ix_row h_x3 rfl, ix_row h_x6 rfl, h_x8, trivial⟩
  ·
    rw [← Option.some.inj h]
    exact mgo_fin (nb := 0) hmix (n := 2000) (ad := [(some 87, .test false)]) (ps := [_]) (by kernel_rfl) ⟨h_x1, trivial⟩
theorem ok13 : ∀ k s r, itS step13 k s = some r → P13 s r := itS_ok fun k rec ih s r h => match s, h with
  | .e a0_0 a0_1 a0_2 a0_3 a0_4 b1_0 b1_1 b1_2 b1_3 b1_4, h => t13_e_ok k rec ih a0_0 a0_1 a0_2 a0_3 a0_4 b1_0 b1_1 b1_2 b1_3 b1_4 r h
  | .h0 t46 loc3_0 loc3_1 loc3_2 loc3_3 loc3_4 loc2_0 loc2_1 loc2_2 loc2_3 loc2_4, h => t13_h0_ok k rec ih t46 loc3_0 loc3_1 loc3_2 loc3_3 loc3_4 loc2_0 loc2_1 loc2_2 loc2_3 loc2_4 r h
  | .h1 t49 t50 loc3_0 loc3_1 loc3_2 loc3_3 loc3_4 loc2_0 loc2_1 loc2_2 loc2_3 loc2_4, h => t13_h1_ok k rec ih t49 t50 loc3_0 loc3_1 loc3_2 loc3_3 loc3_4 loc2_0 loc2_1 loc2_2 loc2_3 loc2_4 r h
  | .h2 t67 t68 loc3_0 loc3_1 loc3_2 loc3_3 loc3_4 loc2_0 loc2_1 loc2_2 loc2_3 loc2_4, h => t13_h2_ok k rec ih t67 t68 loc3_0 loc3_1 loc3_2 loc3_3 loc3_4 loc2_0 loc2_1 loc2_2 loc2_3 loc2_4 r h
  | .h3 t85 t86 loc3_0 loc3_1 loc3_2 loc3_3 loc3_4 loc2_0 loc2_1 loc2_2 loc2_3 loc2_4, h => t13_h3_ok k rec ih t85 t86 loc3_0 loc3_1 loc3_2 loc3_3 loc3_4 loc2_0 loc2_1 loc2_2 loc2_3 loc2_4 r h
theorem ev13 {k : Nat} {a0_0 : Int} {a0_1 : Int} {a0_2 : Rs} {a0_3 : Rs} {a0_4 : Rs} {b1_0 : Int} {b1_1 : Int} {b1_2 : Rs} {b1_3 : Rs} {b1_4 : Rs} {r : R13} (h : g13 k a0_0 a0_1 a0_2 a0_3 a0_4 b1_0 b1_1 b1_2 b1_3 b1_4 = some r) : Ev Try.prog noHand 13 [.ag [ic a0_0, ic a0_1, .imm a0_2, .imm a0_3, .imm a0_4], .ag [ic b1_0, ic b1_1, .imm b1_2, .imm b1_3, .imm b1_4]] [] (res13 r) (bx13 r) := evr13 (ok13 _ _ _ h)
-- auspice/ssa.Plain
inductive S15 where
  | e (c0_0 : Int) (c0_1 : Int) (c0_2 : Rs) (c0_3 : Rs) (c0_4 : Rs)
  | h0 (t23 : Bool) (loc1_0 : Int) (loc1_1 : Int) (loc1_2 : Rs) (loc1_3 : Rs) (loc1_4 : Rs)
  | h1 (t28 : Rs) (t29 : Int) (t30 : Int) (loc1_0 : Int) (loc1_1 : Int) (loc1_2 : Rs) (loc1_3 : Rs) (loc1_4 : Rs)
  | h2 (i3 : Int) (ok5 : Bool) (t28 : Rs) (t29 : Int) (t30 : Int) (loc4_0 : Int) (loc4_1 : Int) (loc4_2 : Int) (loc4_3 : Int) (loc1_0 : Int) (loc1_1 : Int) (loc1_2 : Rs) (loc1_3 : Rs) (loc1_4 : Rs)
  | h3 (t28 : Rs) (t29 : Int) (t30 : Int) (t126 : Bool) (loc1_0 : Int) (loc1_1 : Int) (loc1_2 : Rs) (loc1_3 : Rs) (loc1_4 : Rs)
abbrev R15 := Bool
def res15 : R15 → ARes
  | r => .ret (.c (bc r))
def bx15 : R15 → List (List Cell)
  | r => []
noncomputable def t15_e (k : Nat) (rec : S15 → Option R15) (c0_0 : Int) (c0_1 : Int) (c0_2 : Rs) (c0_3 : Rs) (c0_4 : Rs) : Option R15 :=
  bif c0_1 != 0 then
    rec (.h0 true c0_0 c0_1 c0_2 c0_3 c0_4)
  else
    bif decide (c0_0 < 1) then
      rec (.h0 true c0_0 c0_1 c0_2 c0_3 c0_4)
    else
      rec (.h0 ((c0_4.length : Int) != (IntKind.i64.wrap (c0_0 + 1))) c0_0 c0_1 c0_2 c0_3 c0_4)
noncomputable def t15_h0 (k : Nat) (rec : S15 → Option R15) (t23 : Bool) (loc1_0 : Int) (loc1_1 : Int) (loc1_2 : Rs) (loc1_3 : Rs) (loc1_4 : Rs) : Option R15 :=
  bif t23 then
    some false
  else
    gd (slOk 0 loc1_0 loc1_4 4) <|
    rec (.h1 (List.drop (Int.toNat 0) (List.take (Int.toNat loc1_0) loc1_4)) ((List.drop (Int.toNat 0) (List.take (Int.toNat loc1_0) loc1_4)).length : Int) 0 loc1_0 loc1_1 loc1_2 loc1_3 loc1_4)
noncomputable def t15_h1 (k : Nat) (rec : S15 → Option R15) (t28 : Rs) (t29 : Int) (t30 : Int) (loc1_0 : Int) (loc1_1 : Int) (loc1_2 : Rs) (loc1_3 : Rs) (loc1_4 : Rs) : Option R15 :=
  bif decide (t30 < t29) then
    ixR t28 t30 fun w_x2 =>
    un_i4 w_x2 fun op_x4 dst_x4 a_x4 b_x4 =>
    bif op_x4 == 50 then
      bif decide (a_x4 ≥ 0) then
        bif decide (a_x4 < (loc1_2.length : Int)) then
          rec (.h2 t30 (b_x4 == 0) t28 t29 t30 op_x4 dst_x4 a_x4 b_x4 loc1_0 loc1_1 loc1_2 loc1_3 loc1_4)
        else
          rec (.h2 t30 false t28 t29 t30 op_x4 dst_x4 a_x4 b_x4 loc1_0 loc1_1 loc1_2 loc1_3 loc1_4)
      else
        rec (.h2 t30 false t28 t29 t30 op_x4 dst_x4 a_x4 b_x4 loc1_0 loc1_1 loc1_2 loc1_3 loc1_4)
    else
      bif op_x4 == 51 then
        bif decide (a_x4 ≥ 0) then
          bif decide (a_x4 < (loc1_3.length : Int)) then
            rec (.h2 t30 (b_x4 == 0) t28 t29 t30 op_x4 dst_x4 a_x4 b_x4 loc1_0 loc1_1 loc1_2 loc1_3 loc1_4)
          else
            rec (.h2 t30 false t28 t29 t30 op_x4 dst_x4 a_x4 b_x4 loc1_0 loc1_1 loc1_2 loc1_3 loc1_4)
        else
          rec (.h2 t30 false t28 t29 t30 op_x4 dst_x4 a_x4 b_x4 loc1_0 loc1_1 loc1_2 loc1_3 loc1_4)
      else
        (g30 k op_x4).bind fun v_x7 =>
        bif v_x7 == 1 then
          bif decide (a_x4 ≥ 0) then
            bif decide (a_x4 < t30) then
              rec (.h2 t30 (b_x4 == 0) t28 t29 t30 op_x4 dst_x4 a_x4 b_x4 loc1_0 loc1_1 loc1_2 loc1_3 loc1_4)
            else
              rec (.h2 t30 false t28 t29 t30 op_x4 dst_x4 a_x4 b_x4 loc1_0 loc1_1 loc1_2 loc1_3 loc1_4)
          else
            rec (.h2 t30 false t28 t29 t30 op_x4 dst_x4 a_x4 b_x4 loc1_0 loc1_1 loc1_2 loc1_3 loc1_4)
        else
          bif v_x7 == 2 then
            bif decide (a_x4 ≥ 0) then
              bif decide (a_x4 < t30) then
                bif decide (b_x4 ≥ 0) then
                  rec (.h2 t30 (decide (b_x4 < t30)) t28 t29 t30 op_x4 dst_x4 a_x4 b_x4 loc1_0 loc1_1 loc1_2 loc1_3 loc1_4)
                else
                  rec (.h2 t30 false t28 t29 t30 op_x4 dst_x4 a_x4 b_x4 loc1_0 loc1_1 loc1_2 loc1_3 loc1_4)
              else
                rec (.h2 t30 false t28 t29 t30 op_x4 dst_x4 a_x4 b_x4 loc1_0 loc1_1 loc1_2 loc1_3 loc1_4)
            else
              rec (.h2 t30 false t28 t29 t30 op_x4 dst_x4 a_x4 b_x4 loc1_0 loc1_1 loc1_2 loc1_3 loc1_4)
          else
            rec (.h2 t30 false t28 t29 t30 op_x4 dst_x4 a_x4 b_x4 loc1_0 loc1_1 loc1_2 loc1_3 loc1_4)
  else
    ixR loc1_4 loc1_0 fun w_x2 =>
    un_i4 w_x2 fun op_x4 dst_x4 a_x4 b_x4 =>
    bif op_x4 == 52 then
      bif dst_x4 == 0 then
        bif b_x4 == 0 then
          bif decide (a_x4 ≥ 0) then
            some (decide (a_x4 < loc1_0))
          else
            some false
        else
          some false
      else
        some false
    else
      some false
noncomputable def t15_h2 (k : Nat) (rec : S15 → Option R15) (i3 : Int) (ok5 : Bool) (t28 : Rs) (t29 : Int) (t30 : Int) (loc4_0 : Int) (loc4_1 : Int) (loc4_2 : Int) (loc4_3 : Int) (loc1_0 : Int) (loc1_1 : Int) (loc1_2 : Rs) (loc1_3 : Rs) (loc1_4 : Rs) : Option R15 :=
  bif !ok5 then
    rec (.h3 t28 t29 t30 true loc1_0 loc1_1 loc1_2 loc1_3 loc1_4)
  else
    rec (.h3 t28 t29 t30 (loc4_1 != i3) loc1_0 loc1_1 loc1_2 loc1_3 loc1_4)
noncomputable def t15_h3 (k : Nat) (rec : S15 → Option R15) (t28 : Rs) (t29 : Int) (t30 : Int) (t126 : Bool) (loc1_0 : Int) (loc1_1 : Int) (loc1_2 : Rs) (loc1_3 : Rs) (loc1_4 : Rs) : Option R15 :=
  bif t126 then
    some false
  else
    rec (.h1 t28 t29 (IntKind.i64.wrap (t30 + 1)) loc1_0 loc1_1 loc1_2 loc1_3 loc1_4)
noncomputable def step15 (k : Nat) (rec : S15 → Option R15) : S15 → Option R15
  | .e c0_0 c0_1 c0_2 c0_3 c0_4 => t15_e k rec c0_0 c0_1 c0_2 c0_3 c0_4
  | .h0 t23 loc1_0 loc1_1 loc1_2 loc1_3 loc1_4 => t15_h0 k rec t23 loc1_0 loc1_1 loc1_2 loc1_3 loc1_4
  | .h1 t28 t29 t30 loc1_0 loc1_1 loc1_2 loc1_3 loc1_4 => t15_h1 k rec t28 t29 t30 loc1_0 loc1_1 loc1_2 loc1_3 loc1_4
  | .h2 i3 ok5 t28 t29 t30 loc4_0 loc4_1 loc4_2 loc4_3 loc1_0 loc1_1 loc1_2 loc1_3 loc1_4 => t15_h2 k rec i3 ok5 t28 t29 t30 loc4_0 loc4_1 loc4_2 loc4_3 loc1_0 loc1_1 loc1_2 loc1_3 loc1_4
  | .h3 t28 t29 t30 t126 loc1_0 loc1_1 loc1_2 loc1_3 loc1_4 => t15_h3 k rec t28 t29 t30 t126 loc1_0 loc1_1 loc1_2 loc1_3 loc1_4
noncomputable def g15 (k : Nat) (c0_0 : Int) (c0_1 : Int) (c0_2 : Rs) (c0_3 : Rs) (c0_4 : Rs) : Option R15 := itS step15 k (.e c0_0 c0_1 c0_2 c0_3 c0_4)
noncomputable def P15 : S15 → R15 → Prop
  | .e c0_0 c0_1 c0_2 c0_3 c0_4, r => Fin cx15 Try.f15 [.code body15] (fr0 Try.f15 [.ag [ic c0_0, ic c0_1, .imm c0_2, .imm c0_3, .imm c0_4]] []) (res15 r) (bx15 r)
  | .h0 t23 loc1_0 loc1_1 loc1_2 loc1_3 loc1_4, r => Fin cx15 Try.f15 (kAt body15 [1, 0, 1, 2] []) ⟨[.deadv, .c (.ptr ⟨⟨.loc 1, []⟩, 0, 0⟩)] ++ rep 21 .deadv ++ [.c (bc t23)] ++ rep 135 .deadv, [(.loc 1, [ic loc1_0, ic loc1_1, .imm loc1_2, .imm loc1_3, .imm loc1_4])]⟩ (res15 r) (bx15 r)
  | .h1 t28 t29 t30 loc1_0 loc1_1 loc1_2 loc1_3 loc1_4, r => Fin cx15 Try.f15 (kAt body15 [1, 1, 0, 1, 0, 4] []) ⟨[.deadv, .c (.ptr ⟨⟨.loc 1, []⟩, 0, 0⟩)] ++ rep 26 .deadv ++ [.c (.imm t28), .c (ic t29), .c (ic t30)] ++ rep 128 .deadv, [(.loc 1, [ic loc1_0, ic loc1_1, .imm loc1_2, .imm loc1_3, .imm loc1_4])]⟩ (res15 r) (bx15 r)
  | .h2 i3 ok5 t28 t29 t30 loc4_0 loc4_1 loc4_2 loc4_3 loc1_0 loc1_1 loc1_2 loc1_3 loc1_4, r => Fin cx15 Try.f15 (kAt body15 [1, 1, 0, 1, 0, 0, 1, 1, 0, 0, 1, 1, 1, 2] []) ⟨[.deadv, .c (.ptr ⟨⟨.loc 1, []⟩, 0, 0⟩), .deadv, .c (ic i3), .c (.ptr ⟨⟨.loc 4, []⟩, 0, 0⟩), .c (bc ok5)] ++ rep 22 .deadv ++ [.c (.imm t28), .c (ic t29), .c (ic t30)] ++ rep 128 .deadv, [(.loc 4, [ic loc4_0, ic loc4_1, ic loc4_2, ic loc4_3]), (.loc 1, [ic loc1_0, ic loc1_1, .imm loc1_2, .imm loc1_3, .imm loc1_4])]⟩ (res15 r) (bx15 r)
  | .h3 t28 t29 t30 t126 loc1_0 loc1_1 loc1_2 loc1_3 loc1_4, r => Fin cx15 Try.f15 (kAt body15 [1, 1, 0, 1, 0, 0, 1, 1, 0, 0, 1, 1, 1, 1, 2] []) ⟨[.deadv, .c (.ptr ⟨⟨.loc 1, []⟩, 0, 0⟩)] ++ rep 26 .deadv ++ [.c (.imm t28), .c (ic t29), .c (ic t30)] ++ rep 95 .deadv ++ [.c (bc t126)] ++ rep 32 .deadv, [(.loc 1, [ic loc1_0, ic loc1_1, .imm loc1_2, .imm loc1_3, .imm loc1_4])]⟩ (res15 r) (bx15 r)
theorem evr15 {c0_0 : Int} {c0_1 : Int} {c0_2 : Rs} {c0_3 : Rs} {c0_4 : Rs} {r : R15} (h : P15 (.e c0_0 c0_1 c0_2 c0_3 c0_4) r) : Ev Try.prog noHand 15 [.ag [ic c0_0, ic c0_1, .imm c0_2, .imm c0_3, .imm c0_4]] [] (res15 r) (bx15 r) := ev_of_fin (fn := Try.f15) (body := body15) (by kernel_rfl) (by kernel_rfl) (by kernel_rfl) rfl h
theorem t15_e_ok (k : Nat) (rec : S15 → Option R15) (ih : ∀ s r, rec s = some r → P15 s r) (c0_0 : Int) (c0_1 : Int) (c0_2 : Rs) (c0_3 : Rs) (c0_4 : Rs) (r : R15) (h : t15_e k rec c0_0 c0_1 c0_2 c0_3 c0_4 = some r) : P15 (.e c0_0 c0_1 c0_2 c0_3 c0_4) r := by
  unfold t15_e at h
  rcases bif_or h with ⟨h_x1, h⟩ | ⟨h_x1, h⟩
  ·
    exact mgo_at (nb := 0) hmix (ih _ _ h) (n := 5) (ad := [(some 9, .test true)]) (ps := [_]) (m := bm 159 730750818665451459101842416358141509827957882877) (ls := []) (cs := []) (by kernel_rfl) ⟨h_x1, trivial⟩
  ·
    rcases bif_or h with ⟨h_x2, h⟩ | ⟨h_x2, h⟩
    ·
      exact mgo_at (nb := 0) hmix (ih _ _ h) (n := 5) (ad := [(some 9, .test false), (some 13, .test true)]) (ps := [_, _]) (m := bm 159 730750818665451459101842416358141509827957882877) (ls := []) (cs := []) (by kernel_rfl) ⟨h_x1, h_x2, trivial⟩
    ·
      exact mgo_at (nb := 0) hmix (ih _ _ h) (n := 5) (ad := [(some 9, .test false), (some 13, .test false)]) (ps := [_, _]) (m := bm 159 730750818665451459101842416358141509827957882877) (ls := []) (cs := []) (by kernel_rfl) ⟨h_x1, h_x2, trivial⟩
theorem t15_h0_ok (k : Nat) (rec : S15 → Option R15) (ih : ∀ s r, rec s = some r → P15 s r) (t23 : Bool) (loc1_0 : Int) (loc1_1 : Int) (loc1_2 : Rs) (loc1_3 : Rs) (loc1_4 : Rs) (r : R15) (h : t15_h0 k rec t23 loc1_0 loc1_1 loc1_2 loc1_3 loc1_4 = some r) : P15 (.h0 t23 loc1_0 loc1_1 loc1_2 loc1_3 loc1_4) r := by
  unfold t15_h0 at h
  rcases bif_or h with ⟨hq, h1'⟩ | ⟨hq, h1'⟩
  · clear h; subst hq; have h := h1'; clear h1'
    rw [← Option.some.inj h]
    exact mgo_fin (nb := 0) hmix (n := 2000) (ad := []) (ps := []) (by kernel_rfl) trivial
  · clear h; subst hq; have h := h1'; clear h1'
    obtain ⟨h_x1, h⟩ := gd_or h
    exact mgo_at (nb := 0) hmix (ih _ _ h) (n := 7) (ad := [(some 28, .ok)]) (ps := [_]) (m := bm 159 730750818665451459101842416358141509826087223293) (ls := []) (cs := []) (by kernel_rfl) ⟨of_decide_eq_true h_x1, trivial⟩
theorem t15_h1_ok (k : Nat) (rec : S15 → Option R15) (ih : ∀ s r, rec s = some r → P15 s r) (t28 : Rs) (t29 : Int) (t30 : Int) (loc1_0 : Int) (loc1_1 : Int) (loc1_2 : Rs) (loc1_3 : Rs) (loc1_4 : Rs) (r : R15) (h : t15_h1 k rec t28 t29 t30 loc1_0 loc1_1 loc1_2 loc1_3 loc1_4 = some r) : P15 (.h1 t28 t29 t30 loc1_0 loc1_1 loc1_2 loc1_3 loc1_4) r := by
  unfold t15_h1 at h
  rcases bif_or h with ⟨h_x1, h⟩ | ⟨h_x1, h⟩
  ·
    obtain ⟨w_x2, h_x3, h⟩ := ixR_or h
    obtain ⟨op_x4, dst_x4, a_x4, b_x4, hq, h1'⟩ := un_i4_or h
    clear h; subst hq; have h := h1'; clear h1'
    rcases bif_or h with ⟨h_x5, h⟩ | ⟨h_x5, h⟩
    ·
      rcases bif_or h with ⟨h_x6, h⟩ | ⟨h_x6, h⟩
      ·
        rcases bif_or h with ⟨h_x7, h⟩ | ⟨h_x7, h⟩
        ·
          exact mgo_at (nb := 0) hmix (ih _ _ h) (n := 19) (ad := [(some 31, .test true), (some 33, .row [ic op_x4, ic dst_x4, ic a_x4, ic b_x4]), (some 38, .test true), (some 41, .test true), (some 48, .test true)]) (ps := [_, _, _, _, _]) (m := bm 159 730750818665451459101842416358141509826087223237) (ls := []) (cs := []) (by kernel_rfl) ⟨h_x1, ix_row h_x3 rfl, h_x5, h_x6, h_x7, trivial⟩
        ·
          exact mgo_at (nb := 0) hmix (ih _ _ h) (n := 19) (ad := [(some 31, .test true), (some 33, .row [ic op_x4, ic dst_x4, ic a_x4, ic b_x4]), (some 38, .test true), (some 41, .test true), (some 48, .test false)]) (ps := [_, _, _, _, _]) (m := bm 159 730750818665451459101842416358141509826087223237) (ls := []) (cs := []) (by kernel_rfl) ⟨h_x1, ix_row h_x3 rfl, h_x5, h_x6, h_x7, trivial⟩
      ·
        exact mgo_at (nb := 0) hmix (ih _ _ h) (n := 19) (ad := [(some 31, .test true), (some 33, .row [ic op_x4, ic dst_x4, ic a_x4, ic b_x4]), (some 38, .test true), (some 41, .test false)]) (ps := [_, _, _, _]) (m := bm 159 730750818665451459101842416358141509826087223237) (ls := []) (cs := []) (by kernel_rfl) ⟨h_x1, ix_row h_x3 rfl, h_x5, h_x6, trivial⟩
    ·
      rcases bif_or h with ⟨h_x6, h⟩ | ⟨h_x6, h⟩
      ·
        rcases bif_or h with ⟨h_x7, h⟩ | ⟨h_x7, h⟩
        ·
          rcases bif_or h with ⟨h_x8, h⟩ | ⟨h_x8, h⟩
          ·
            exact mgo_at (nb := 0) hmix (ih _ _ h) (n := 22) (ad := [(some 31, .test true), (some 33, .row [ic op_x4, ic dst_x4, ic a_x4, ic b_x4]), (some 38, .test false), (some 58, .test true), (some 61, .test true), (some 68, .test true)]) (ps := [_, _, _, _, _, _]) (m := bm 159 730750818665451459101842416358141509826087223237) (ls := []) (cs := []) (by kernel_rfl) ⟨h_x1, ix_row h_x3 rfl, h_x5, h_x6, h_x7, h_x8, trivial⟩
          ·
            exact mgo_at (nb := 0) hmix (ih _ _ h) (n := 22) (ad := [(some 31, .test true), (some 33, .row [ic op_x4, ic dst_x4, ic a_x4, ic b_x4]), (some 38, .test false), (some 58, .test true), (some 61, .test true), (some 68, .test false)]) (ps := [_, _, _, _, _, _]) (m := bm 159 730750818665451459101842416358141509826087223237) (ls := []) (cs := []) (by kernel_rfl) ⟨h_x1, ix_row h_x3 rfl, h_x5, h_x6, h_x7, h_x8, trivial⟩
        ·
          exact mgo_at (nb := 0) hmix (ih _ _ h) (n := 22) (ad := [(some 31, .test true), (some 33, .row [ic op_x4, ic dst_x4, ic a_x4, ic b_x4]), (some 38, .test false), (some 58, .test true), (some 61, .test false)]) (ps := [_, _, _, _, _]) (m := bm 159 730750818665451459101842416358141509826087223237) (ls := []) (cs := []) (by kernel_rfl) ⟨h_x1, ix_row h_x3 rfl, h_x5, h_x6, h_x7, trivial⟩
      ·
        obtain ⟨v_x7, h_x8, h⟩ := bd_or h
        rcases bif_or h with ⟨h_x9, h⟩ | ⟨h_x9, h⟩
        ·
          rcases bif_or h with ⟨h_x10, h⟩ | ⟨h_x10, h⟩
          ·
            rcases bif_or h with ⟨h_x11, h⟩ | ⟨h_x11, h⟩
            ·
              exact mgo_at (nb := 0) hmix (ih _ _ h) (n := 25) (ad := [(some 31, .test true), (some 33, .row [ic op_x4, ic dst_x4, ic a_x4, ic b_x4]), (some 38, .test false), (some 58, .test false), (some 78, .call (.ret (.c (ic v_x7))) [] false), (some 79, .test true), (some 82, .test true), (some 87, .test true)]) (ps := [_, _, _, _, _, _, _, _]) (m := bm 159 730750818665451459101842416358141509826087223237) (ls := []) (cs := []) (by kernel_rfl) ⟨h_x1, ix_row h_x3 rfl, h_x5, h_x6, (ev30 h_x8), h_x9, h_x10, h_x11, trivial⟩
            ·
              exact mgo_at (nb := 0) hmix (ih _ _ h) (n := 25) (ad := [(some 31, .test true), (some 33, .row [ic op_x4, ic dst_x4, ic a_x4, ic b_x4]), (some 38, .test false), (some 58, .test false), (some 78, .call (.ret (.c (ic v_x7))) [] false), (some 79, .test true), (some 82, .test true), (some 87, .test false)]) (ps := [_, _, _, _, _, _, _, _]) (m := bm 159 730750818665451459101842416358141509826087223237) (ls := []) (cs := []) (by kernel_rfl) ⟨h_x1, ix_row h_x3 rfl, h_x5, h_x6, (ev30 h_x8), h_x9, h_x10, h_x11, trivial⟩
          ·
            exact mgo_at (nb := 0) hmix (ih _ _ h) (n := 25) (ad := [(some 31, .test true), (some 33, .row [ic op_x4, ic dst_x4, ic a_x4, ic b_x4]), (some 38, .test false), (some 58, .test false), (some 78, .call (.ret (.c (ic v_x7))) [] false), (some 79, .test true), (some 82, .test false)]) (ps := [_, _, _, _, _, _, _]) (m := bm 159 730750818665451459101842416358141509826087223237) (ls := []) (cs := []) (by kernel_rfl) ⟨h_x1, ix_row h_x3 rfl, h_x5, h_x6, (ev30 h_x8), h_x9, h_x10, trivial⟩
        ·
          rcases bif_or h with ⟨h_x10, h⟩ | ⟨h_x10, h⟩
          ·
            rcases bif_or h with ⟨h_x11, h⟩ | ⟨h_x11, h⟩
            ·
              rcases bif_or h with ⟨h_x12, h⟩ | ⟨h_x12, h⟩
              ·
                rcases bif_or h with ⟨h_x13, h⟩ | ⟨h_x13, h⟩
                ·
                  exact mgo_at (nb := 0) hmix (ih _ _ h) (n := 28) (ad := [(some 31, .test true), (some 33, .row [ic op_x4, ic dst_x4, ic a_x4, ic b_x4]), (some 38, .test false), (some 58, .test false), (some 78, .call (.ret (.c (ic v_x7))) [] false), (some 79, .test false), (some 97, .call (.ret (.c (ic v_x7))) [] false), (some 98, .test true), (some 101, .test true), (some 106, .test true), (some 111, .test true)]) (ps := [_, _, _, _, _, _, _, _, _, _, _]) (m := bm 159 730750818665451459101842416358141509826087223237) (ls := []) (cs := []) (by kernel_rfl) ⟨h_x1, ix_row h_x3 rfl, h_x5, h_x6, (ev30 h_x8), h_x9, (ev30 h_x8), h_x10, h_x11, h_x12, h_x13, trivial⟩
                ·
                  exact mgo_at (nb := 0) hmix (ih _ _ h) (n := 28) (ad := [(some 31, .test true), (some 33, .row [ic op_x4, ic dst_x4, ic a_x4, ic b_x4]), (some 38, .test false), (some 58, .test false), (some 78, .call (.ret (.c (ic v_x7))) [] false), (some 79, .test false), (some 97, .call (.ret (.c (ic v_x7))) [] false), (some 98, .test true), (some 101, .test true), (some 106, .test true), (some 111, .test false)]) (ps := [_, _, _, _, _, _, _, _, _, _, _]) (m := bm 159 730750818665451459101842416358141509826087223237) (ls := []) (cs := []) (by kernel_rfl) ⟨h_x1, ix_row h_x3 rfl, h_x5, h_x6, (ev30 h_x8), h_x9, (ev30 h_x8), h_x10, h_x11, h_x12, h_x13, trivial⟩
              ·
                exact mgo_at (nb := 0) hmix (ih _ _ h) (n := 28) (ad := [(some 31, .test true), (some 33, .row [ic op_x4, ic dst_x4, ic a_x4, ic b_x4]), (some 38, .test false), (some 58, .test false), (some 78, .call (.ret (.c (ic v_x7))) [] false), (some 79, .test false), (some 97, .call (.ret (.c (ic v_x7))) [] false), (some 98, .test true), (some 101, .test true), (some 106, .test false)]) (ps := [_, _, _, _, _, _, _, _, _, _]) (m := bm 159 730750818665451459101842416358141509826087223237) (ls := []) (cs := []) (by kernel_rfl) ⟨h_x1, ix_row h_x3 rfl, h_x5, h_x6, (ev30 h_x8), h_x9, (ev30 h_x8), h_x10, h_x11, h_x12, trivial⟩
            ·
              exact mgo_at (nb := 0) hmix (ih _ _ h) (n := 28) (ad := [(some 31, .test true), (some 33, .row [ic op_x4, ic dst_x4, ic a_x4, ic b_x4]), (some 38, .test false), (some 58, .test false), (some 78, .call (.ret (.c (ic v_x7))) [] false), (some 79, .test false), (some 97, .call (.ret (.c (ic v_x7))) [] false), (some 98, .test true), (some 101, .test false)]) (ps := [_, _, _, _, _, _, _, _, _]) (m := bm 159 730750818665451459101842416358141509826087223237) (ls := []) (cs := []) (by kernel_rfl) ⟨h_x1, ix_row h_x3 rfl, h_x5, h_x6, (ev30 h_x8), h_x9, (ev30 h_x8), h_x10, h_x11, trivial⟩
          ·
            exact mgo_at (nb := 0) hmix (ih _ _ h) (n := 28) (ad := [(some 31, .test true), (some 33, .row [ic op_x4, ic dst_x4, ic a_x4, ic b_x4]), (some 38, .test false), (some 58, .test false), (some 78, .call (.ret (.c (ic v_x7))) [] false), (some 79, .test false), (some 97, .call (.ret (.c (ic v_x7))) [] false), (some 98, .test false)]) (ps := [_, _, _, _, _, _, _, _]) (m := bm 159 730750818665451459101842416358141509826087223237) (ls := []) (cs := []) (by kernel_rfl) ⟨h_x1, ix_row h_x3 rfl, h_x5, h_x6, (ev30 h_x8), h_x9, (ev30 h_x8), h_x10, trivial⟩
  ·
    obtain ⟨w_x2, h_x3, h⟩ := ixR_or h
    obtain ⟨op_x4, dst_x4, a_x4, b_x4, hq, h1'⟩ := un_i4_or h
    clear h; subst hq; have h := h1'; clear h1'
    rcases bif_or h with ⟨h_x5, h⟩ | ⟨h_x5, h⟩
    ·
      rcases bif_or h with ⟨h_x6, h⟩ | ⟨h_x6, h⟩
      ·
        rcases bif_or h with ⟨h_x7, h⟩ | ⟨h_x7, h⟩
        ·
          rcases bif_or h with ⟨h_x8, h⟩ | ⟨h_x8, h⟩
          ·
            rw [← Option.some.inj h]
            exact mgo_fin (nb := 0) hmix (n := 2000) (ad := [(some 31, .test false), (some 132, .row [ic op_x4, ic dst_x4, ic a_x4, ic b_x4]), (some 136, .test true), (some 140, .test true), (some 145, .test true), (some 150, .test true)]) (ps := [_, _, _, _, _, _]) (by kernel_rfl) ⟨h_x1, ix_row h_x3 rfl, h_x5, h_x6, h_x7, h_x8, trivial⟩
          ·
            rw [← Option.some.inj h]
            exact mgo_fin (nb := 0) hmix (n := 2000) (ad := [(some 31, .test false), (some 132, .row [ic op_x4, ic dst_x4, ic a_x4, ic b_x4]), (some 136, .test true), (some 140, .test true), (some 145, .test true), (some 150, .test false)]) (ps := [_, _, _, _, _, _]) (by kernel_rfl) ⟨h_x1, ix_row h_x3 rfl, h_x5, h_x6, h_x7, h_x8, trivial⟩
        ·
          rw [← Option.some.inj h]
          exact mgo_fin (nb := 0) hmix (n := 2000) (ad := [(some 31, .test false), (some 132, .row [ic op_x4, ic dst_x4, ic a_x4, ic b_x4]), (some 136, .test true), (some 140, .test true), (some 145, .test false)]) (ps := [_, _, _, _, _]) (by kernel_rfl) ⟨h_x1, ix_row h_x3 rfl, h_x5, h_x6, h_x7, trivial⟩
      ·
        rw [← Option.some.inj h]
        exact mgo_fin (nb := 0) hmix (n := 2000) (ad := [(some 31, .test false), (some 132, .row [ic op_x4, ic dst_x4, ic a_x4, ic b_x4]), (some 136, .test true), (some 140, .test false)]) (ps := [_, _, _, _]) (by kernel_rfl) ⟨h_x1, ix_row h_x3 rfl, h_x5, h_x6, trivial⟩
    ·
      rw [← Option.some.inj h]
      exact mgo_fin (nb := 0) hmix (n := 2000) (ad := [(some 31, .test false), (some 132, .row [ic op_x4, ic dst_x4, ic a_x4, ic b_x4]), (some 136, .test false)]) (ps := [_, _, _]) (by kernel_rfl) ⟨h_x1, ix_row h_x3 rfl, h_x5, trivial⟩
theorem t15_h2_ok (k : Nat) (rec : S15 → Option R15) (ih : ∀ s r, rec s = some r → P15 s r) (i3 : Int) (ok5 : Bool) (t28 : Rs) (t29 : Int) (t30 : Int) (loc4_0 : Int) (loc4_1 : Int) (loc4_2 : Int) (loc4_3 : Int) (loc1_0 : Int) (loc1_1 : Int) (loc1_2 : Rs) (loc1_3 : Rs) (loc1_4 : Rs) (r : R15) (h : t15_h2 k rec i3 ok5 t28 t29 t30 loc4_0 loc4_1 loc4_2 loc4_3 loc1_0 loc1_1 loc1_2 loc1_3 loc1_4 = some r) : P15 (.h2 i3 ok5 t28 t29 t30 loc4_0 loc4_1 loc4_2 loc4_3 loc1_0 loc1_1 loc1_2 loc1_3 loc1_4) r := by
  unfold t15_h2 at h
  rcases bif_or h with ⟨h_x1, h⟩ | ⟨h_x1, h⟩
  ·
    exact mgo_at (nb := 0) hmix (ih _ _ h) (n := 2) (ad := [(some 120, .test true)]) (ps := [_]) (m := bm 159 730750818580380867371607800492297857968145170429) (ls := [4]) (cs := []) (by kernel_rfl) ⟨h_x1, trivial⟩
  ·
    exact mgo_at (nb := 0) hmix (ih _ _ h) (n := 2) (ad := [(some 120, .test false)]) (ps := [_]) (m := bm 159 730750818580380867371607800492297857968145170429) (ls := [4]) (cs := []) (by kernel_rfl) ⟨h_x1, trivial⟩
theorem t15_h3_ok (k : Nat) (rec : S15 → Option R15) (ih : ∀ s r, rec s = some r → P15 s r) (t28 : Rs) (t29 : Int) (t30 : Int) (t126 : Bool) (loc1_0 : Int) (loc1_1 : Int) (loc1_2 : Rs) (loc1_3 : Rs) (loc1_4 : Rs) (r : R15) (h : t15_h3 k rec t28 t29 t30 t126 loc1_0 loc1_1 loc1_2 loc1_3 loc1_4 = some r) : P15 (.h3 t28 t29 t30 t126 loc1_0 loc1_1 loc1_2 loc1_3 loc1_4) r := by
  unfold t15_h3 at h
  rcases bif_or h with ⟨hq, h1'⟩ | ⟨hq, h1'⟩
  · clear h; subst hq; have h := h1'; clear h1'
    rw [← Option.some.inj h]
    exact mgo_fin (nb := 0) hmix (n := 2000) (ad := []) (ps := []) (by kernel_rfl) trivial
  · clear h; subst hq; have h := h1'; clear h1'
    exact mgo_at (nb := 0) hmix (ih _ _ h) (n := 4) (ad := []) (ps := []) (m := bm 159 730750818665451459101842416358141509826087223293) (ls := []) (cs := []) (by kernel_rfl) trivial
theorem ok15 : ∀ k s r, itS step15 k s = some r → P15 s r := itS_ok fun k rec ih s r h => match s, h with
  | .e c0_0 c0_1 c0_2 c0_3 c0_4, h => t15_e_ok k rec ih c0_0 c0_1 c0_2 c0_3 c0_4 r h
  | .h0 t23 loc1_0 loc1_1 loc1_2 loc1_3 loc1_4, h => t15_h0_ok k rec ih t23 loc1_0 loc1_1 loc1_2 loc1_3 loc1_4 r h
  | .h1 t28 t29 t30 loc1_0 loc1_1 loc1_2 loc1_3 loc1_4, h => t15_h1_ok k rec ih t28 t29 t30 loc1_0 loc1_1 loc1_2 loc1_3 loc1_4 r h
  | .h2 i3 ok5 t28 t29 t30 loc4_0 loc4_1 loc4_2 loc4_3 loc1_0 loc1_1 loc1_2 loc1_3 loc1_4, h => t15_h2_ok k rec ih i3 ok5 t28 t29 t30 loc4_0 loc4_1 loc4_2 loc4_3 loc1_0 loc1_1 loc1_2 loc1_3 loc1_4 r h
  | .h3 t28 t29 t30 t126 loc1_0 loc1_1 loc1_2 loc1_3 loc1_4, h => t15_h3_ok k rec ih t28 t29 t30 t126 loc1_0 loc1_1 loc1_2 loc1_3 loc1_4 r h
theorem ev15 {k : Nat} {c0_0 : Int} {c0_1 : Int} {c0_2 : Rs} {c0_3 : Rs} {c0_4 : Rs} {r : R15} (h : g15 k c0_0 c0_1 c0_2 c0_3 c0_4 = some r) : Ev Try.prog noHand 15 [.ag [ic c0_0, ic c0_1, .imm c0_2, .imm c0_3, .imm c0_4]] [] (res15 r) (bx15 r) := evr15 (ok15 _ _ _ h)
-- auspice/auspiceref17.Plain
inductive S16 where
  | e (c0_0 : Int) (c0_1 : Int) (c0_2 : Rs) (c0_3 : Rs) (c0_4 : Rs)
  | h0 (t23 : Bool) (loc1_0 : Int) (loc1_1 : Int) (loc1_2 : Rs) (loc1_3 : Rs) (loc1_4 : Rs)
  | h1 (t25 : Rs) (t26 : Int) (t27 : Int) (loc1_0 : Int) (loc1_1 : Int) (loc1_2 : Rs) (loc1_3 : Rs) (loc1_4 : Rs)
  | h2 (i3 : Int) (n5 : Int) (end6 : Bool) (t25 : Rs) (t26 : Int) (t27 : Int) (t39 : Bool) (loc4_0 : Int) (loc4_1 : Int) (loc4_2 : Int) (loc4_3 : Int) (loc1_0 : Int) (loc1_1 : Int) (loc1_2 : Rs) (loc1_3 : Rs) (loc1_4 : Rs)
  | h3 (i3 : Int) (n5 : Int) (end6 : Bool) (t25 : Rs) (t26 : Int) (t27 : Int) (t39 : Bool) (loc4_0 : Int) (loc4_1 : Int) (loc4_2 : Int) (loc4_3 : Int) (loc1_0 : Int) (loc1_1 : Int) (loc1_2 : Rs) (loc1_3 : Rs) (loc1_4 : Rs)
  | h4 (i3 : Int) (n5 : Int) (end6 : Bool) (t25 : Rs) (t26 : Int) (t27 : Int) (t72 : Bool) (loc4_0 : Int) (loc4_1 : Int) (loc4_2 : Int) (loc4_3 : Int) (loc1_0 : Int) (loc1_1 : Int) (loc1_2 : Rs) (loc1_3 : Rs) (loc1_4 : Rs)
  | h5 (i3 : Int) (n5 : Int) (end6 : Bool) (t25 : Rs) (t26 : Int) (t27 : Int) (t39 : Bool) (loc4_0 : Int) (loc4_1 : Int) (loc4_2 : Int) (loc4_3 : Int) (loc1_0 : Int) (loc1_1 : Int) (loc1_2 : Rs) (loc1_3 : Rs) (loc1_4 : Rs)
  | h6 (n5 : Int) (t25 : Rs) (t26 : Int) (t27 : Int) (t72 : Bool) (loc4_0 : Int) (loc4_1 : Int) (loc4_2 : Int) (loc4_3 : Int) (loc1_0 : Int) (loc1_1 : Int) (loc1_2 : Rs) (loc1_3 : Rs) (loc1_4 : Rs)
  | h7 (n5 : Int) (t25 : Rs) (t26 : Int) (t27 : Int) (t72 : Bool) (loc4_0 : Int) (loc4_1 : Int) (loc4_2 : Int) (loc4_3 : Int) (loc1_0 : Int) (loc1_1 : Int) (loc1_2 : Rs) (loc1_3 : Rs) (loc1_4 : Rs)
  | h8 (i3 : Int) (n5 : Int) (end6 : Bool) (t25 : Rs) (t26 : Int) (t27 : Int) (t39 : Bool) (loc4_0 : Int) (loc4_1 : Int) (loc4_2 : Int) (loc4_3 : Int) (loc1_0 : Int) (loc1_1 : Int) (loc1_2 : Rs) (loc1_3 : Rs) (loc1_4 : Rs)
  | h9 (t25 : Rs) (t26 : Int) (t27 : Int) (t116 : Bool) (loc1_0 : Int) (loc1_1 : Int) (loc1_2 : Rs) (loc1_3 : Rs) (loc1_4 : Rs)
  | h10 (n5 : Int) (t25 : Rs) (t26 : Int) (t27 : Int) (t72 : Bool) (loc4_0 : Int) (loc4_1 : Int) (loc4_2 : Int) (loc4_3 : Int) (loc1_0 : Int) (loc1_1 : Int) (loc1_2 : Rs) (loc1_3 : Rs) (loc1_4 : Rs)
abbrev R16 := Bool
def res16 : R16 → ARes
  | r => .ret (.c (bc r))
def bx16 : R16 → List (List Cell)
  | r => []
noncomputable def t16_e (k : Nat) (rec : S16 → Option R16) (c0_0 : Int) (c0_1 : Int) (c0_2 : Rs) (c0_3 : Rs) (c0_4 : Rs) : Option R16 :=
  bif c0_1 != 0 then
    rec (.h0 true c0_0 c0_1 c0_2 c0_3 c0_4)
  else
    bif decide (c0_0 < 1) then
      rec (.h0 true c0_0 c0_1 c0_2 c0_3 c0_4)
    else
      rec (.h0 ((IntKind.i64.wrap ((c0_4.length : Int) - 1)) != c0_0) c0_0 c0_1 c0_2 c0_3 c0_4)
noncomputable def t16_h0 (k : Nat) (rec : S16 → Option R16) (t23 : Bool) (loc1_0 : Int) (loc1_1 : Int) (loc1_2 : Rs) (loc1_3 : Rs) (loc1_4 : Rs) : Option R16 :=
  bif t23 then
    some false
  else
    rec (.h1 loc1_4 (loc1_4.length : Int) 0 loc1_0 loc1_1 loc1_2 loc1_3 loc1_4)
noncomputable def t16_h1 (k : Nat) (rec : S16 → Option R16) (t25 : Rs) (t26 : Int) (t27 : Int) (loc1_0 : Int) (loc1_1 : Int) (loc1_2 : Rs) (loc1_3 : Rs) (loc1_4 : Rs) : Option R16 :=
  bif decide (t27 < t26) then
    ixR t25 t27 fun w_x2 =>
    un_i4 w_x2 fun op_x4 dst_x4 a_x4 b_x4 =>
    (g31 k op_x4).bind fun v_x5 =>
    bif t27 == loc1_0 then
      bif true != (op_x4 == 52) then
        rec (.h2 t27 v_x5 true t25 t26 t27 true op_x4 dst_x4 a_x4 b_x4 loc1_0 loc1_1 loc1_2 loc1_3 loc1_4)
      else
        rec (.h3 t27 v_x5 true t25 t26 t27 (dst_x4 != 0) op_x4 dst_x4 a_x4 b_x4 loc1_0 loc1_1 loc1_2 loc1_3 loc1_4)
    else
      bif false != (op_x4 == 52) then
        rec (.h2 t27 v_x5 false t25 t26 t27 true op_x4 dst_x4 a_x4 b_x4 loc1_0 loc1_1 loc1_2 loc1_3 loc1_4)
      else
        rec (.h3 t27 v_x5 false t25 t26 t27 false op_x4 dst_x4 a_x4 b_x4 loc1_0 loc1_1 loc1_2 loc1_3 loc1_4)
  else
    some true
noncomputable def t16_h2 (k : Nat) (rec : S16 → Option R16) (i3 : Int) (n5 : Int) (end6 : Bool) (t25 : Rs) (t26 : Int) (t27 : Int) (t39 : Bool) (loc4_0 : Int) (loc4_1 : Int) (loc4_2 : Int) (loc4_3 : Int) (loc1_0 : Int) (loc1_1 : Int) (loc1_2 : Rs) (loc1_3 : Rs) (loc1_4 : Rs) : Option R16 :=
  bif t39 then
    some false
  else
    bif decide (n5 > 0) then
      bif decide (loc4_2 ≥ i3) then
        rec (.h4 i3 n5 end6 t25 t26 t27 true loc4_0 loc4_1 loc4_2 loc4_3 loc1_0 loc1_1 loc1_2 loc1_3 loc1_4)
      else
        rec (.h4 i3 n5 end6 t25 t26 t27 (decide (loc4_3 ≥ i3)) loc4_0 loc4_1 loc4_2 loc4_3 loc1_0 loc1_1 loc1_2 loc1_3 loc1_4)
    else
      rec (.h4 i3 n5 end6 t25 t26 t27 false loc4_0 loc4_1 loc4_2 loc4_3 loc1_0 loc1_1 loc1_2 loc1_3 loc1_4)
noncomputable def t16_h3 (k : Nat) (rec : S16 → Option R16) (i3 : Int) (n5 : Int) (end6 : Bool) (t25 : Rs) (t26 : Int) (t27 : Int) (t39 : Bool) (loc4_0 : Int) (loc4_1 : Int) (loc4_2 : Int) (loc4_3 : Int) (loc1_0 : Int) (loc1_1 : Int) (loc1_2 : Rs) (loc1_3 : Rs) (loc1_4 : Rs) : Option R16 :=
  bif t39 then
    rec (.h2 i3 n5 end6 t25 t26 t27 t39 loc4_0 loc4_1 loc4_2 loc4_3 loc1_0 loc1_1 loc1_2 loc1_3 loc1_4)
  else
    bif !end6 then
      rec (.h5 i3 n5 end6 t25 t26 t27 (loc4_1 != i3) loc4_0 loc4_1 loc4_2 loc4_3 loc1_0 loc1_1 loc1_2 loc1_3 loc1_4)
    else
      rec (.h5 i3 n5 end6 t25 t26 t27 false loc4_0 loc4_1 loc4_2 loc4_3 loc1_0 loc1_1 loc1_2 loc1_3 loc1_4)
noncomputable def t16_h4 (k : Nat) (rec : S16 → Option R16) (i3 : Int) (n5 : Int) (end6 : Bool) (t25 : Rs) (t26 : Int) (t27 : Int) (t72 : Bool) (loc4_0 : Int) (loc4_1 : Int) (loc4_2 : Int) (loc4_3 : Int) (loc1_0 : Int) (loc1_1 : Int) (loc1_2 : Rs) (loc1_3 : Rs) (loc1_4 : Rs) : Option R16 :=
  bif t72 then
    rec (.h6 n5 t25 t26 t27 t72 loc4_0 loc4_1 loc4_2 loc4_3 loc1_0 loc1_1 loc1_2 loc1_3 loc1_4)
  else
    bif end6 then
      rec (.h7 n5 t25 t26 t27 (decide (loc4_2 ≥ i3)) loc4_0 loc4_1 loc4_2 loc4_3 loc1_0 loc1_1 loc1_2 loc1_3 loc1_4)
    else
      rec (.h7 n5 t25 t26 t27 false loc4_0 loc4_1 loc4_2 loc4_3 loc1_0 loc1_1 loc1_2 loc1_3 loc1_4)
noncomputable def t16_h5 (k : Nat) (rec : S16 → Option R16) (i3 : Int) (n5 : Int) (end6 : Bool) (t25 : Rs) (t26 : Int) (t27 : Int) (t39 : Bool) (loc4_0 : Int) (loc4_1 : Int) (loc4_2 : Int) (loc4_3 : Int) (loc1_0 : Int) (loc1_1 : Int) (loc1_2 : Rs) (loc1_3 : Rs) (loc1_4 : Rs) : Option R16 :=
  bif t39 then
    rec (.h2 i3 n5 end6 t25 t26 t27 t39 loc4_0 loc4_1 loc4_2 loc4_3 loc1_0 loc1_1 loc1_2 loc1_3 loc1_4)
  else
    bif decide (n5 < 2) then
      rec (.h8 i3 n5 end6 t25 t26 t27 (loc4_3 != 0) loc4_0 loc4_1 loc4_2 loc4_3 loc1_0 loc1_1 loc1_2 loc1_3 loc1_4)
    else
      rec (.h8 i3 n5 end6 t25 t26 t27 false loc4_0 loc4_1 loc4_2 loc4_3 loc1_0 loc1_1 loc1_2 loc1_3 loc1_4)
noncomputable def t16_h6 (k : Nat) (rec : S16 → Option R16) (n5 : Int) (t25 : Rs) (t26 : Int) (t27 : Int) (t72 : Bool) (loc4_0 : Int) (loc4_1 : Int) (loc4_2 : Int) (loc4_3 : Int) (loc1_0 : Int) (loc1_1 : Int) (loc1_2 : Rs) (loc1_3 : Rs) (loc1_4 : Rs) : Option R16 :=
  bif t72 then
    some false
  else
    bif n5 == 0 then
      bif loc4_0 != 50 then
        bif loc4_0 != 51 then
          rec (.h9 t25 t26 t27 (loc4_0 != 52) loc1_0 loc1_1 loc1_2 loc1_3 loc1_4)
        else
          rec (.h9 t25 t26 t27 false loc1_0 loc1_1 loc1_2 loc1_3 loc1_4)
      else
        rec (.h9 t25 t26 t27 false loc1_0 loc1_1 loc1_2 loc1_3 loc1_4)
    else
      rec (.h9 t25 t26 t27 false loc1_0 loc1_1 loc1_2 loc1_3 loc1_4)
noncomputable def t16_h7 (k : Nat) (rec : S16 → Option R16) (n5 : Int) (t25 : Rs) (t26 : Int) (t27 : Int) (t72 : Bool) (loc4_0 : Int) (loc4_1 : Int) (loc4_2 : Int) (loc4_3 : Int) (loc1_0 : Int) (loc1_1 : Int) (loc1_2 : Rs) (loc1_3 : Rs) (loc1_4 : Rs) : Option R16 :=
  bif t72 then
    rec (.h6 n5 t25 t26 t27 t72 loc4_0 loc4_1 loc4_2 loc4_3 loc1_0 loc1_1 loc1_2 loc1_3 loc1_4)
  else
    bif loc4_0 == 50 then
      rec (.h10 n5 t25 t26 t27 (decide (loc4_2 ≥ (loc1_2.length : Int))) loc4_0 loc4_1 loc4_2 loc4_3 loc1_0 loc1_1 loc1_2 loc1_3 loc1_4)
    else
      rec (.h10 n5 t25 t26 t27 false loc4_0 loc4_1 loc4_2 loc4_3 loc1_0 loc1_1 loc1_2 loc1_3 loc1_4)
noncomputable def t16_h8 (k : Nat) (rec : S16 → Option R16) (i3 : Int) (n5 : Int) (end6 : Bool) (t25 : Rs) (t26 : Int) (t27 : Int) (t39 : Bool) (loc4_0 : Int) (loc4_1 : Int) (loc4_2 : Int) (loc4_3 : Int) (loc1_0 : Int) (loc1_1 : Int) (loc1_2 : Rs) (loc1_3 : Rs) (loc1_4 : Rs) : Option R16 :=
  bif t39 then
    rec (.h2 i3 n5 end6 t25 t26 t27 t39 loc4_0 loc4_1 loc4_2 loc4_3 loc1_0 loc1_1 loc1_2 loc1_3 loc1_4)
  else
    bif decide (loc4_2 < 0) then
      rec (.h2 i3 n5 end6 t25 t26 t27 true loc4_0 loc4_1 loc4_2 loc4_3 loc1_0 loc1_1 loc1_2 loc1_3 loc1_4)
    else
      rec (.h2 i3 n5 end6 t25 t26 t27 (decide (loc4_3 < 0)) loc4_0 loc4_1 loc4_2 loc4_3 loc1_0 loc1_1 loc1_2 loc1_3 loc1_4)
noncomputable def t16_h9 (k : Nat) (rec : S16 → Option R16) (t25 : Rs) (t26 : Int) (t27 : Int) (t116 : Bool) (loc1_0 : Int) (loc1_1 : Int) (loc1_2 : Rs) (loc1_3 : Rs) (loc1_4 : Rs) : Option R16 :=
  bif t116 then
    some false
  else
    rec (.h1 t25 t26 (IntKind.i64.wrap (t27 + 1)) loc1_0 loc1_1 loc1_2 loc1_3 loc1_4)
noncomputable def t16_h10 (k : Nat) (rec : S16 → Option R16) (n5 : Int) (t25 : Rs) (t26 : Int) (t27 : Int) (t72 : Bool) (loc4_0 : Int) (loc4_1 : Int) (loc4_2 : Int) (loc4_3 : Int) (loc1_0 : Int) (loc1_1 : Int) (loc1_2 : Rs) (loc1_3 : Rs) (loc1_4 : Rs) : Option R16 :=
  bif t72 then
    rec (.h6 n5 t25 t26 t27 t72 loc4_0 loc4_1 loc4_2 loc4_3 loc1_0 loc1_1 loc1_2 loc1_3 loc1_4)
  else
    bif loc4_0 == 51 then
      rec (.h6 n5 t25 t26 t27 (decide (loc4_2 ≥ (loc1_3.length : Int))) loc4_0 loc4_1 loc4_2 loc4_3 loc1_0 loc1_1 loc1_2 loc1_3 loc1_4)
    else
      rec (.h6 n5 t25 t26 t27 false loc4_0 loc4_1 loc4_2 loc4_3 loc1_0 loc1_1 loc1_2 loc1_3 loc1_4)
noncomputable def step16 (k : Nat) (rec : S16 → Option R16) : S16 → Option R16
  | .e c0_0 c0_1 c0_2 c0_3 c0_4 => t16_e k rec c0_0 c0_1 c0_2 c0_3 c0_4
  | .h0 t23 loc1_0 loc1_1 loc1_2 loc1_3 loc1_4 => t16_h0 k rec t23 loc1_0 loc1_1 loc1_2 loc1_3 loc1_4
  | .h1 t25 t26 t27 loc1_0 loc1_1 loc1_2 loc1_3 loc1_4 => t16_h1 k rec t25 t26 t27 loc1_0 loc1_1 loc1_2 loc1_3 loc1_4
  | .h2 i3 n5 end6 t25 t26 t27 t39 loc4_0 loc4_1 loc4_2 loc4_3 loc1_0 loc1_1 loc1_2 loc1_3 loc1_4 => t16_h2 k rec i3 n5 end6 t25 t26 t27 t39 loc4_0 loc4_1 loc4_2 loc4_3 loc1_0 loc1_1 loc1_2 loc1_3 loc1_4
  | .h3 i3 n5 end6 t25 t26 t27 t39 loc4_0 loc4_1 loc4_2 loc4_3 loc1_0 loc1_1 loc1_2 loc1_3 loc1_4 => t16_h3 k rec i3 n5 end6 t25 t26 t27 t39 loc4_0 loc4_1 loc4_2 loc4_3 loc1_0 loc1_1 loc1_2 loc1_3 loc1_4
  | .h4 i3 n5 end6 t25 t26 t27 t72 loc4_0 loc4_1 loc4_2 loc4_3 loc1_0 loc1_1 loc1_2 loc1_3 loc1_4 => t16_h4 k rec i3 n5 end6 t25 t26 t27 t72 loc4_0 loc4_1 loc4_2 loc4_3 loc1_0 loc1_1 loc1_2 loc1_3 loc1_4
  | .h5 i3 n5 end6 t25 t26 t27 t39 loc4_0 loc4_1 loc4_2 loc4_3 loc1_0 loc1_1 loc1_2 loc1_3 loc1_4 => t16_h5 k rec i3 n5 end6 t25 t26 t27 t39 loc4_0 loc4_1 loc4_2 loc4_3 loc1_0 loc1_1 loc1_2 loc1_3 loc1_4
  | .h6 n5 t25 t26 t27 t72 loc4_0 loc4_1 loc4_2 loc4_3 loc1_0 loc1_1 loc1_2 loc1_3 loc1_4 => t16_h6 k rec n5 t25 t26 t27 t72 loc4_0 loc4_1 loc4_2 loc4_3 loc1_0 loc1_1 loc1_2 loc1_3 loc1_4
  | .h7 n5 t25 t26 t27 t72 loc4_0 loc4_1 loc4_2 loc4_3 loc1_0 loc1_1 loc1_2 loc1_3 loc1_4 => t16_h7 k rec n5 t25 t26 t27 t72 loc4_0 loc4_1 loc4_2 loc4_3 loc1_0 loc1_1 loc1_2 loc1_3 loc1_4
  | .h8 i3 n5 end6 t25 t26 t27 t39 loc4_0 loc4_1 loc4_2 loc4_3 loc1_0 loc1_1 loc1_2 loc1_3 loc1_4 => t16_h8 k rec i3 n5 end6 t25 t26 t27 t39 loc4_0 loc4_1 loc4_2 loc4_3 loc1_0 loc1_1 loc1_2 loc1_3 loc1_4
  | .h9 t25 t26 t27 t116 loc1_0 loc1_1 loc1_2 loc1_3 loc1_4 => t16_h9 k rec t25 t26 t27 t116 loc1_0 loc1_1 loc1_2 loc1_3 loc1_4
  | .h10 n5 t25 t26 t27 t72 loc4_0 loc4_1 loc4_2 loc4_3 loc1_0 loc1_1 loc1_2 loc1_3 loc1_4 => t16_h10 k rec n5 t25 t26 t27 t72 loc4_0 loc4_1 loc4_2 loc4_3 loc1_0 loc1_1 loc1_2 loc1_3 loc1_4
noncomputable def g16 (k : Nat) (c0_0 : Int) (c0_1 : Int) (c0_2 : Rs) (c0_3 : Rs) (c0_4 : Rs) : Option R16 := itS step16 k (.e c0_0 c0_1 c0_2 c0_3 c0_4)
noncomputable def P16 : S16 → R16 → Prop
  | .e c0_0 c0_1 c0_2 c0_3 c0_4, r => Fin cx16 Try.f16 [.code body16] (fr0 Try.f16 [.ag [ic c0_0, ic c0_1, .imm c0_2, .imm c0_3, .imm c0_4]] []) (res16 r) (bx16 r)
  | .h0 t23 loc1_0 loc1_1 loc1_2 loc1_3 loc1_4, r => Fin cx16 Try.f16 (kAt body16 [1, 0, 1, 2] []) ⟨[.deadv, .c (.ptr ⟨⟨.loc 1, []⟩, 0, 0⟩)] ++ rep 21 .deadv ++ [.c (bc t23)] ++ rep 111 .deadv, [(.loc 1, [ic loc1_0, ic loc1_1, .imm loc1_2, .imm loc1_3, .imm loc1_4])]⟩ (res16 r) (bx16 r)
  | .h1 t25 t26 t27 loc1_0 loc1_1 loc1_2 loc1_3 loc1_4, r => Fin cx16 Try.f16 (kAt body16 [1, 1, 0, 1, 0, 4] []) ⟨[.deadv, .c (.ptr ⟨⟨.loc 1, []⟩, 0, 0⟩)] ++ rep 23 .deadv ++ [.c (.imm t25), .c (ic t26), .c (ic t27)] ++ rep 107 .deadv, [(.loc 1, [ic loc1_0, ic loc1_1, .imm loc1_2, .imm loc1_3, .imm loc1_4])]⟩ (res16 r) (bx16 r)
  | .h2 i3 n5 end6 t25 t26 t27 t39 loc4_0 loc4_1 loc4_2 loc4_3 loc1_0 loc1_1 loc1_2 loc1_3 loc1_4, r => Fin cx16 Try.f16 (kAt body16 [1, 1, 0, 1, 0, 0, 1, 1, 0, 0, 1, 1, 1, 0, 1, 2] []) ⟨[.deadv, .c (.ptr ⟨⟨.loc 1, []⟩, 0, 0⟩), .deadv, .c (ic i3), .c (.ptr ⟨⟨.loc 4, []⟩, 0, 0⟩), .c (ic n5), .c (bc end6)] ++ rep 18 .deadv ++ [.c (.imm t25), .c (ic t26), .c (ic t27)] ++ rep 11 .deadv ++ [.c (bc t39)] ++ rep 95 .deadv, [(.loc 4, [ic loc4_0, ic loc4_1, ic loc4_2, ic loc4_3]), (.loc 1, [ic loc1_0, ic loc1_1, .imm loc1_2, .imm loc1_3, .imm loc1_4])]⟩ (res16 r) (bx16 r)
  | .h3 i3 n5 end6 t25 t26 t27 t39 loc4_0 loc4_1 loc4_2 loc4_3 loc1_0 loc1_1 loc1_2 loc1_3 loc1_4, r => Fin cx16 Try.f16 (kAt body16 [1, 1, 0, 1, 0, 0, 1, 1, 0, 0, 1, 1, 1, 0, 0, 1, 1, 1, 2] []) ⟨[.deadv, .c (.ptr ⟨⟨.loc 1, []⟩, 0, 0⟩), .deadv, .c (ic i3), .c (.ptr ⟨⟨.loc 4, []⟩, 0, 0⟩), .c (ic n5), .c (bc end6)] ++ rep 18 .deadv ++ [.c (.imm t25), .c (ic t26), .c (ic t27)] ++ rep 11 .deadv ++ [.c (bc t39)] ++ rep 95 .deadv, [(.loc 4, [ic loc4_0, ic loc4_1, ic loc4_2, ic loc4_3]), (.loc 1, [ic loc1_0, ic loc1_1, .imm loc1_2, .imm loc1_3, .imm loc1_4])]⟩ (res16 r) (bx16 r)
  | .h4 i3 n5 end6 t25 t26 t27 t72 loc4_0 loc4_1 loc4_2 loc4_3 loc1_0 loc1_1 loc1_2 loc1_3 loc1_4, r => Fin cx16 Try.f16 (kAt body16 [1, 1, 0, 1, 0, 0, 1, 1, 0, 0, 1, 1, 1, 0, 1, 1, 0, 1, 2] []) ⟨[.deadv, .c (.ptr ⟨⟨.loc 1, []⟩, 0, 0⟩), .deadv, .c (ic i3), .c (.ptr ⟨⟨.loc 4, []⟩, 0, 0⟩), .c (ic n5), .c (bc end6)] ++ rep 18 .deadv ++ [.c (.imm t25), .c (ic t26), .c (ic t27)] ++ rep 44 .deadv ++ [.c (bc t72)] ++ rep 62 .deadv, [(.loc 4, [ic loc4_0, ic loc4_1, ic loc4_2, ic loc4_3]), (.loc 1, [ic loc1_0, ic loc1_1, .imm loc1_2, .imm loc1_3, .imm loc1_4])]⟩ (res16 r) (bx16 r)
  | .h5 i3 n5 end6 t25 t26 t27 t39 loc4_0 loc4_1 loc4_2 loc4_3 loc1_0 loc1_1 loc1_2 loc1_3 loc1_4, r => Fin cx16 Try.f16 (kAt body16 [1, 1, 0, 1, 0, 0, 1, 1, 0, 0, 1, 1, 1, 0, 0, 1, 1, 1, 1, 1, 2] []) ⟨[.deadv, .c (.ptr ⟨⟨.loc 1, []⟩, 0, 0⟩), .deadv, .c (ic i3), .c (.ptr ⟨⟨.loc 4, []⟩, 0, 0⟩), .c (ic n5), .c (bc end6)] ++ rep 18 .deadv ++ [.c (.imm t25), .c (ic t26), .c (ic t27)] ++ rep 11 .deadv ++ [.c (bc t39)] ++ rep 95 .deadv, [(.loc 4, [ic loc4_0, ic loc4_1, ic loc4_2, ic loc4_3]), (.loc 1, [ic loc1_0, ic loc1_1, .imm loc1_2, .imm loc1_3, .imm loc1_4])]⟩ (res16 r) (bx16 r)
  | .h6 n5 t25 t26 t27 t72 loc4_0 loc4_1 loc4_2 loc4_3 loc1_0 loc1_1 loc1_2 loc1_3 loc1_4, r => Fin cx16 Try.f16 (kAt body16 [1, 1, 0, 1, 0, 0, 1, 1, 0, 0, 1, 1, 1, 0, 1, 1, 1, 2] []) ⟨[.deadv, .c (.ptr ⟨⟨.loc 1, []⟩, 0, 0⟩), .deadv, .deadv, .c (.ptr ⟨⟨.loc 4, []⟩, 0, 0⟩), .c (ic n5)] ++ rep 19 .deadv ++ [.c (.imm t25), .c (ic t26), .c (ic t27)] ++ rep 44 .deadv ++ [.c (bc t72)] ++ rep 62 .deadv, [(.loc 4, [ic loc4_0, ic loc4_1, ic loc4_2, ic loc4_3]), (.loc 1, [ic loc1_0, ic loc1_1, .imm loc1_2, .imm loc1_3, .imm loc1_4])]⟩ (res16 r) (bx16 r)
  | .h7 n5 t25 t26 t27 t72 loc4_0 loc4_1 loc4_2 loc4_3 loc1_0 loc1_1 loc1_2 loc1_3 loc1_4, r => Fin cx16 Try.f16 (kAt body16 [1, 1, 0, 1, 0, 0, 1, 1, 0, 0, 1, 1, 1, 0, 1, 1, 0, 1, 1, 1, 2] []) ⟨[.deadv, .c (.ptr ⟨⟨.loc 1, []⟩, 0, 0⟩), .deadv, .deadv, .c (.ptr ⟨⟨.loc 4, []⟩, 0, 0⟩), .c (ic n5)] ++ rep 19 .deadv ++ [.c (.imm t25), .c (ic t26), .c (ic t27)] ++ rep 44 .deadv ++ [.c (bc t72)] ++ rep 62 .deadv, [(.loc 4, [ic loc4_0, ic loc4_1, ic loc4_2, ic loc4_3]), (.loc 1, [ic loc1_0, ic loc1_1, .imm loc1_2, .imm loc1_3, .imm loc1_4])]⟩ (res16 r) (bx16 r)
  | .h8 i3 n5 end6 t25 t26 t27 t39 loc4_0 loc4_1 loc4_2 loc4_3 loc1_0 loc1_1 loc1_2 loc1_3 loc1_4, r => Fin cx16 Try.f16 (kAt body16 [1, 1, 0, 1, 0, 0, 1, 1, 0, 0, 1, 1, 1, 0, 0, 1, 1, 1, 1, 1, 1, 1, 2] []) ⟨[.deadv, .c (.ptr ⟨⟨.loc 1, []⟩, 0, 0⟩), .deadv, .c (ic i3), .c (.ptr ⟨⟨.loc 4, []⟩, 0, 0⟩), .c (ic n5), .c (bc end6)] ++ rep 18 .deadv ++ [.c (.imm t25), .c (ic t26), .c (ic t27)] ++ rep 11 .deadv ++ [.c (bc t39)] ++ rep 95 .deadv, [(.loc 4, [ic loc4_0, ic loc4_1, ic loc4_2, ic loc4_3]), (.loc 1, [ic loc1_0, ic loc1_1, .imm loc1_2, .imm loc1_3, .imm loc1_4])]⟩ (res16 r) (bx16 r)
  | .h9 t25 t26 t27 t116 loc1_0 loc1_1 loc1_2 loc1_3 loc1_4, r => Fin cx16 Try.f16 (kAt body16 [1, 1, 0, 1, 0, 0, 1, 1, 0, 0, 1, 1, 1, 0, 1, 1, 1, 1, 1, 2] []) ⟨[.deadv, .c (.ptr ⟨⟨.loc 1, []⟩, 0, 0⟩)] ++ rep 23 .deadv ++ [.c (.imm t25), .c (ic t26), .c (ic t27)] ++ rep 88 .deadv ++ [.c (bc t116)] ++ rep 18 .deadv, [(.loc 1, [ic loc1_0, ic loc1_1, .imm loc1_2, .imm loc1_3, .imm loc1_4])]⟩ (res16 r) (bx16 r)
  | .h10 n5 t25 t26 t27 t72 loc4_0 loc4_1 loc4_2 loc4_3 loc1_0 loc1_1 loc1_2 loc1_3 loc1_4, r => Fin cx16 Try.f16 (kAt body16 [1, 1, 0, 1, 0, 0, 1, 1, 0, 0, 1, 1, 1, 0, 1, 1, 0, 1, 1, 1, 1, 1, 2] []) ⟨[.deadv, .c (.ptr ⟨⟨.loc 1, []⟩, 0, 0⟩), .deadv, .deadv, .c (.ptr ⟨⟨.loc 4, []⟩, 0, 0⟩), .c (ic n5)] ++ rep 19 .deadv ++ [.c (.imm t25), .c (ic t26), .c (ic t27)] ++ rep 44 .deadv ++ [.c (bc t72)] ++ rep 62 .deadv, [(.loc 4, [ic loc4_0, ic loc4_1, ic loc4_2, ic loc4_3]), (.loc 1, [ic loc1_0, ic loc1_1, .imm loc1_2, .imm loc1_3, .imm loc1_4])]⟩ (res16 r) (bx16 r)
theorem evr16 {c0_0 : Int} {c0_1 : Int} {c0_2 : Rs} {c0_3 : Rs} {c0_4 : Rs} {r : R16} (h : P16 (.e c0_0 c0_1 c0_2 c0_3 c0_4) r) : Ev Try.prog noHand 16 [.ag [ic c0_0, ic c0_1, .imm c0_2, .imm c0_3, .imm c0_4]] [] (res16 r) (bx16 r) := ev_of_fin (fn := Try.f16) (body := body16) (by kernel_rfl) (by kernel_rfl) (by kernel_rfl) rfl h
theorem t16_e_ok (k : Nat) (rec : S16 → Option R16) (ih : ∀ s r, rec s = some r → P16 s r) (c0_0 : Int) (c0_1 : Int) (c0_2 : Rs) (c0_3 : Rs) (c0_4 : Rs) (r : R16) (h : t16_e k rec c0_0 c0_1 c0_2 c0_3 c0_4 = some r) : P16 (.e c0_0 c0_1 c0_2 c0_3 c0_4) r := by
  unfold t16_e at h
  rcases bif_or h with ⟨h_x1, h⟩ | ⟨h_x1, h⟩
  ·
    exact mgo_at (nb := 0) hmix (ih _ _ h) (n := 5) (ad := [(some 9, .test true)]) (ps := [_]) (m := bm 135 43556142965880123323311949751266322677757) (ls := []) (cs := []) (by kernel_rfl) ⟨h_x1, trivial⟩
  ·
    rcases bif_or h with ⟨h_x2, h⟩ | ⟨h_x2, h⟩
    ·
      exact mgo_at (nb := 0) hmix (ih _ _ h) (n := 5) (ad := [(some 9, .test false), (some 13, .test true)]) (ps := [_, _]) (m := bm 135 43556142965880123323311949751266322677757) (ls := []) (cs := []) (by kernel_rfl) ⟨h_x1, h_x2, trivial⟩
    ·
      exact mgo_at (nb := 0) hmix (ih _ _ h) (n := 5) (ad := [(some 9, .test false), (some 13, .test false)]) (ps := [_, _]) (m := bm 135 43556142965880123323311949751266322677757) (ls := []) (cs := []) (by kernel_rfl) ⟨h_x1, h_x2, trivial⟩
theorem t16_h0_ok (k : Nat) (rec : S16 → Option R16) (ih : ∀ s r, rec s = some r → P16 s r) (t23 : Bool) (loc1_0 : Int) (loc1_1 : Int) (loc1_2 : Rs) (loc1_3 : Rs) (loc1_4 : Rs) (r : R16) (h : t16_h0 k rec t23 loc1_0 loc1_1 loc1_2 loc1_3 loc1_4 = some r) : P16 (.h0 t23 loc1_0 loc1_1 loc1_2 loc1_3 loc1_4) r := by
  unfold t16_h0 at h
  rcases bif_or h with ⟨hq, h1'⟩ | ⟨hq, h1'⟩
  · clear h; subst hq; have h := h1'; clear h1'
    rw [← Option.some.inj h]
    exact mgo_fin (nb := 0) hmix (n := 2000) (ad := []) (ps := []) (by kernel_rfl) trivial
  · clear h; subst hq; have h := h1'; clear h1'
    exact mgo_at (nb := 0) hmix (ih _ _ h) (n := 7) (ad := []) (ps := []) (m := bm 135 43556142965880123323311949751266096185341) (ls := []) (cs := []) (by kernel_rfl) trivial
theorem t16_h1_ok (k : Nat) (rec : S16 → Option R16) (ih : ∀ s r, rec s = some r → P16 s r) (t25 : Rs) (t26 : Int) (t27 : Int) (loc1_0 : Int) (loc1_1 : Int) (loc1_2 : Rs) (loc1_3 : Rs) (loc1_4 : Rs) (r : R16) (h : t16_h1 k rec t25 t26 t27 loc1_0 loc1_1 loc1_2 loc1_3 loc1_4 = some r) : P16 (.h1 t25 t26 t27 loc1_0 loc1_1 loc1_2 loc1_3 loc1_4) r := by
  unfold t16_h1 at h
  rcases bif_or h with ⟨h_x1, h⟩ | ⟨h_x1, h⟩
  ·
    obtain ⟨w_x2, h_x3, h⟩ := ixR_or h
    obtain ⟨op_x4, dst_x4, a_x4, b_x4, hq, h1'⟩ := un_i4_or h
    clear h; subst hq; have h := h1'; clear h1'
    obtain ⟨v_x5, h_x6, h⟩ := bd_or h
    rcases bif_or h with ⟨h_x7, h⟩ | ⟨h_x7, h⟩
    ·
      rcases bif_or h with ⟨h_x8, h⟩ | ⟨h_x8, h⟩
      ·
        exact mgo_at (nb := 0) hmix (ih _ _ h) (n := 20) (ad := [(some 28, .test true), (some 30, .row [ic op_x4, ic dst_x4, ic a_x4, ic b_x4]), (some 34, .call (.ret (.c (ic v_x5))) [] false), (some 38, .test true), (some 44, .test true)]) (ps := [_, _, _, _, _]) (m := bm 135 43556142965880123323311949750716340371333) (ls := []) (cs := []) (by kernel_rfl) ⟨h_x1, ix_row h_x3 rfl, (ev31 h_x6), h_x7, h_x8, trivial⟩
      ·
        exact mgo_at (nb := 0) hmix (ih _ _ h) (n := 21) (ad := [(some 28, .test true), (some 30, .row [ic op_x4, ic dst_x4, ic a_x4, ic b_x4]), (some 34, .call (.ret (.c (ic v_x5))) [] false), (some 38, .test true), (some 44, .test false)]) (ps := [_, _, _, _, _]) (m := bm 135 43556142965880123323311949750716340371333) (ls := []) (cs := []) (by kernel_rfl) ⟨h_x1, ix_row h_x3 rfl, (ev31 h_x6), h_x7, h_x8, trivial⟩
    ·
      rcases bif_or h with ⟨h_x8, h⟩ | ⟨h_x8, h⟩
      ·
        exact mgo_at (nb := 0) hmix (ih _ _ h) (n := 20) (ad := [(some 28, .test true), (some 30, .row [ic op_x4, ic dst_x4, ic a_x4, ic b_x4]), (some 34, .call (.ret (.c (ic v_x5))) [] false), (some 38, .test false), (some 44, .test true)]) (ps := [_, _, _, _, _]) (m := bm 135 43556142965880123323311949750716340371333) (ls := []) (cs := []) (by kernel_rfl) ⟨h_x1, ix_row h_x3 rfl, (ev31 h_x6), h_x7, h_x8, trivial⟩
      ·
        exact mgo_at (nb := 0) hmix (ih _ _ h) (n := 21) (ad := [(some 28, .test true), (some 30, .row [ic op_x4, ic dst_x4, ic a_x4, ic b_x4]), (some 34, .call (.ret (.c (ic v_x5))) [] false), (some 38, .test false), (some 44, .test false)]) (ps := [_, _, _, _, _]) (m := bm 135 43556142965880123323311949750716340371333) (ls := []) (cs := []) (by kernel_rfl) ⟨h_x1, ix_row h_x3 rfl, (ev31 h_x6), h_x7, h_x8, trivial⟩
  ·
    rw [← Option.some.inj h]
    exact mgo_fin (nb := 0) hmix (n := 2000) (ad := [(some 28, .test false)]) (ps := [_]) (by kernel_rfl) ⟨h_x1, trivial⟩
theorem t16_h2_ok (k : Nat) (rec : S16 → Option R16) (ih : ∀ s r, rec s = some r → P16 s r) (i3 : Int) (n5 : Int) (end6 : Bool) (t25 : Rs) (t26 : Int) (t27 : Int) (t39 : Bool) (loc4_0 : Int) (loc4_1 : Int) (loc4_2 : Int) (loc4_3 : Int) (loc1_0 : Int) (loc1_1 : Int) (loc1_2 : Rs) (loc1_3 : Rs) (loc1_4 : Rs) (r : R16) (h : t16_h2 k rec i3 n5 end6 t25 t26 t27 t39 loc4_0 loc4_1 loc4_2 loc4_3 loc1_0 loc1_1 loc1_2 loc1_3 loc1_4 = some r) : P16 (.h2 i3 n5 end6 t25 t26 t27 t39 loc4_0 loc4_1 loc4_2 loc4_3 loc1_0 loc1_1 loc1_2 loc1_3 loc1_4) r := by
  unfold t16_h2 at h
  rcases bif_or h with ⟨hq, h1'⟩ | ⟨hq, h1'⟩
  · clear h; subst hq; have h := h1'; clear h1'
    rw [← Option.some.inj h]
    exact mgo_fin (nb := 0) hmix (n := 2000) (ad := []) (ps := []) (by kernel_rfl) trivial
  · clear h; subst hq; have h := h1'; clear h1'
    rcases bif_or h with ⟨h_x1, h⟩ | ⟨h_x1, h⟩
    ·
      rcases bif_or h with ⟨h_x2, h⟩ | ⟨h_x2, h⟩
      ·
        exact mgo_at (nb := 0) hmix (ih _ _ h) (n := 4) (ad := [(some 74, .test true), (some 79, .test true)]) (ps := [_, _]) (m := bm 135 43556142965880123318589583268396450971525) (ls := []) (cs := []) (by kernel_rfl) ⟨h_x1, h_x2, trivial⟩
      ·
        exact mgo_at (nb := 0) hmix (ih _ _ h) (n := 4) (ad := [(some 74, .test true), (some 79, .test false)]) (ps := [_, _]) (m := bm 135 43556142965880123318589583268396450971525) (ls := []) (cs := []) (by kernel_rfl) ⟨h_x1, h_x2, trivial⟩
    ·
      exact mgo_at (nb := 0) hmix (ih _ _ h) (n := 4) (ad := [(some 74, .test false)]) (ps := [_]) (m := bm 135 43556142965880123318589583268396450971525) (ls := []) (cs := []) (by kernel_rfl) ⟨h_x1, trivial⟩
theorem t16_h3_ok (k : Nat) (rec : S16 → Option R16) (ih : ∀ s r, rec s = some r → P16 s r) (i3 : Int) (n5 : Int) (end6 : Bool) (t25 : Rs) (t26 : Int) (t27 : Int) (t39 : Bool) (loc4_0 : Int) (loc4_1 : Int) (loc4_2 : Int) (loc4_3 : Int) (loc1_0 : Int) (loc1_1 : Int) (loc1_2 : Rs) (loc1_3 : Rs) (loc1_4 : Rs) (r : R16) (h : t16_h3 k rec i3 n5 end6 t25 t26 t27 t39 loc4_0 loc4_1 loc4_2 loc4_3 loc1_0 loc1_1 loc1_2 loc1_3 loc1_4 = some r) : P16 (.h3 i3 n5 end6 t25 t26 t27 t39 loc4_0 loc4_1 loc4_2 loc4_3 loc1_0 loc1_1 loc1_2 loc1_3 loc1_4) r := by
  unfold t16_h3 at h
  rcases bif_or h with ⟨hq, h1'⟩ | ⟨hq, h1'⟩
  · clear h; subst hq; have h := h1'; clear h1'
    exact mgo_at (nb := 0) hmix (ih _ _ h) (n := 2) (ad := []) (ps := []) (m := bm 135 43556142965880123323311949750716340371333) (ls := []) (cs := []) (by kernel_rfl) trivial
  · clear h; subst hq; have h := h1'; clear h1'
    rcases bif_or h with ⟨h_x1, h⟩ | ⟨h_x1, h⟩
    ·
      exact mgo_at (nb := 0) hmix (ih _ _ h) (n := 3) (ad := [(some 52, .test true)]) (ps := [_]) (m := bm 135 43556142965880123323311949750716340371333) (ls := []) (cs := []) (by kernel_rfl) ⟨h_x1, trivial⟩
    ·
      exact mgo_at (nb := 0) hmix (ih _ _ h) (n := 3) (ad := [(some 52, .test false)]) (ps := [_]) (m := bm 135 43556142965880123323311949750716340371333) (ls := []) (cs := []) (by kernel_rfl) ⟨h_x1, trivial⟩
theorem t16_h4_ok (k : Nat) (rec : S16 → Option R16) (ih : ∀ s r, rec s = some r → P16 s r) (i3 : Int) (n5 : Int) (end6 : Bool) (t25 : Rs) (t26 : Int) (t27 : Int) (t72 : Bool) (loc4_0 : Int) (loc4_1 : Int) (loc4_2 : Int) (loc4_3 : Int) (loc1_0 : Int) (loc1_1 : Int) (loc1_2 : Rs) (loc1_3 : Rs) (loc1_4 : Rs) (r : R16) (h : t16_h4 k rec i3 n5 end6 t25 t26 t27 t72 loc4_0 loc4_1 loc4_2 loc4_3 loc1_0 loc1_1 loc1_2 loc1_3 loc1_4 = some r) : P16 (.h4 i3 n5 end6 t25 t26 t27 t72 loc4_0 loc4_1 loc4_2 loc4_3 loc1_0 loc1_1 loc1_2 loc1_3 loc1_4) r := by
  unfold t16_h4 at h
  rcases bif_or h with ⟨hq, h1'⟩ | ⟨hq, h1'⟩
  · clear h; subst hq; have h := h1'; clear h1'
    exact mgo_at (nb := 0) hmix (ih _ _ h) (n := 2) (ad := []) (ps := []) (m := bm 135 43556142965880123318589583268396450971597) (ls := []) (cs := []) (by kernel_rfl) trivial
  · clear h; subst hq; have h := h1'; clear h1'
    rcases bif_or h with ⟨hq, h1'⟩ | ⟨hq, h1'⟩
    · clear h; subst hq; have h := h1'; clear h1'
      exact mgo_at (nb := 0) hmix (ih _ _ h) (n := 3) (ad := []) (ps := []) (m := bm 135 43556142965880123318589583268396450971597) (ls := []) (cs := []) (by kernel_rfl) trivial
    · clear h; subst hq; have h := h1'; clear h1'
      exact mgo_at (nb := 0) hmix (ih _ _ h) (n := 3) (ad := []) (ps := []) (m := bm 135 43556142965880123318589583268396450971597) (ls := []) (cs := []) (by kernel_rfl) trivial
theorem t16_h5_ok (k : Nat) (rec : S16 → Option R16) (ih : ∀ s r, rec s = some r → P16 s r) (i3 : Int) (n5 : Int) (end6 : Bool) (t25 : Rs) (t26 : Int) (t27 : Int) (t39 : Bool) (loc4_0 : Int) (loc4_1 : Int) (loc4_2 : Int) (loc4_3 : Int) (loc1_0 : Int) (loc1_1 : Int) (loc1_2 : Rs) (loc1_3 : Rs) (loc1_4 : Rs) (r : R16) (h : t16_h5 k rec i3 n5 end6 t25 t26 t27 t39 loc4_0 loc4_1 loc4_2 loc4_3 loc1_0 loc1_1 loc1_2 loc1_3 loc1_4 = some r) : P16 (.h5 i3 n5 end6 t25 t26 t27 t39 loc4_0 loc4_1 loc4_2 loc4_3 loc1_0 loc1_1 loc1_2 loc1_3 loc1_4) r := by
  unfold t16_h5 at h
  rcases bif_or h with ⟨hq, h1'⟩ | ⟨hq, h1'⟩
  · clear h; subst hq; have h := h1'; clear h1'
    exact mgo_at (nb := 0) hmix (ih _ _ h) (n := 2) (ad := []) (ps := []) (m := bm 135 43556142965880123323311949750716340371333) (ls := []) (cs := []) (by kernel_rfl) trivial
  · clear h; subst hq; have h := h1'; clear h1'
    rcases bif_or h with ⟨h_x1, h⟩ | ⟨h_x1, h⟩
    ·
      exact mgo_at (nb := 0) hmix (ih _ _ h) (n := 3) (ad := [(some 60, .test true)]) (ps := [_]) (m := bm 135 43556142965880123323311949750716340371333) (ls := []) (cs := []) (by kernel_rfl) ⟨h_x1, trivial⟩
    ·
      exact mgo_at (nb := 0) hmix (ih _ _ h) (n := 3) (ad := [(some 60, .test false)]) (ps := [_]) (m := bm 135 43556142965880123323311949750716340371333) (ls := []) (cs := []) (by kernel_rfl) ⟨h_x1, trivial⟩
theorem t16_h6_ok (k : Nat) (rec : S16 → Option R16) (ih : ∀ s r, rec s = some r → P16 s r) (n5 : Int) (t25 : Rs) (t26 : Int) (t27 : Int) (t72 : Bool) (loc4_0 : Int) (loc4_1 : Int) (loc4_2 : Int) (loc4_3 : Int) (loc1_0 : Int) (loc1_1 : Int) (loc1_2 : Rs) (loc1_3 : Rs) (loc1_4 : Rs) (r : R16) (h : t16_h6 k rec n5 t25 t26 t27 t72 loc4_0 loc4_1 loc4_2 loc4_3 loc1_0 loc1_1 loc1_2 loc1_3 loc1_4 = some r) : P16 (.h6 n5 t25 t26 t27 t72 loc4_0 loc4_1 loc4_2 loc4_3 loc1_0 loc1_1 loc1_2 loc1_3 loc1_4) r := by
  unfold t16_h6 at h
  rcases bif_or h with ⟨hq, h1'⟩ | ⟨hq, h1'⟩
  · clear h; subst hq; have h := h1'; clear h1'
    rw [← Option.some.inj h]
    exact mgo_fin (nb := 0) hmix (n := 2000) (ad := []) (ps := []) (by kernel_rfl) trivial
  · clear h; subst hq; have h := h1'; clear h1'
    rcases bif_or h with ⟨h_x1, h⟩ | ⟨h_x1, h⟩
    ·
      rcases bif_or h with ⟨h_x2, h⟩ | ⟨h_x2, h⟩
      ·
        rcases bif_or h with ⟨h_x3, h⟩ | ⟨h_x3, h⟩
        ·
          exact mgo_at (nb := 0) hmix (ih _ _ h) (n := 3) (ad := [(some 118, .test true), (some 122, .test true), (some 127, .test true)]) (ps := [_, _, _]) (m := bm 135 43556059889130386766069893263324828663805) (ls := [4]) (cs := []) (by kernel_rfl) ⟨h_x1, h_x2, h_x3, trivial⟩
        ·
          exact mgo_at (nb := 0) hmix (ih _ _ h) (n := 3) (ad := [(some 118, .test true), (some 122, .test true), (some 127, .test false)]) (ps := [_, _, _]) (m := bm 135 43556059889130386766069893263324828663805) (ls := [4]) (cs := []) (by kernel_rfl) ⟨h_x1, h_x2, h_x3, trivial⟩
      ·
        exact mgo_at (nb := 0) hmix (ih _ _ h) (n := 3) (ad := [(some 118, .test true), (some 122, .test false)]) (ps := [_, _]) (m := bm 135 43556059889130386766069893263324828663805) (ls := [4]) (cs := []) (by kernel_rfl) ⟨h_x1, h_x2, trivial⟩
    ·
      exact mgo_at (nb := 0) hmix (ih _ _ h) (n := 3) (ad := [(some 118, .test false)]) (ps := [_]) (m := bm 135 43556059889130386766069893263324828663805) (ls := [4]) (cs := []) (by kernel_rfl) ⟨h_x1, trivial⟩
theorem t16_h7_ok (k : Nat) (rec : S16 → Option R16) (ih : ∀ s r, rec s = some r → P16 s r) (n5 : Int) (t25 : Rs) (t26 : Int) (t27 : Int) (t72 : Bool) (loc4_0 : Int) (loc4_1 : Int) (loc4_2 : Int) (loc4_3 : Int) (loc1_0 : Int) (loc1_1 : Int) (loc1_2 : Rs) (loc1_3 : Rs) (loc1_4 : Rs) (r : R16) (h : t16_h7 k rec n5 t25 t26 t27 t72 loc4_0 loc4_1 loc4_2 loc4_3 loc1_0 loc1_1 loc1_2 loc1_3 loc1_4 = some r) : P16 (.h7 n5 t25 t26 t27 t72 loc4_0 loc4_1 loc4_2 loc4_3 loc1_0 loc1_1 loc1_2 loc1_3 loc1_4) r := by
  unfold t16_h7 at h
  rcases bif_or h with ⟨hq, h1'⟩ | ⟨hq, h1'⟩
  · clear h; subst hq; have h := h1'; clear h1'
    exact mgo_at (nb := 0) hmix (ih _ _ h) (n := 2) (ad := []) (ps := []) (m := bm 135 43556142965880123318589583268396450971597) (ls := []) (cs := []) (by kernel_rfl) trivial
  · clear h; subst hq; have h := h1'; clear h1'
    rcases bif_or h with ⟨h_x1, h⟩ | ⟨h_x1, h⟩
    ·
      exact mgo_at (nb := 0) hmix (ih _ _ h) (n := 3) (ad := [(some 96, .test true)]) (ps := [_]) (m := bm 135 43556142965880123318589583268396450971597) (ls := []) (cs := []) (by kernel_rfl) ⟨h_x1, trivial⟩
    ·
      exact mgo_at (nb := 0) hmix (ih _ _ h) (n := 3) (ad := [(some 96, .test false)]) (ps := [_]) (m := bm 135 43556142965880123318589583268396450971597) (ls := []) (cs := []) (by kernel_rfl) ⟨h_x1, trivial⟩
theorem t16_h8_ok (k : Nat) (rec : S16 → Option R16) (ih : ∀ s r, rec s = some r → P16 s r) (i3 : Int) (n5 : Int) (end6 : Bool) (t25 : Rs) (t26 : Int) (t27 : Int) (t39 : Bool) (loc4_0 : Int) (loc4_1 : Int) (loc4_2 : Int) (loc4_3 : Int) (loc1_0 : Int) (loc1_1 : Int) (loc1_2 : Rs) (loc1_3 : Rs) (loc1_4 : Rs) (r : R16) (h : t16_h8 k rec i3 n5 end6 t25 t26 t27 t39 loc4_0 loc4_1 loc4_2 loc4_3 loc1_0 loc1_1 loc1_2 loc1_3 loc1_4 = some r) : P16 (.h8 i3 n5 end6 t25 t26 t27 t39 loc4_0 loc4_1 loc4_2 loc4_3 loc1_0 loc1_1 loc1_2 loc1_3 loc1_4) r := by
  unfold t16_h8 at h
  rcases bif_or h with ⟨hq, h1'⟩ | ⟨hq, h1'⟩
  · clear h; subst hq; have h := h1'; clear h1'
    exact mgo_at (nb := 0) hmix (ih _ _ h) (n := 2) (ad := []) (ps := []) (m := bm 135 43556142965880123323311949750716340371333) (ls := []) (cs := []) (by kernel_rfl) trivial
  · clear h; subst hq; have h := h1'; clear h1'
    rcases bif_or h with ⟨h_x1, h⟩ | ⟨h_x1, h⟩
    ·
      exact mgo_at (nb := 0) hmix (ih _ _ h) (n := 5) (ad := [(some 68, .test true)]) (ps := [_]) (m := bm 135 43556142965880123323311949750716340371333) (ls := []) (cs := []) (by kernel_rfl) ⟨h_x1, trivial⟩
    ·
      exact mgo_at (nb := 0) hmix (ih _ _ h) (n := 5) (ad := [(some 68, .test false)]) (ps := [_]) (m := bm 135 43556142965880123323311949750716340371333) (ls := []) (cs := []) (by kernel_rfl) ⟨h_x1, trivial⟩
theorem t16_h9_ok (k : Nat) (rec : S16 → Option R16) (ih : ∀ s r, rec s = some r → P16 s r) (t25 : Rs) (t26 : Int) (t27 : Int) (t116 : Bool) (loc1_0 : Int) (loc1_1 : Int) (loc1_2 : Rs) (loc1_3 : Rs) (loc1_4 : Rs) (r : R16) (h : t16_h9 k rec t25 t26 t27 t116 loc1_0 loc1_1 loc1_2 loc1_3 loc1_4 = some r) : P16 (.h9 t25 t26 t27 t116 loc1_0 loc1_1 loc1_2 loc1_3 loc1_4) r := by
  unfold t16_h9 at h
  rcases bif_or h with ⟨hq, h1'⟩ | ⟨hq, h1'⟩
  · clear h; subst hq; have h := h1'; clear h1'
    rw [← Option.some.inj h]
    exact mgo_fin (nb := 0) hmix (n := 2000) (ad := []) (ps := []) (by kernel_rfl) trivial
  · clear h; subst hq; have h := h1'; clear h1'
    exact mgo_at (nb := 0) hmix (ih _ _ h) (n := 5) (ad := []) (ps := []) (m := bm 135 43556142965880123323311949751266096185341) (ls := []) (cs := []) (by kernel_rfl) trivial
theorem t16_h10_ok (k : Nat) (rec : S16 → Option R16) (ih : ∀ s r, rec s = some r → P16 s r) (n5 : Int) (t25 : Rs) (t26 : Int) (t27 : Int) (t72 : Bool) (loc4_0 : Int) (loc4_1 : Int) (loc4_2 : Int) (loc4_3 : Int) (loc1_0 : Int) (loc1_1 : Int) (loc1_2 : Rs) (loc1_3 : Rs) (loc1_4 : Rs) (r : R16) (h : t16_h10 k rec n5 t25 t26 t27 t72 loc4_0 loc4_1 loc4_2 loc4_3 loc1_0 loc1_1 loc1_2 loc1_3 loc1_4 = some r) : P16 (.h10 n5 t25 t26 t27 t72 loc4_0 loc4_1 loc4_2 loc4_3 loc1_0 loc1_1 loc1_2 loc1_3 loc1_4) r := by
  unfold t16_h10 at h
  rcases bif_or h with ⟨hq, h1'⟩ | ⟨hq, h1'⟩
  · clear h; subst hq; have h := h1'; clear h1'
    exact mgo_at (nb := 0) hmix (ih _ _ h) (n := 2) (ad := []) (ps := []) (m := bm 135 43556142965880123318589583268396450971597) (ls := []) (cs := []) (by kernel_rfl) trivial
  · clear h; subst hq; have h := h1'; clear h1'
    rcases bif_or h with ⟨h_x1, h⟩ | ⟨h_x1, h⟩
    ·
      exact mgo_at (nb := 0) hmix (ih _ _ h) (n := 2) (ad := [(some 107, .test true)]) (ps := [_]) (m := bm 135 43556142965880123318589583268396450971597) (ls := []) (cs := []) (by kernel_rfl) ⟨h_x1, trivial⟩
    ·
      exact mgo_at (nb := 0) hmix (ih _ _ h) (n := 2) (ad := [(some 107, .test false)]) (ps := [_]) (m := bm 135 43556142965880123318589583268396450971597) (ls := []) (cs := []) (by kernel_rfl) ⟨h_x1, trivial⟩
theorem ok16 : ∀ k s r, itS step16 k s = some r → P16 s r := itS_ok fun k rec ih s r h => match s, h with
  | .e c0_0 c0_1 c0_2 c0_3 c0_4, h => t16_e_ok k rec ih c0_0 c0_1 c0_2 c0_3 c0_4 r h
  | .h0 t23 loc1_0 loc1_1 loc1_2 loc1_3 loc1_4, h => t16_h0_ok k rec ih t23 loc1_0 loc1_1 loc1_2 loc1_3 loc1_4 r h
  | .h1 t25 t26 t27 loc1_0 loc1_1 loc1_2 loc1_3 loc1_4, h => t16_h1_ok k rec ih t25 t26 t27 loc1_0 loc1_1 loc1_2 loc1_3 loc1_4 r h
  | .h2 i3 n5 end6 t25 t26 t27 t39 loc4_0 loc4_1 loc4_2 loc4_3 loc1_0 loc1_1 loc1_2 loc1_3 loc1_4, h => t16_h2_ok k rec ih i3 n5 end6 t25 t26 t27 t39 loc4_0 loc4_1 loc4_2 loc4_3 loc1_0 loc1_1 loc1_2 loc1_3 loc1_4 r h
  | .h3 i3 n5 end6 t25 t26 t27 t39 loc4_0 loc4_1 loc4_2 loc4_3 loc1_0 loc1_1 loc1_2 loc1_3 loc1_4, h => t16_h3_ok k rec ih i3 n5 end6 t25 t26 t27 t39 loc4_0 loc4_1 loc4_2 loc4_3 loc1_0 loc1_1 loc1_2 loc1_3 loc1_4 r h
  | .h4 i3 n5 end6 t25 t26 t27 t72 loc4_0 loc4_1 loc4_2 loc4_3 loc1_0 loc1_1 loc1_2 loc1_3 loc1_4, h => t16_h4_ok k rec ih i3 n5 end6 t25 t26 t27 t72 loc4_0 loc4_1 loc4_2 loc4_3 loc1_0 loc1_1 loc1_2 loc1_3 loc1_4 r h
  | .h5 i3 n5 end6 t25 t26 t27 t39 loc4_0 loc4_1 loc4_2 loc4_3 loc1_0 loc1_1 loc1_2 loc1_3 loc1_4, h => t16_h5_ok k rec ih i3 n5 end6 t25 t26 t27 t39 loc4_0 loc4_1 loc4_2 loc4_3 loc1_0 loc1_1 loc1_2 loc1_3 loc1_4 r h
  | .h6 n5 t25 t26 t27 t72 loc4_0 loc4_1 loc4_2 loc4_3 loc1_0 loc1_1 loc1_2 loc1_3 loc1_4, h => t16_h6_ok k rec ih n5 t25 t26 t27 t72 loc4_0 loc4_1 loc4_2 loc4_3 loc1_0 loc1_1 loc1_2 loc1_3 loc1_4 r h
  | .h7 n5 t25 t26 t27 t72 loc4_0 loc4_1 loc4_2 loc4_3 loc1_0 loc1_1 loc1_2 loc1_3 loc1_4, h => t16_h7_ok k rec ih n5 t25 t26 t27 t72 loc4_0 loc4_1 loc4_2 loc4_3 loc1_0 loc1_1 loc1_2 loc1_3 loc1_4 r h
  | .h8 i3 n5 end6 t25 t26 t27 t39 loc4_0 loc4_1 loc4_2 loc4_3 loc1_0 loc1_1 loc1_2 loc1_3 loc1_4, h => t16_h8_ok k rec ih i3 n5 end6 t25 t26 t27 t39 loc4_0 loc4_1 loc4_2 loc4_3 loc1_0 loc1_1 loc1_2 loc1_3 loc1_4 r h
  | .h9 t25 t26 t27 t116 loc1_0 loc1_1 loc1_2 loc1_3 loc1_4, h => t16_h9_ok k rec ih t25 t26 t27 t116 loc1_0 loc1_1 loc1_2 loc1_3 loc1_4 r h
  | .h10 n5 t25 t26 t27 t72 loc4_0 loc4_1 loc4_2 loc4_3 loc1_0 loc1_1 loc1_2 loc1_3 loc1_4, h => t16_h10_ok k rec ih n5 t25 t26 t27 t72 loc4_0 loc4_1 loc4_2 loc4_3 loc1_0 loc1_1 loc1_2 loc1_3 loc1_4 r h
theorem ev16 {k : Nat} {c0_0 : Int} {c0_1 : Int} {c0_2 : Rs} {c0_3 : Rs} {c0_4 : Rs} {r : R16} (h : g16 k c0_0 c0_1 c0_2 c0_3 c0_4 = some r) : Ev Try.prog noHand 16 [.ag [ic c0_0, ic c0_1, .imm c0_2, .imm c0_3, .imm c0_4]] [] (res16 r) (bx16 r) := evr16 (ok16 _ _ _ h)
-- auspice/auspiceref17.Twin
inductive S19 where
  | e (c0_0 : Int) (c0_1 : Int) (c0_2 : Rs) (c0_3 : Rs) (c0_4 : Rs)
  | h0 (loc2_0 : Int) (loc2_1 : Int) (loc2_2 : Rs) (loc2_3 : Rs) (loc2_4 : Rs)
abbrev R19 := Int × Int × Rs × Rs × Rs
def res19 : R19 → ARes
  | (r_0, r_1, r_2, r_3, r_4) => .ret (.ag [ic r_0, ic r_1, .imm r_2, .imm r_3, .imm r_4])
def bx19 : R19 → List (List Cell)
  | (r_0, r_1, r_2, r_3, r_4) => []
noncomputable def t19_e (k : Nat) (rec : S19 → Option R19) (c0_0 : Int) (c0_1 : Int) (c0_2 : Rs) (c0_3 : Rs) (c0_4 : Rs) : Option R19 :=
  bif c0_2.isEmpty then
    gd (apOk 32 4 [] c0_2) <|
    bif c0_3.isEmpty then
      gd (apOk 16 2 [] c0_3) <|
      bif c0_4.isEmpty then
        gd (apOk 32 4 [] c0_4) <|
        rec (.h0 c0_0 c0_1 [] [] [])
      else
        gd (apOk 32 4 [] c0_4) <|
        rec (.h0 c0_0 c0_1 [] [] (immRs (([] : Rs) ++ c0_4)))
    else
      gd (apOk 16 2 [] c0_3) <|
      bif c0_4.isEmpty then
        gd (apOk 32 4 [] c0_4) <|
        rec (.h0 c0_0 c0_1 [] (immRs (([] : Rs) ++ c0_3)) [])
      else
        gd (apOk 32 4 [] c0_4) <|
        rec (.h0 c0_0 c0_1 [] (immRs (([] : Rs) ++ c0_3)) (immRs (([] : Rs) ++ c0_4)))
  else
    gd (apOk 32 4 [] c0_2) <|
    bif c0_3.isEmpty then
      gd (apOk 16 2 [] c0_3) <|
      bif c0_4.isEmpty then
        gd (apOk 32 4 [] c0_4) <|
        rec (.h0 c0_0 c0_1 (immRs (([] : Rs) ++ c0_2)) [] [])
      else
        gd (apOk 32 4 [] c0_4) <|
        rec (.h0 c0_0 c0_1 (immRs (([] : Rs) ++ c0_2)) [] (immRs (([] : Rs) ++ c0_4)))
    else
      gd (apOk 16 2 [] c0_3) <|
      bif c0_4.isEmpty then
        gd (apOk 32 4 [] c0_4) <|
        rec (.h0 c0_0 c0_1 (immRs (([] : Rs) ++ c0_2)) (immRs (([] : Rs) ++ c0_3)) [])
      else
        gd (apOk 32 4 [] c0_4) <|
        rec (.h0 c0_0 c0_1 (immRs (([] : Rs) ++ c0_2)) (immRs (([] : Rs) ++ c0_3)) (immRs (([] : Rs) ++ c0_4)))
noncomputable def t19_h0 (k : Nat) (rec : S19 → Option R19) (loc2_0 : Int) (loc2_1 : Int) (loc2_2 : Rs) (loc2_3 : Rs) (loc2_4 : Rs) : Option R19 :=
  some (loc2_0, loc2_1, loc2_2, loc2_3, loc2_4)
noncomputable def step19 (k : Nat) (rec : S19 → Option R19) : S19 → Option R19
  | .e c0_0 c0_1 c0_2 c0_3 c0_4 => t19_e k rec c0_0 c0_1 c0_2 c0_3 c0_4
  | .h0 loc2_0 loc2_1 loc2_2 loc2_3 loc2_4 => t19_h0 k rec loc2_0 loc2_1 loc2_2 loc2_3 loc2_4
noncomputable def g19 (k : Nat) (c0_0 : Int) (c0_1 : Int) (c0_2 : Rs) (c0_3 : Rs) (c0_4 : Rs) : Option R19 := itS step19 k (.e c0_0 c0_1 c0_2 c0_3 c0_4)
noncomputable def P19 : S19 → R19 → Prop
  | .e c0_0 c0_1 c0_2 c0_3 c0_4, r => Fin cx19 Try.f19 [.code body19] (fr0 Try.f19 [.ag [ic c0_0, ic c0_1, .imm c0_2, .imm c0_3, .imm c0_4]] []) (res19 r) (bx19 r)
  | .h0 loc2_0 loc2_1 loc2_2 loc2_3 loc2_4, r => Fin cx19 Try.f19 (kAt body19 [1, 1, 1, 1, 1, 2] []) ⟨[.deadv, .deadv, .c (.ptr ⟨⟨.loc 2, []⟩, 0, 0⟩)] ++ rep 13 .deadv, [(.loc 2, [ic loc2_0, ic loc2_1, .imm loc2_2, .imm loc2_3, .imm loc2_4])]⟩ (res19 r) (bx19 r)
theorem evr19 {c0_0 : Int} {c0_1 : Int} {c0_2 : Rs} {c0_3 : Rs} {c0_4 : Rs} {r : R19} (h : P19 (.e c0_0 c0_1 c0_2 c0_3 c0_4) r) : Ev Try.prog noHand 19 [.ag [ic c0_0, ic c0_1, .imm c0_2, .imm c0_3, .imm c0_4]] [] (res19 r) (bx19 r) := ev_of_fin (fn := Try.f19) (body := body19) (by kernel_rfl) (by kernel_rfl) (by kernel_rfl) rfl h
theorem t19_e_ok (k : Nat) (rec : S19 → Option R19) (ih : ∀ s r, rec s = some r → P19 s r) (c0_0 : Int) (c0_1 : Int) (c0_2 : Rs) (c0_3 : Rs) (c0_4 : Rs) (r : R19) (h : t19_e k rec c0_0 c0_1 c0_2 c0_3 c0_4 = some r) : P19 (.e c0_0 c0_1 c0_2 c0_3 c0_4) r := by
  unfold t19_e at h
  rcases bif_or h with ⟨h_x1, h⟩ | ⟨h_x1, h⟩
  ·
    obtain ⟨h_x2, h⟩ := gd_or h
    rcases bif_or h with ⟨h_x3, h⟩ | ⟨h_x3, h⟩
    ·
      obtain ⟨h_x4, h⟩ := gd_or h
      rcases bif_or h with ⟨h_x5, h⟩ | ⟨h_x5, h⟩
      ·
        obtain ⟨h_x6, h⟩ := gd_or h
        exact mgo_at (nb := 0) hmix (ih _ _ h) (n := 10) (ad := [(some 5, .okE true), (some 9, .okE true), (some 13, .okE true)]) (ps := [_, _, _]) (m := bm 16 65531) (ls := [1]) (cs := [(⟨⟨.loc 2, []⟩, 0, 2⟩, none), (⟨⟨.loc 2, []⟩, 0, 3⟩, none), (⟨⟨.loc 2, []⟩, 0, 4⟩, none)]) (by kernel_rfl) ⟨okT h_x2 h_x1, okT h_x4 h_x3, okT h_x6 h_x5, trivial⟩
      ·
        obtain ⟨h_x6, h⟩ := gd_or h
        exact mgo_at (nb := 0) hmix (ih _ _ h) (n := 10) (ad := [(some 5, .okE true), (some 9, .okE true), (some 13, .okE false)]) (ps := [_, _, _]) (m := bm 16 65531) (ls := [1]) (cs := [(⟨⟨.loc 2, []⟩, 0, 2⟩, none), (⟨⟨.loc 2, []⟩, 0, 3⟩, none)]) (by kernel_rfl) ⟨okT h_x2 h_x1, okT h_x4 h_x3, okT h_x6 h_x5, trivial⟩
    ·
      obtain ⟨h_x4, h⟩ := gd_or h
      rcases bif_or h with ⟨h_x5, h⟩ | ⟨h_x5, h⟩
      ·
        obtain ⟨h_x6, h⟩ := gd_or h
        exact mgo_at (nb := 0) hmix (ih _ _ h) (n := 10) (ad := [(some 5, .okE true), (some 9, .okE false), (some 13, .okE true)]) (ps := [_, _, _]) (m := bm 16 65531) (ls := [1]) (cs := [(⟨⟨.loc 2, []⟩, 0, 2⟩, none), (⟨⟨.loc 2, []⟩, 0, 4⟩, none)]) (by kernel_rfl) ⟨okT h_x2 h_x1, okT h_x4 h_x3, okT h_x6 h_x5, trivial⟩
      ·
        obtain ⟨h_x6, h⟩ := gd_or h
        exact mgo_at (nb := 0) hmix (ih _ _ h) (n := 10) (ad := [(some 5, .okE true), (some 9, .okE false), (some 13, .okE false)]) (ps := [_, _, _]) (m := bm 16 65531) (ls := [1]) (cs := [(⟨⟨.loc 2, []⟩, 0, 2⟩, none)]) (by kernel_rfl) ⟨okT h_x2 h_x1, okT h_x4 h_x3, okT h_x6 h_x5, trivial⟩
  ·
    obtain ⟨h_x2, h⟩ := gd_or h
    rcases bif_or h with ⟨h_x3, h⟩ | ⟨h_x3, h⟩
    ·
      obtain ⟨h_x4, h⟩ := gd_or h
      rcases bif_or h with ⟨h_x5, h⟩ | ⟨h_x5, h⟩
      ·
        obtain ⟨h_x6, h⟩ := gd_or h
        exact mgo_at (nb := 0) hmix (ih _ _ h) (n := 10) (ad := [(some 5, .okE false), (some 9, .okE true), (some 13, .okE true)]) (ps := [_, _, _]) (m := bm 16 65531) (ls := [1]) (cs := [(⟨⟨.loc 2, []⟩, 0, 3⟩, none), (⟨⟨.loc 2, []⟩, 0, 4⟩, none)]) (by kernel_rfl) ⟨okT h_x2 h_x1, okT h_x4 h_x3, okT h_x6 h_x5, trivial⟩
      ·
        obtain ⟨h_x6, h⟩ := gd_or h
        exact mgo_at (nb := 0) hmix (ih _ _ h) (n := 10) (ad := [(some 5, .okE false), (some 9, .okE true), (some 13, .okE false)]) (ps := [_, _, _]) (m := bm 16 65531) (ls := [1]) (cs := [(⟨⟨.loc 2, []⟩, 0, 3⟩, none)]) (by kernel_rfl) ⟨okT h_x2 h_x1, okT h_x4 h_x3, okT h_x6 h_x5, trivial⟩
    ·
      obtain ⟨h_x4, h⟩ := gd_or h
      rcases bif_or h with ⟨h_x5, h⟩ | ⟨h_x5, h⟩
      ·
        obtain ⟨h_x6, h⟩ := gd_or h
        exact mgo_at (nb := 0) hmix (ih _ _ h) (n := 10) (ad := [(some 5, .okE false), (some 9, .okE false), (some 13, .okE true)]) (ps := [_, _, _]) (m := bm 16 65531) (ls := [1]) (cs := [(⟨⟨.loc 2, []⟩, 0, 4⟩, none)]) (by kernel_rfl) ⟨okT h_x2 h_x1, okT h_x4 h_x3, okT h_x6 h_x5, trivial⟩
      ·
        obtain ⟨h_x6, h⟩ := gd_or h
        exact mgo_at (nb := 0) hmix (ih _ _ h) (n := 10) (ad := [(some 5, .okE false), (some 9, .okE false), (some 13, .okE false)]) (ps := [_, _, _]) (m := bm 16 65531) (ls := [1]) (cs := []) (by kernel_rfl) ⟨okT h_x2 h_x1, okT h_x4 h_x3, okT h_x6 h_x5, trivial⟩
theorem t19_h0_ok (k : Nat) (rec : S19 → Option R19) (ih : ∀ s r, rec s = some r → P19 s r) (loc2_0 : Int) (loc2_1 : Int) (loc2_2 : Rs) (loc2_3 : Rs) (loc2_4 : Rs) (r : R19) (h : t19_h0 k rec loc2_0 loc2_1 loc2_2 loc2_3 loc2_4 = some r) : P19 (.h0 loc2_0 loc2_1 loc2_2 loc2_3 loc2_4) r := by
  unfold t19_h0 at h
  rw [← Option.some.inj h]
  exact mgo_fin (nb := 0) hmix (n := 2000) (ad := []) (ps := []) (by kernel_rfl) trivial
theorem ok19 : ∀ k s r, itS step19 k s = some r → P19 s r := itS_ok fun k rec ih s r h => match s, h with
  | .e c0_0 c0_1 c0_2 c0_3 c0_4, h => t19_e_ok k rec ih c0_0 c0_1 c0_2 c0_3 c0_4 r h
  | .h0 loc2_0 loc2_1 loc2_2 loc2_3 loc2_4, h => t19_h0_ok k rec ih loc2_0 loc2_1 loc2_2 loc2_3 loc2_4 r h
theorem ev19 {k : Nat} {c0_0 : Int} {c0_1 : Int} {c0_2 : Rs} {c0_3 : Rs} {c0_4 : Rs} {r : R19} (h : g19 k c0_0 c0_1 c0_2 c0_3 c0_4 = some r) : Ev Try.prog noHand 19 [.ag [ic c0_0, ic c0_1, .imm c0_2, .imm c0_3, .imm c0_4]] [] (res19 r) (bx19 r) := evr19 (ok19 _ _ _ h)
-- auspice/ssa.reads
inductive S34 where
  | e (x0_0 : Int) (x0_1 : Int) (x0_2 : Int) (x0_3 : Int)
  | h0 (t3 : Bool) (loc1_0 : Int) (loc1_1 : Int) (loc1_2 : Int) (loc1_3 : Int)
  | h1 (t2 : Rs)
  | h2 (t2 : Rs)
  | h3 (t2 : Rs)
abbrev R34 := Rs
def res34 : R34 → ARes
  | r => .ret (.c (.own 1 r))
def bx34 : R34 → List (List Cell)
  | r => []
noncomputable def t34_e (k : Nat) (rec : S34 → Option R34) (x0_0 : Int) (x0_1 : Int) (x0_2 : Int) (x0_3 : Int) : Option R34 :=
  bif x0_0 == 52 then
    rec (.h0 true x0_0 x0_1 x0_2 x0_3)
  else
    (g30 k x0_0).bind fun v_x2 =>
    rec (.h0 (v_x2 == 1) x0_0 x0_1 x0_2 x0_3)
noncomputable def t34_h0 (k : Nat) (rec : S34 → Option R34) (t3 : Bool) (loc1_0 : Int) (loc1_1 : Int) (loc1_2 : Int) (loc1_3 : Int) : Option R34 :=
  bif t3 then
    rec (.h1 [[ic loc1_2]])
  else
    (g30 k loc1_0).bind fun v_x1 =>
    bif v_x1 == 2 then
      rec (.h2 [[ic loc1_2], [ic loc1_3]])
    else
      rec (.h3 [])
noncomputable def t34_h1 (k : Nat) (rec : S34 → Option R34) (t2 : Rs) : Option R34 :=
  some t2
noncomputable def t34_h2 (k : Nat) (rec : S34 → Option R34) (t2 : Rs) : Option R34 :=
  some t2
noncomputable def t34_h3 (k : Nat) (rec : S34 → Option R34) (t2 : Rs) : Option R34 :=
  some t2
noncomputable def step34 (k : Nat) (rec : S34 → Option R34) : S34 → Option R34
  | .e x0_0 x0_1 x0_2 x0_3 => t34_e k rec x0_0 x0_1 x0_2 x0_3
  | .h0 t3 loc1_0 loc1_1 loc1_2 loc1_3 => t34_h0 k rec t3 loc1_0 loc1_1 loc1_2 loc1_3
  | .h1 t2 => t34_h1 k rec t2
  | .h2 t2 => t34_h2 k rec t2
  | .h3 t2 => t34_h3 k rec t2
noncomputable def g34 (k : Nat) (x0_0 : Int) (x0_1 : Int) (x0_2 : Int) (x0_3 : Int) : Option R34 := itS step34 k (.e x0_0 x0_1 x0_2 x0_3)
noncomputable def P34 : S34 → R34 → Prop
  | .e x0_0 x0_1 x0_2 x0_3, r => Fin cx34 Try.f34 [.code body34] (fr0 Try.f34 [.ag [ic x0_0, ic x0_1, ic x0_2, ic x0_3]] []) (res34 r) (bx34 r)
  | .h0 t3 loc1_0 loc1_1 loc1_2 loc1_3, r => Fin cx34 Try.f34 (kAt body34 [1, 0, 0, 1, 2] []) ⟨[.deadv, .c (.ptr ⟨⟨.loc 1, []⟩, 0, 0⟩), .deadv, .c (bc t3)] ++ rep 22 .deadv, [(.loc 1, [ic loc1_0, ic loc1_1, ic loc1_2, ic loc1_3])]⟩ (res34 r) (bx34 r)
  | .h1 t2, r => Fin cx34 Try.f34 (kAt body34 [1, 0, 0, 1, 0, 1, 2] []) ⟨[.deadv, .deadv, .c (.own 1 t2)] ++ rep 23 .deadv, []⟩ (res34 r) (bx34 r)
  | .h2 t2, r => Fin cx34 Try.f34 (kAt body34 [1, 0, 0, 1, 1, 1, 0, 1, 2] []) ⟨[.deadv, .deadv, .c (.own 1 t2)] ++ rep 23 .deadv, []⟩ (res34 r) (bx34 r)
  | .h3 t2, r => Fin cx34 Try.f34 (kAt body34 [1, 1, 1, 2] []) ⟨[.deadv, .deadv, .c (.own 1 t2)] ++ rep 23 .deadv, []⟩ (res34 r) (bx34 r)
theorem evr34 {x0_0 : Int} {x0_1 : Int} {x0_2 : Int} {x0_3 : Int} {r : R34} (h : P34 (.e x0_0 x0_1 x0_2 x0_3) r) : Ev Try.prog noHand 34 [.ag [ic x0_0, ic x0_1, ic x0_2, ic x0_3]] [] (res34 r) (bx34 r) := ev_of_fin (fn := Try.f34) (body := body34) (by kernel_rfl) (by kernel_rfl) (by kernel_rfl) rfl h
theorem t34_e_ok (k : Nat) (rec : S34 → Option R34) (ih : ∀ s r, rec s = some r → P34 s r) (x0_0 : Int) (x0_1 : Int) (x0_2 : Int) (x0_3 : Int) (r : R34) (h : t34_e k rec x0_0 x0_1 x0_2 x0_3 = some r) : P34 (.e x0_0 x0_1 x0_2 x0_3) r := by
  unfold t34_e at h
  rcases bif_or h with ⟨h_x1, h⟩ | ⟨h_x1, h⟩
  ·
    exact mgo_at (nb := 0) hmix (ih _ _ h) (n := 6) (ad := [(some 6, .test true)]) (ps := [_]) (m := bm 26 67108853) (ls := []) (cs := []) (by kernel_rfl) ⟨h_x1, trivial⟩
  ·
    obtain ⟨v_x2, h_x3, h⟩ := bd_or h
    exact mgo_at (nb := 0) hmix (ih _ _ h) (n := 6) (ad := [(some 6, .test false), (some 10, .call (.ret (.c (ic v_x2))) [] false)]) (ps := [_, _]) (m := bm 26 67108853) (ls := []) (cs := []) (by kernel_rfl) ⟨h_x1, (ev30 h_x3), trivial⟩
theorem t34_h0_ok (k : Nat) (rec : S34 → Option R34) (ih : ∀ s r, rec s = some r → P34 s r) (t3 : Bool) (loc1_0 : Int) (loc1_1 : Int) (loc1_2 : Int) (loc1_3 : Int) (r : R34) (h : t34_h0 k rec t3 loc1_0 loc1_1 loc1_2 loc1_3 = some r) : P34 (.h0 t3 loc1_0 loc1_1 loc1_2 loc1_3) r := by
  unfold t34_h0 at h
  rcases bif_or h with ⟨hq, h1'⟩ | ⟨hq, h1'⟩
  · clear h; subst hq; have h := h1'; clear h1'
    exact mgo_at (nb := 0) hmix (ih _ _ h) (n := 3) (ad := []) (ps := []) (m := bm 26 67108859) (ls := [1]) (cs := []) (by kernel_rfl) trivial
  · clear h; subst hq; have h := h1'; clear h1'
    obtain ⟨v_x1, h_x2, h⟩ := bd_or h
    rcases bif_or h with ⟨h_x3, h⟩ | ⟨h_x3, h⟩
    ·
      exact mgo_at (nb := 0) hmix (ih _ _ h) (n := 6) (ad := [(some 19, .call (.ret (.c (ic v_x1))) [] false), (some 20, .test true)]) (ps := [_, _]) (m := bm 26 67108859) (ls := [1]) (cs := []) (by kernel_rfl) ⟨(ev30 h_x2), h_x3, trivial⟩
    ·
      exact mgo_at (nb := 0) hmix (ih _ _ h) (n := 8) (ad := [(some 19, .call (.ret (.c (ic v_x1))) [] false), (some 20, .test false)]) (ps := [_, _]) (m := bm 26 67108859) (ls := [1]) (cs := [(⟨⟨.slot 2, []⟩, 0, 0⟩, some 1)]) (by kernel_rfl) ⟨(ev30 h_x2), h_x3, trivial⟩
theorem t34_h1_ok (k : Nat) (rec : S34 → Option R34) (ih : ∀ s r, rec s = some r → P34 s r) (t2 : Rs) (r : R34) (h : t34_h1 k rec t2 = some r) : P34 (.h1 t2) r := by
  unfold t34_h1 at h
  rw [← Option.some.inj h]
  exact mgo_fin (nb := 0) hmix (n := 2000) (ad := []) (ps := []) (by kernel_rfl) trivial
theorem t34_h2_ok (k : Nat) (rec : S34 → Option R34) (ih : ∀ s r, rec s = some r → P34 s r) (t2 : Rs) (r : R34) (h : t34_h2 k rec t2 = some r) : P34 (.h2 t2) r := by
  unfold t34_h2 at h
  rw [← Option.some.inj h]
  exact mgo_fin (nb := 0) hmix (n := 2000) (ad := []) (ps := []) (by kernel_rfl) trivial
theorem t34_h3_ok (k : Nat) (rec : S34 → Option R34) (ih : ∀ s r, rec s = some r → P34 s r) (t2 : Rs) (r : R34) (h : t34_h3 k rec t2 = some r) : P34 (.h3 t2) r := by
  unfold t34_h3 at h
  rw [← Option.some.inj h]
  exact mgo_fin (nb := 0) hmix (n := 2000) (ad := []) (ps := []) (by kernel_rfl) trivial
theorem ok34 : ∀ k s r, itS step34 k s = some r → P34 s r := itS_ok fun k rec ih s r h => match s, h with
  | .e x0_0 x0_1 x0_2 x0_3, h => t34_e_ok k rec ih x0_0 x0_1 x0_2 x0_3 r h
  | .h0 t3 loc1_0 loc1_1 loc1_2 loc1_3, h => t34_h0_ok k rec ih t3 loc1_0 loc1_1 loc1_2 loc1_3 r h
  | .h1 t2, h => t34_h1_ok k rec ih t2 r h
  | .h2 t2, h => t34_h2_ok k rec ih t2 r h
  | .h3 t2, h => t34_h3_ok k rec ih t2 r h
theorem ev34 {k : Nat} {x0_0 : Int} {x0_1 : Int} {x0_2 : Int} {x0_3 : Int} {r : R34} (h : g34 k x0_0 x0_1 x0_2 x0_3 = some r) : Ev Try.prog noHand 34 [.ag [ic x0_0, ic x0_1, ic x0_2, ic x0_3]] [] (res34 r) (bx34 r) := evr34 (ok34 _ _ _ h)
end Ab
end Go.Proofs.Ytebmcaceklbopaa
