/-
  Functions' ways, printed by a program: what each computes, and that this is what the interpreter computes.
-/
import Derived.Test.YtebmcaceklbopaaAwake
import Derived.KernelRfl
set_option linter.unusedVariables false
set_option linter.unusedSimpArgs false
namespace Go.Proofs.Ytebmcaceklbopaa
namespace Ab
def un_b {α : Type} (row : List Cell) (k : Bool → Option α) : Option α := match row with
  | [.val (.bool x0)] => k x0
  | _ => none
theorem un_b_or {α : Type} {row : List Cell} {k : Bool → Option α} {r : α} (h : un_b row k = some r) : ∃ x0, row = [.val (.bool x0)] ∧ k x0 = some r := by
  unfold un_b at h
  split at h
  · exact ⟨_, rfl, h⟩
  · cases h
def un_i {α : Type} (row : List Cell) (k : Int → Option α) : Option α := match row with
  | [.val (.int .i64 x0)] => k x0
  | _ => none
theorem un_i_or {α : Type} {row : List Cell} {k : Int → Option α} {r : α} (h : un_i row k = some r) : ∃ x0, row = [.val (.int .i64 x0)] ∧ k x0 = some r := by
  unfold un_i at h
  split at h
  · exact ⟨_, rfl, h⟩
  · cases h
def un_i4 {α : Type} (row : List Cell) (k : Int → Int → Int → Int → Option α) : Option α := match row with
  | [.val (.int .i64 x0), .val (.int .i64 x1), .val (.int .i64 x2), .val (.int .i64 x3)] => k x0 x1 x2 x3
  | _ => none
theorem un_i4_or {α : Type} {row : List Cell} {k : Int → Int → Int → Int → Option α} {r : α} (h : un_i4 row k = some r) : ∃ x0 x1 x2 x3, row = [.val (.int .i64 x0), .val (.int .i64 x1), .val (.int .i64 x2), .val (.int .i64 x3)] ∧ k x0 x1 x2 x3 = some r := by
  unfold un_i4 at h
  split at h
  · exact ⟨_, _, _, _, rfl, h⟩
  · cases h
def un_iimiuii {α : Type} (row : List Cell) (k : Int → Int → Rs → Int → Int → Int → Int → Option α) : Option α := match row with
  | [.val (.int .i64 x0), .val (.int .i64 x1), .imm x2, .val (.int .i64 x3), .val (.int .u64 x4), .val (.int .i64 x5), .val (.int .i64 x6)] => k x0 x1 x2 x3 x4 x5 x6
  | _ => none
theorem un_iimiuii_or {α : Type} {row : List Cell} {k : Int → Int → Rs → Int → Int → Int → Int → Option α} {r : α} (h : un_iimiuii row k = some r) : ∃ x0 x1 x2 x3 x4 x5 x6, row = [.val (.int .i64 x0), .val (.int .i64 x1), .imm x2, .val (.int .i64 x3), .val (.int .u64 x4), .val (.int .i64 x5), .val (.int .i64 x6)] ∧ k x0 x1 x2 x3 x4 x5 x6 = some r := by
  unfold un_iimiuii at h
  split at h
  · exact ⟨_, _, _, _, _, _, _, rfl, h⟩
  · cases h
def un_iu {α : Type} (row : List Cell) (k : Int → Int → Option α) : Option α := match row with
  | [.val (.int .i64 x0), .val (.int .u64 x1)] => k x0 x1
  | _ => none
theorem un_iu_or {α : Type} {row : List Cell} {k : Int → Int → Option α} {r : α} (h : un_iu row k = some r) : ∃ x0 x1, row = [.val (.int .i64 x0), .val (.int .u64 x1)] ∧ k x0 x1 = some r := by
  unfold un_iu at h
  split at h
  · exact ⟨_, _, rfl, h⟩
  · cases h
-- auspice/ssa.leaf
inductive S39 where
  | e (op0 : Int)
abbrev R39 := Bool
def res39 : R39 → ARes
  | r => .ret (.c (bc r))
def bx39 : R39 → List (List Cell)
  | r => []
noncomputable def t39_e (k : Nat) (rec : S39 → Option R39) (op0 : Int) : Option R39 :=
  bif op0 == 41 then
    some true
  else
    bif op0 == 42 then
      some true
    else
      bif decide (op0 ≥ 25) then
        some (decide (op0 ≤ 31))
      else
        some false
noncomputable def step39 (k : Nat) (rec : S39 → Option R39) : S39 → Option R39
  | .e op0 => t39_e k rec op0
noncomputable def g39 (k : Nat) (op0 : Int) : Option R39 := itS step39 k (.e op0)
noncomputable def P39 : S39 → R39 → Prop
  | .e op0, r => Fin cx39 Try.f39 [.code body39] (fr0 Try.f39 [.c (ic op0)] []) (res39 r) (bx39 r)
theorem evr39 {op0 : Int} {r : R39} (h : P39 (.e op0) r) : Ev Try.prog noHand 39 [.c (ic op0)] [] (res39 r) (bx39 r) := ev_of_fin (fn := Try.f39) (body := body39) (by kernel_rfl) (by kernel_rfl) (by kernel_rfl) rfl h
theorem t39_e_ok (k : Nat) (rec : S39 → Option R39) (ih : ∀ s r, rec s = some r → P39 s r) (op0 : Int) (r : R39) (h : t39_e k rec op0 = some r) : P39 (.e op0) r := by
  unfold t39_e at h
  rcases bif_or h with ⟨h_x1, h⟩ | ⟨h_x1, h⟩
  ·
    rw [← Option.some.inj h]
    exact mgo_fin (nb := 0) hmix (n := 2000) (ad := [(some 4, .test true)]) (ps := [_]) (by kernel_rfl) ⟨h_x1, trivial⟩
  ·
    rcases bif_or h with ⟨h_x2, h⟩ | ⟨h_x2, h⟩
    ·
      rw [← Option.some.inj h]
      exact mgo_fin (nb := 0) hmix (n := 2000) (ad := [(some 4, .test false), (some 7, .test true)]) (ps := [_, _]) (by kernel_rfl) ⟨h_x1, h_x2, trivial⟩
    ·
      rcases bif_or h with ⟨h_x3, h⟩ | ⟨h_x3, h⟩
      ·
        rw [← Option.some.inj h]
        exact mgo_fin (nb := 0) hmix (n := 2000) (ad := [(some 4, .test false), (some 7, .test false), (some 11, .test true)]) (ps := [_, _, _]) (by kernel_rfl) ⟨h_x1, h_x2, h_x3, trivial⟩
      ·
        rw [← Option.some.inj h]
        exact mgo_fin (nb := 0) hmix (n := 2000) (ad := [(some 4, .test false), (some 7, .test false), (some 11, .test false)]) (ps := [_, _, _]) (by kernel_rfl) ⟨h_x1, h_x2, h_x3, trivial⟩
theorem ok39 : ∀ k s r, itS step39 k s = some r → P39 s r := itS_ok fun k rec ih s r h => match s, h with
  | .e op0, h => t39_e_ok k rec ih op0 r h
theorem ev39 {k : Nat} {op0 : Int} {r : R39} (h : g39 k op0 = some r) : Ev Try.prog noHand 39 [.c (ic op0)] [] (res39 r) (bx39 r) := evr39 (ok39 _ _ _ h)
-- auspice/value.numeric
inductive S44 where
  | e (k0 : Int)
abbrev R44 := Bool
def res44 : R44 → ARes
  | r => .ret (.c (bc r))
def bx44 : R44 → List (List Cell)
  | r => []
noncomputable def t44_e (k : Nat) (rec : S44 → Option R44) (k0 : Int) : Option R44 :=
  bif k0 == 1 then
    some true
  else
    some (k0 == 4)
noncomputable def step44 (k : Nat) (rec : S44 → Option R44) : S44 → Option R44
  | .e k0 => t44_e k rec k0
noncomputable def g44 (k : Nat) (k0 : Int) : Option R44 := itS step44 k (.e k0)
noncomputable def P44 : S44 → R44 → Prop
  | .e k0, r => Fin cx44 Try.f44 [.code body44] (fr0 Try.f44 [.c (ic k0)] []) (res44 r) (bx44 r)
theorem evr44 {k0 : Int} {r : R44} (h : P44 (.e k0) r) : Ev Try.prog noHand 44 [.c (ic k0)] [] (res44 r) (bx44 r) := ev_of_fin (fn := Try.f44) (body := body44) (by kernel_rfl) (by kernel_rfl) (by kernel_rfl) rfl h
theorem t44_e_ok (k : Nat) (rec : S44 → Option R44) (ih : ∀ s r, rec s = some r → P44 s r) (k0 : Int) (r : R44) (h : t44_e k rec k0 = some r) : P44 (.e k0) r := by
  unfold t44_e at h
  rcases bif_or h with ⟨h_x1, h⟩ | ⟨h_x1, h⟩
  ·
    rw [← Option.some.inj h]
    exact mgo_fin (nb := 0) hmix (n := 2000) (ad := [(some 4, .test true)]) (ps := [_]) (by kernel_rfl) ⟨h_x1, trivial⟩
  ·
    rw [← Option.some.inj h]
    exact mgo_fin (nb := 0) hmix (n := 2000) (ad := [(some 4, .test false)]) (ps := [_]) (by kernel_rfl) ⟨h_x1, trivial⟩
theorem ok44 : ∀ k s r, itS step44 k s = some r → P44 s r := itS_ok fun k rec ih s r h => match s, h with
  | .e k0, h => t44_e_ok k rec ih k0 r h
theorem ev44 {k : Nat} {k0 : Int} {r : R44} (h : g44 k k0 = some r) : Ev Try.prog noHand 44 [.c (ic k0)] [] (res44 r) (bx44 r) := evr44 (ok44 _ _ _ h)
-- auspice/value.one
inductive S42 where
  | e (op0 : Int) (k1 : Int)
  | h0 (op0 : Int) (k1 : Int) (t5 : Bool)
  | h1 (op0 : Int) (k1 : Int) (t13 : Bool)
  | h2 (op0 : Int) (k1 : Int) (t20 : Bool)
  | h3 (t27 : Bool)
abbrev R42 := Int
def res42 : R42 → ARes
  | r => .ret (.c (ic r))
def bx42 : R42 → List (List Cell)
  | r => []
noncomputable def t42_e (k : Nat) (rec : S42 → Option R42) (op0 : Int) (k1 : Int) : Option R42 :=
  bif op0 == 6 then
    (g44 k k1).bind fun v_x2 =>
    rec (.h0 op0 k1 v_x2)
  else
    rec (.h0 op0 k1 false)
noncomputable def t42_h0 (k : Nat) (rec : S42 → Option R42) (op0 : Int) (k1 : Int) (t5 : Bool) : Option R42 :=
  bif t5 then
    some k1
  else
    bif op0 == 15 then
      rec (.h1 op0 k1 (k1 == 2))
    else
      rec (.h1 op0 k1 false)
noncomputable def t42_h1 (k : Nat) (rec : S42 → Option R42) (op0 : Int) (k1 : Int) (t13 : Bool) : Option R42 :=
  bif t13 then
    some 2
  else
    bif op0 == 16 then
      rec (.h2 op0 k1 (k1 == 1))
    else
      rec (.h2 op0 k1 false)
noncomputable def t42_h2 (k : Nat) (rec : S42 → Option R42) (op0 : Int) (k1 : Int) (t20 : Bool) : Option R42 :=
  bif t20 then
    some 4
  else
    bif op0 == 17 then
      rec (.h3 (k1 == 4))
    else
      rec (.h3 false)
noncomputable def t42_h3 (k : Nat) (rec : S42 → Option R42) (t27 : Bool) : Option R42 :=
  bif t27 then
    some 2
  else
    some 0
noncomputable def step42 (k : Nat) (rec : S42 → Option R42) : S42 → Option R42
  | .e op0 k1 => t42_e k rec op0 k1
  | .h0 op0 k1 t5 => t42_h0 k rec op0 k1 t5
  | .h1 op0 k1 t13 => t42_h1 k rec op0 k1 t13
  | .h2 op0 k1 t20 => t42_h2 k rec op0 k1 t20
  | .h3 t27 => t42_h3 k rec t27
noncomputable def g42 (k : Nat) (op0 : Int) (k1 : Int) : Option R42 := itS step42 k (.e op0 k1)
noncomputable def P42 : S42 → R42 → Prop
  | .e op0 k1, r => Fin cx42 Try.f42 [.code body42] (fr0 Try.f42 [.c (ic op0), .c (ic k1)] []) (res42 r) (bx42 r)
  | .h0 op0 k1 t5, r => Fin cx42 Try.f42 (kAt body42 [1, 0, 0, 1, 2] []) ⟨[.c (ic op0), .c (ic k1)] ++ rep 3 .deadv ++ [.c (bc t5)] ++ rep 28 .deadv, []⟩ (res42 r) (bx42 r)
  | .h1 op0 k1 t13, r => Fin cx42 Try.f42 (kAt body42 [1, 0, 0, 1, 1, 1, 2] []) ⟨[.c (ic op0), .c (ic k1)] ++ rep 11 .deadv ++ [.c (bc t13)] ++ rep 20 .deadv, []⟩ (res42 r) (bx42 r)
  | .h2 op0 k1 t20, r => Fin cx42 Try.f42 (kAt body42 [1, 0, 0, 1, 1, 1, 1, 1, 2] []) ⟨[.c (ic op0), .c (ic k1)] ++ rep 18 .deadv ++ [.c (bc t20)] ++ rep 13 .deadv, []⟩ (res42 r) (bx42 r)
  | .h3 t27, r => Fin cx42 Try.f42 (kAt body42 [1, 0, 0, 1, 1, 1, 1, 1, 1, 1, 2] []) ⟨rep 27 .deadv ++ [.c (bc t27)] ++ rep 6 .deadv, []⟩ (res42 r) (bx42 r)
theorem evr42 {op0 : Int} {k1 : Int} {r : R42} (h : P42 (.e op0 k1) r) : Ev Try.prog noHand 42 [.c (ic op0), .c (ic k1)] [] (res42 r) (bx42 r) := ev_of_fin (fn := Try.f42) (body := body42) (by kernel_rfl) (by kernel_rfl) (by kernel_rfl) rfl h
theorem t42_e_ok (k : Nat) (rec : S42 → Option R42) (ih : ∀ s r, rec s = some r → P42 s r) (op0 : Int) (k1 : Int) (r : R42) (h : t42_e k rec op0 k1 = some r) : P42 (.e op0 k1) r := by
  unfold t42_e at h
  rcases bif_or h with ⟨h_x1, h⟩ | ⟨h_x1, h⟩
  ·
    obtain ⟨v_x2, h_x3, h⟩ := bd_or h
    exact mgo_at (nb := 0) hmix (ih _ _ h) (n := 6) (ad := [(some 7, .test true), (some 10, .call (.ret (.c (bc v_x2))) [] false)]) (ps := [_, _]) (m := bm 34 17179869148) (ls := []) (cs := []) (by kernel_rfl) ⟨h_x1, (ev44 h_x3), trivial⟩
  ·
    exact mgo_at (nb := 0) hmix (ih _ _ h) (n := 6) (ad := [(some 7, .test false)]) (ps := [_]) (m := bm 34 17179869148) (ls := []) (cs := []) (by kernel_rfl) ⟨h_x1, trivial⟩
theorem t42_h0_ok (k : Nat) (rec : S42 → Option R42) (ih : ∀ s r, rec s = some r → P42 s r) (op0 : Int) (k1 : Int) (t5 : Bool) (r : R42) (h : t42_h0 k rec op0 k1 t5 = some r) : P42 (.h0 op0 k1 t5) r := by
  unfold t42_h0 at h
  rcases bif_or h with ⟨hq, h1'⟩ | ⟨hq, h1'⟩
  · clear h; subst hq; have h := h1'; clear h1'
    rw [← Option.some.inj h]
    exact mgo_fin (nb := 0) hmix (n := 2000) (ad := []) (ps := []) (by kernel_rfl) trivial
  · clear h; subst hq; have h := h1'; clear h1'
    rcases bif_or h with ⟨h_x1, h⟩ | ⟨h_x1, h⟩
    ·
      exact mgo_at (nb := 0) hmix (ih _ _ h) (n := 3) (ad := [(some 15, .test true)]) (ps := [_]) (m := bm 34 17179860988) (ls := []) (cs := []) (by kernel_rfl) ⟨h_x1, trivial⟩
    ·
      exact mgo_at (nb := 0) hmix (ih _ _ h) (n := 3) (ad := [(some 15, .test false)]) (ps := [_]) (m := bm 34 17179860988) (ls := []) (cs := []) (by kernel_rfl) ⟨h_x1, trivial⟩
theorem t42_h1_ok (k : Nat) (rec : S42 → Option R42) (ih : ∀ s r, rec s = some r → P42 s r) (op0 : Int) (k1 : Int) (t13 : Bool) (r : R42) (h : t42_h1 k rec op0 k1 t13 = some r) : P42 (.h1 op0 k1 t13) r := by
  unfold t42_h1 at h
  rcases bif_or h with ⟨hq, h1'⟩ | ⟨hq, h1'⟩
  · clear h; subst hq; have h := h1'; clear h1'
    rw [← Option.some.inj h]
    exact mgo_fin (nb := 0) hmix (n := 2000) (ad := []) (ps := []) (by kernel_rfl) trivial
  · clear h; subst hq; have h := h1'; clear h1'
    rcases bif_or h with ⟨h_x1, h⟩ | ⟨h_x1, h⟩
    ·
      exact mgo_at (nb := 0) hmix (ih _ _ h) (n := 3) (ad := [(some 22, .test true)]) (ps := [_]) (m := bm 34 17178820604) (ls := []) (cs := []) (by kernel_rfl) ⟨h_x1, trivial⟩
    ·
      exact mgo_at (nb := 0) hmix (ih _ _ h) (n := 3) (ad := [(some 22, .test false)]) (ps := [_]) (m := bm 34 17178820604) (ls := []) (cs := []) (by kernel_rfl) ⟨h_x1, trivial⟩
theorem t42_h2_ok (k : Nat) (rec : S42 → Option R42) (ih : ∀ s r, rec s = some r → P42 s r) (op0 : Int) (k1 : Int) (t20 : Bool) (r : R42) (h : t42_h2 k rec op0 k1 t20 = some r) : P42 (.h2 op0 k1 t20) r := by
  unfold t42_h2 at h
  rcases bif_or h with ⟨hq, h1'⟩ | ⟨hq, h1'⟩
  · clear h; subst hq; have h := h1'; clear h1'
    rw [← Option.some.inj h]
    exact mgo_fin (nb := 0) hmix (n := 2000) (ad := []) (ps := []) (by kernel_rfl) trivial
  · clear h; subst hq; have h := h1'; clear h1'
    rcases bif_or h with ⟨h_x1, h⟩ | ⟨h_x1, h⟩
    ·
      exact mgo_at (nb := 0) hmix (ih _ _ h) (n := 3) (ad := [(some 29, .test true)]) (ps := [_]) (m := bm 34 17045651455) (ls := []) (cs := []) (by kernel_rfl) ⟨h_x1, trivial⟩
    ·
      exact mgo_at (nb := 0) hmix (ih _ _ h) (n := 3) (ad := [(some 29, .test false)]) (ps := [_]) (m := bm 34 17045651455) (ls := []) (cs := []) (by kernel_rfl) ⟨h_x1, trivial⟩
theorem t42_h3_ok (k : Nat) (rec : S42 → Option R42) (ih : ∀ s r, rec s = some r → P42 s r) (t27 : Bool) (r : R42) (h : t42_h3 k rec t27 = some r) : P42 (.h3 t27) r := by
  unfold t42_h3 at h
  rcases bif_or h with ⟨hq, h1'⟩ | ⟨hq, h1'⟩
  · clear h; subst hq; have h := h1'; clear h1'
    rw [← Option.some.inj h]
    exact mgo_fin (nb := 0) hmix (n := 2000) (ad := []) (ps := []) (by kernel_rfl) trivial
  · clear h; subst hq; have h := h1'; clear h1'
    rw [← Option.some.inj h]
    exact mgo_fin (nb := 0) hmix (n := 2000) (ad := []) (ps := []) (by kernel_rfl) trivial
theorem ok42 : ∀ k s r, itS step42 k s = some r → P42 s r := itS_ok fun k rec ih s r h => match s, h with
  | .e op0 k1, h => t42_e_ok k rec ih op0 k1 r h
  | .h0 op0 k1 t5, h => t42_h0_ok k rec ih op0 k1 t5 r h
  | .h1 op0 k1 t13, h => t42_h1_ok k rec ih op0 k1 t13 r h
  | .h2 op0 k1 t20, h => t42_h2_ok k rec ih op0 k1 t20 r h
  | .h3 t27, h => t42_h3_ok k rec ih t27 r h
theorem ev42 {k : Nat} {op0 : Int} {k1 : Int} {r : R42} (h : g42 k op0 k1 = some r) : Ev Try.prog noHand 42 [.c (ic op0), .c (ic k1)] [] (res42 r) (bx42 r) := evr42 (ok42 _ _ _ h)
-- auspice/value.two
inductive S43 where
  | e (op0 : Int) (k1 : Int)
  | h0 (op0 : Int) (k1 : Int) (t5 : Bool)
  | h1 (op0 : Int) (k1 : Int) (t5 : Bool)
  | h2 (op0 : Int) (k1 : Int) (t23 : Bool)
  | h3 (op0 : Int) (k1 : Int) (t23 : Bool)
  | h4 (t48 : Bool)
abbrev R43 := Int
def res43 : R43 → ARes
  | r => .ret (.c (ic r))
def bx43 : R43 → List (List Cell)
  | r => []
noncomputable def t43_e (k : Nat) (rec : S43 → Option R43) (op0 : Int) (k1 : Int) : Option R43 :=
  bif decide (op0 ≥ 1) then
    bif decide (op0 ≤ 4) then
      (g44 k k1).bind fun v_x3 =>
      rec (.h0 op0 k1 v_x3)
    else
      rec (.h0 op0 k1 false)
  else
    rec (.h0 op0 k1 false)
noncomputable def t43_h0 (k : Nat) (rec : S43 → Option R43) (op0 : Int) (k1 : Int) (t5 : Bool) : Option R43 :=
  bif t5 then
    rec (.h1 op0 k1 t5)
  else
    bif op0 == 5 then
      rec (.h1 op0 k1 (k1 == 1))
    else
      rec (.h1 op0 k1 false)
noncomputable def t43_h1 (k : Nat) (rec : S43 → Option R43) (op0 : Int) (k1 : Int) (t5 : Bool) : Option R43 :=
  bif t5 then
    some k1
  else
    bif op0 == 7 then
      bif decide (k1 ≥ 1) then
        rec (.h2 op0 k1 (decide (k1 ≤ 4)))
      else
        rec (.h2 op0 k1 false)
    else
      bif op0 == 8 then
        bif decide (k1 ≥ 1) then
          rec (.h2 op0 k1 (decide (k1 ≤ 4)))
        else
          rec (.h2 op0 k1 false)
      else
        rec (.h2 op0 k1 false)
noncomputable def t43_h2 (k : Nat) (rec : S43 → Option R43) (op0 : Int) (k1 : Int) (t23 : Bool) : Option R43 :=
  bif t23 then
    rec (.h3 op0 k1 t23)
  else
    bif decide (op0 ≥ 9) then
      bif decide (op0 ≤ 12) then
        (g44 k k1).bind fun v_x3 =>
        rec (.h3 op0 k1 v_x3)
      else
        rec (.h3 op0 k1 false)
    else
      rec (.h3 op0 k1 false)
noncomputable def t43_h3 (k : Nat) (rec : S43 → Option R43) (op0 : Int) (k1 : Int) (t23 : Bool) : Option R43 :=
  bif t23 then
    some 2
  else
    bif op0 == 13 then
      rec (.h4 (k1 == 2))
    else
      bif op0 == 14 then
        rec (.h4 (k1 == 2))
      else
        rec (.h4 false)
noncomputable def t43_h4 (k : Nat) (rec : S43 → Option R43) (t48 : Bool) : Option R43 :=
  bif t48 then
    some 2
  else
    some 0
noncomputable def step43 (k : Nat) (rec : S43 → Option R43) : S43 → Option R43
  | .e op0 k1 => t43_e k rec op0 k1
  | .h0 op0 k1 t5 => t43_h0 k rec op0 k1 t5
  | .h1 op0 k1 t5 => t43_h1 k rec op0 k1 t5
  | .h2 op0 k1 t23 => t43_h2 k rec op0 k1 t23
  | .h3 op0 k1 t23 => t43_h3 k rec op0 k1 t23
  | .h4 t48 => t43_h4 k rec t48
noncomputable def g43 (k : Nat) (op0 : Int) (k1 : Int) : Option R43 := itS step43 k (.e op0 k1)
noncomputable def P43 : S43 → R43 → Prop
  | .e op0 k1, r => Fin cx43 Try.f43 [.code body43] (fr0 Try.f43 [.c (ic op0), .c (ic k1)] []) (res43 r) (bx43 r)
  | .h0 op0 k1 t5, r => Fin cx43 Try.f43 (kAt body43 [1, 0, 0, 0, 1, 2] []) ⟨[.c (ic op0), .c (ic k1)] ++ rep 3 .deadv ++ [.c (bc t5)] ++ rep 53 .deadv, []⟩ (res43 r) (bx43 r)
  | .h1 op0 k1 t5, r => Fin cx43 Try.f43 (kAt body43 [1, 0, 0, 1, 2] []) ⟨[.c (ic op0), .c (ic k1)] ++ rep 3 .deadv ++ [.c (bc t5)] ++ rep 53 .deadv, []⟩ (res43 r) (bx43 r)
  | .h2 op0 k1 t23, r => Fin cx43 Try.f43 (kAt body43 [1, 0, 0, 1, 1, 0, 1, 2] []) ⟨[.c (ic op0), .c (ic k1)] ++ rep 21 .deadv ++ [.c (bc t23)] ++ rep 35 .deadv, []⟩ (res43 r) (bx43 r)
  | .h3 op0 k1 t23, r => Fin cx43 Try.f43 (kAt body43 [1, 0, 0, 1, 1, 1, 2] []) ⟨[.c (ic op0), .c (ic k1)] ++ rep 21 .deadv ++ [.c (bc t23)] ++ rep 35 .deadv, []⟩ (res43 r) (bx43 r)
  | .h4 t48, r => Fin cx43 Try.f43 (kAt body43 [1, 0, 0, 1, 1, 1, 1, 1, 2] []) ⟨rep 48 .deadv ++ [.c (bc t48)] ++ rep 10 .deadv, []⟩ (res43 r) (bx43 r)
theorem evr43 {op0 : Int} {k1 : Int} {r : R43} (h : P43 (.e op0 k1) r) : Ev Try.prog noHand 43 [.c (ic op0), .c (ic k1)] [] (res43 r) (bx43 r) := ev_of_fin (fn := Try.f43) (body := body43) (by kernel_rfl) (by kernel_rfl) (by kernel_rfl) rfl h
theorem t43_e_ok (k : Nat) (rec : S43 → Option R43) (ih : ∀ s r, rec s = some r → P43 s r) (op0 : Int) (k1 : Int) (r : R43) (h : t43_e k rec op0 k1 = some r) : P43 (.e op0 k1) r := by
  unfold t43_e at h
  rcases bif_or h with ⟨h_x1, h⟩ | ⟨h_x1, h⟩
  ·
    rcases bif_or h with ⟨h_x2, h⟩ | ⟨h_x2, h⟩
    ·
      obtain ⟨v_x3, h_x4, h⟩ := bd_or h
      exact mgo_at (nb := 0) hmix (ih _ _ h) (n := 7) (ad := [(some 7, .test true), (some 10, .test true), (some 14, .call (.ret (.c (bc v_x3))) [] false)]) (ps := [_, _, _]) (m := bm 59 576460752303423452) (ls := []) (cs := []) (by kernel_rfl) ⟨h_x1, h_x2, (ev44 h_x4), trivial⟩
    ·
      exact mgo_at (nb := 0) hmix (ih _ _ h) (n := 7) (ad := [(some 7, .test true), (some 10, .test false)]) (ps := [_, _]) (m := bm 59 576460752303423452) (ls := []) (cs := []) (by kernel_rfl) ⟨h_x1, h_x2, trivial⟩
  ·
    exact mgo_at (nb := 0) hmix (ih _ _ h) (n := 7) (ad := [(some 7, .test false)]) (ps := [_]) (m := bm 59 576460752303423452) (ls := []) (cs := []) (by kernel_rfl) ⟨h_x1, trivial⟩
theorem t43_h0_ok (k : Nat) (rec : S43 → Option R43) (ih : ∀ s r, rec s = some r → P43 s r) (op0 : Int) (k1 : Int) (t5 : Bool) (r : R43) (h : t43_h0 k rec op0 k1 t5 = some r) : P43 (.h0 op0 k1 t5) r := by
  unfold t43_h0 at h
  rcases bif_or h with ⟨hq, h1'⟩ | ⟨hq, h1'⟩
  · clear h; subst hq; have h := h1'; clear h1'
    exact mgo_at (nb := 0) hmix (ih _ _ h) (n := 2) (ad := []) (ps := []) (m := bm 59 576460752303423452) (ls := []) (cs := []) (by kernel_rfl) trivial
  · clear h; subst hq; have h := h1'; clear h1'
    rcases bif_or h with ⟨h_x1, h⟩ | ⟨h_x1, h⟩
    ·
      exact mgo_at (nb := 0) hmix (ih _ _ h) (n := 2) (ad := [(some 17, .test true)]) (ps := [_]) (m := bm 59 576460752303423452) (ls := []) (cs := []) (by kernel_rfl) ⟨h_x1, trivial⟩
    ·
      exact mgo_at (nb := 0) hmix (ih _ _ h) (n := 2) (ad := [(some 17, .test false)]) (ps := [_]) (m := bm 59 576460752303423452) (ls := []) (cs := []) (by kernel_rfl) ⟨h_x1, trivial⟩
theorem t43_h1_ok (k : Nat) (rec : S43 → Option R43) (ih : ∀ s r, rec s = some r → P43 s r) (op0 : Int) (k1 : Int) (t5 : Bool) (r : R43) (h : t43_h1 k rec op0 k1 t5 = some r) : P43 (.h1 op0 k1 t5) r := by
  unfold t43_h1 at h
  rcases bif_or h with ⟨hq, h1'⟩ | ⟨hq, h1'⟩
  · clear h; subst hq; have h := h1'; clear h1'
    rw [← Option.some.inj h]
    exact mgo_fin (nb := 0) hmix (n := 2000) (ad := []) (ps := []) (by kernel_rfl) trivial
  · clear h; subst hq; have h := h1'; clear h1'
    rcases bif_or h with ⟨h_x1, h⟩ | ⟨h_x1, h⟩
    ·
      rcases bif_or h with ⟨h_x2, h⟩ | ⟨h_x2, h⟩
      ·
        exact mgo_at (nb := 0) hmix (ih _ _ h) (n := 4) (ad := [(some 25, .test true), (some 32, .test true)]) (ps := [_, _]) (m := bm 59 576460752295034876) (ls := []) (cs := []) (by kernel_rfl) ⟨h_x1, h_x2, trivial⟩
      ·
        exact mgo_at (nb := 0) hmix (ih _ _ h) (n := 4) (ad := [(some 25, .test true), (some 32, .test false)]) (ps := [_, _]) (m := bm 59 576460752295034876) (ls := []) (cs := []) (by kernel_rfl) ⟨h_x1, h_x2, trivial⟩
    ·
      rcases bif_or h with ⟨h_x2, h⟩ | ⟨h_x2, h⟩
      ·
        rcases bif_or h with ⟨h_x3, h⟩ | ⟨h_x3, h⟩
        ·
          exact mgo_at (nb := 0) hmix (ih _ _ h) (n := 4) (ad := [(some 25, .test false), (some 28, .test true), (some 32, .test true)]) (ps := [_, _, _]) (m := bm 59 576460752295034876) (ls := []) (cs := []) (by kernel_rfl) ⟨h_x1, h_x2, h_x3, trivial⟩
        ·
          exact mgo_at (nb := 0) hmix (ih _ _ h) (n := 4) (ad := [(some 25, .test false), (some 28, .test true), (some 32, .test false)]) (ps := [_, _, _]) (m := bm 59 576460752295034876) (ls := []) (cs := []) (by kernel_rfl) ⟨h_x1, h_x2, h_x3, trivial⟩
      ·
        exact mgo_at (nb := 0) hmix (ih _ _ h) (n := 4) (ad := [(some 25, .test false), (some 28, .test false)]) (ps := [_, _]) (m := bm 59 576460752295034876) (ls := []) (cs := []) (by kernel_rfl) ⟨h_x1, h_x2, trivial⟩
theorem t43_h2_ok (k : Nat) (rec : S43 → Option R43) (ih : ∀ s r, rec s = some r → P43 s r) (op0 : Int) (k1 : Int) (t23 : Bool) (r : R43) (h : t43_h2 k rec op0 k1 t23 = some r) : P43 (.h2 op0 k1 t23) r := by
  unfold t43_h2 at h
  rcases bif_or h with ⟨hq, h1'⟩ | ⟨hq, h1'⟩
  · clear h; subst hq; have h := h1'; clear h1'
    exact mgo_at (nb := 0) hmix (ih _ _ h) (n := 2) (ad := []) (ps := []) (m := bm 59 576460752295034876) (ls := []) (cs := []) (by kernel_rfl) trivial
  · clear h; subst hq; have h := h1'; clear h1'
    rcases bif_or h with ⟨h_x1, h⟩ | ⟨h_x1, h⟩
    ·
      rcases bif_or h with ⟨h_x2, h⟩ | ⟨h_x2, h⟩
      ·
        obtain ⟨v_x3, h_x4, h⟩ := bd_or h
        exact mgo_at (nb := 0) hmix (ih _ _ h) (n := 2) (ad := [(some 39, .test true), (some 42, .test true), (some 46, .call (.ret (.c (bc v_x3))) [] false)]) (ps := [_, _, _]) (m := bm 59 576460752295034876) (ls := []) (cs := []) (by kernel_rfl) ⟨h_x1, h_x2, (ev44 h_x4), trivial⟩
      ·
        exact mgo_at (nb := 0) hmix (ih _ _ h) (n := 2) (ad := [(some 39, .test true), (some 42, .test false)]) (ps := [_, _]) (m := bm 59 576460752295034876) (ls := []) (cs := []) (by kernel_rfl) ⟨h_x1, h_x2, trivial⟩
    ·
      exact mgo_at (nb := 0) hmix (ih _ _ h) (n := 2) (ad := [(some 39, .test false)]) (ps := [_]) (m := bm 59 576460752295034876) (ls := []) (cs := []) (by kernel_rfl) ⟨h_x1, trivial⟩
theorem t43_h3_ok (k : Nat) (rec : S43 → Option R43) (ih : ∀ s r, rec s = some r → P43 s r) (op0 : Int) (k1 : Int) (t23 : Bool) (r : R43) (h : t43_h3 k rec op0 k1 t23 = some r) : P43 (.h3 op0 k1 t23) r := by
  unfold t43_h3 at h
  rcases bif_or h with ⟨hq, h1'⟩ | ⟨hq, h1'⟩
  · clear h; subst hq; have h := h1'; clear h1'
    rw [← Option.some.inj h]
    exact mgo_fin (nb := 0) hmix (n := 2000) (ad := []) (ps := []) (by kernel_rfl) trivial
  · clear h; subst hq; have h := h1'; clear h1'
    rcases bif_or h with ⟨h_x1, h⟩ | ⟨h_x1, h⟩
    ·
      exact mgo_at (nb := 0) hmix (ih _ _ h) (n := 3) (ad := [(some 50, .test true)]) (ps := [_]) (m := bm 59 576179277326712831) (ls := []) (cs := []) (by kernel_rfl) ⟨h_x1, trivial⟩
    ·
      rcases bif_or h with ⟨h_x2, h⟩ | ⟨h_x2, h⟩
      ·
        exact mgo_at (nb := 0) hmix (ih _ _ h) (n := 3) (ad := [(some 50, .test false), (some 53, .test true)]) (ps := [_, _]) (m := bm 59 576179277326712831) (ls := []) (cs := []) (by kernel_rfl) ⟨h_x1, h_x2, trivial⟩
      ·
        exact mgo_at (nb := 0) hmix (ih _ _ h) (n := 3) (ad := [(some 50, .test false), (some 53, .test false)]) (ps := [_, _]) (m := bm 59 576179277326712831) (ls := []) (cs := []) (by kernel_rfl) ⟨h_x1, h_x2, trivial⟩
theorem t43_h4_ok (k : Nat) (rec : S43 → Option R43) (ih : ∀ s r, rec s = some r → P43 s r) (t48 : Bool) (r : R43) (h : t43_h4 k rec t48 = some r) : P43 (.h4 t48) r := by
  unfold t43_h4 at h
  rcases bif_or h with ⟨hq, h1'⟩ | ⟨hq, h1'⟩
  · clear h; subst hq; have h := h1'; clear h1'
    rw [← Option.some.inj h]
    exact mgo_fin (nb := 0) hmix (n := 2000) (ad := []) (ps := []) (by kernel_rfl) trivial
  · clear h; subst hq; have h := h1'; clear h1'
    rw [← Option.some.inj h]
    exact mgo_fin (nb := 0) hmix (n := 2000) (ad := []) (ps := []) (by kernel_rfl) trivial
theorem ok43 : ∀ k s r, itS step43 k s = some r → P43 s r := itS_ok fun k rec ih s r h => match s, h with
  | .e op0 k1, h => t43_e_ok k rec ih op0 k1 r h
  | .h0 op0 k1 t5, h => t43_h0_ok k rec ih op0 k1 t5 r h
  | .h1 op0 k1 t5, h => t43_h1_ok k rec ih op0 k1 t5 r h
  | .h2 op0 k1 t23, h => t43_h2_ok k rec ih op0 k1 t23 r h
  | .h3 op0 k1 t23, h => t43_h3_ok k rec ih op0 k1 t23 r h
  | .h4 t48, h => t43_h4_ok k rec ih t48 r h
theorem ev43 {k : Nat} {op0 : Int} {k1 : Int} {r : R43} (h : g43 k op0 k1 = some r) : Ev Try.prog noHand 43 [.c (ic op0), .c (ic k1)] [] (res43 r) (bx43 r) := evr43 (ok43 _ _ _ h)
-- auspice/value.Result
inductive S41 where
  | e (op0 : Int) (kinds1 : Rs)
  | h0
abbrev R41 := Int
def res41 : R41 → ARes
  | r => .ret (.c (ic r))
def bx41 : R41 → List (List Cell)
  | r => []
noncomputable def t41_e (k : Nat) (rec : S41 → Option R41) (op0 : Int) (kinds1 : Rs) : Option R41 :=
  bif (kinds1.length : Int) == 1 then
    ixR kinds1 0 fun w_x2 =>
    un_i w_x2 fun x_x4 =>
    (g42 k op0 x_x4).bind fun v_x5 =>
    some v_x5
  else
    bif (kinds1.length : Int) == 2 then
      ixR kinds1 0 fun w_x3 =>
      un_i w_x3 fun x_x5 =>
      ixR kinds1 1 fun w_x6 =>
      un_i w_x6 fun x_x8 =>
      bif x_x5 == x_x8 then
        (g43 k op0 x_x5).bind fun v_x10 =>
        some v_x10
      else
        rec (.h0)
    else
      rec (.h0)
noncomputable def t41_h0 (k : Nat) (rec : S41 → Option R41) : Option R41 :=
  some 0
noncomputable def step41 (k : Nat) (rec : S41 → Option R41) : S41 → Option R41
  | .e op0 kinds1 => t41_e k rec op0 kinds1
  | .h0 => t41_h0 k rec
noncomputable def g41 (k : Nat) (op0 : Int) (kinds1 : Rs) : Option R41 := itS step41 k (.e op0 kinds1)
noncomputable def P41 : S41 → R41 → Prop
  | .e op0 kinds1, r => Fin cx41 Try.f41 [.code body41] (fr0 Try.f41 [.c (ic op0), .c (.imm kinds1)] []) (res41 r) (bx41 r)
  | .h0, r => Fin cx41 Try.f41 (kAt body41 [1, 1, 2] []) ⟨rep 28 .deadv, []⟩ (res41 r) (bx41 r)
theorem evr41 {op0 : Int} {kinds1 : Rs} {r : R41} (h : P41 (.e op0 kinds1) r) : Ev Try.prog noHand 41 [.c (ic op0), .c (.imm kinds1)] [] (res41 r) (bx41 r) := ev_of_fin (fn := Try.f41) (body := body41) (by kernel_rfl) (by kernel_rfl) (by kernel_rfl) rfl h
theorem t41_e_ok (k : Nat) (rec : S41 → Option R41) (ih : ∀ s r, rec s = some r → P41 s r) (op0 : Int) (kinds1 : Rs) (r : R41) (h : t41_e k rec op0 kinds1 = some r) : P41 (.e op0 kinds1) r := by
  unfold t41_e at h
  rcases bif_or h with ⟨h_x1, h⟩ | ⟨h_x1, h⟩
  ·
    obtain ⟨w_x2, h_x3, h⟩ := ixR_or h
    obtain ⟨x_x4, hq, h1'⟩ := un_i_or h
    clear h; subst hq; have h := h1'; clear h1'
    obtain ⟨v_x5, h_x6, h⟩ := bd_or h
    rw [← Option.some.inj h]
    exact mgo_fin (nb := 0) hmix (n := 2000) (ad := [(some 8, .test true), (some 11, .row [ic x_x4]), (some 13, .call (.ret (.c (ic v_x5))) [] false)]) (ps := [_, _, _]) (by kernel_rfl) ⟨h_x1, ix_row h_x3 rfl, (ev42 h_x6), trivial⟩
  ·
    rcases bif_or h with ⟨h_x2, h⟩ | ⟨h_x2, h⟩
    ·
      obtain ⟨w_x3, h_x4, h⟩ := ixR_or h
      obtain ⟨x_x5, hq, h1'⟩ := un_i_or h
      clear h; subst hq; have h := h1'; clear h1'
      obtain ⟨w_x6, h_x7, h⟩ := ixR_or h
      obtain ⟨x_x8, hq, h1'⟩ := un_i_or h
      clear h; subst hq; have h := h1'; clear h1'
      rcases bif_or h with ⟨h_x9, h⟩ | ⟨h_x9, h⟩
      ·
        obtain ⟨v_x10, h_x11, h⟩ := bd_or h
        rw [← Option.some.inj h]
        exact mgo_fin (nb := 0) hmix (n := 2000) (ad := [(some 8, .test false), (some 15, .test true), (some 17, .row [ic x_x5]), (some 20, .row [ic x_x8]), (some 22, .test true), (some 25, .row [ic x_x5]), (some 27, .call (.ret (.c (ic v_x10))) [] false)]) (ps := [_, _, _, _, _, _, _]) (by kernel_rfl) ⟨h_x1, h_x2, ix_row h_x4 rfl, ix_row h_x7 rfl, h_x9, ix_row h_x4 rfl, (ev43 h_x11), trivial⟩
      ·
        exact mgo_at (nb := 0) hmix (ih _ _ h) (n := 17) (ad := [(some 8, .test false), (some 15, .test true), (some 17, .row [ic x_x5]), (some 20, .row [ic x_x8]), (some 22, .test false)]) (ps := [_, _, _, _, _]) (m := bm 28 268435455) (ls := []) (cs := []) (by kernel_rfl) ⟨h_x1, h_x2, ix_row h_x4 rfl, ix_row h_x7 rfl, h_x9, trivial⟩
    ·
      exact mgo_at (nb := 0) hmix (ih _ _ h) (n := 14) (ad := [(some 8, .test false), (some 15, .test false)]) (ps := [_, _]) (m := bm 28 268435455) (ls := []) (cs := []) (by kernel_rfl) ⟨h_x1, h_x2, trivial⟩
theorem t41_h0_ok (k : Nat) (rec : S41 → Option R41) (ih : ∀ s r, rec s = some r → P41 s r) (r : R41) (h : t41_h0 k rec = some r) : P41 (.h0) r := by
  unfold t41_h0 at h
  rw [← Option.some.inj h]
  exact mgo_fin (nb := 0) hmix (n := 2000) (ad := []) (ps := []) (by kernel_rfl) trivial
theorem ok41 : ∀ k s r, itS step41 k s = some r → P41 s r := itS_ok fun k rec ih s r h => match s, h with
  | .e op0 kinds1, h => t41_e_ok k rec ih op0 kinds1 r h
  | .h0, h => t41_h0_ok k rec ih r h
theorem ev41 {k : Nat} {op0 : Int} {kinds1 : Rs} {r : R41} (h : g41 k op0 kinds1 = some r) : Ev Try.prog noHand 41 [.c (ic op0), .c (.imm kinds1)] [] (res41 r) (bx41 r) := evr41 (ok41 _ _ _ h)
-- auspice/ssa.operands
inductive S30 where
  | e (op0 : Int)
  | h0 (op0 : Int) (t3 : Bool)
  | h1 (t16 : Bool)
abbrev R30 := Int
def res30 : R30 → ARes
  | r => .ret (.c (ic r))
def bx30 : R30 → List (List Cell)
  | r => []
noncomputable def t30_e (k : Nat) (rec : S30 → Option R30) (op0 : Int) : Option R30 :=
  (g41 k op0 [[ic 1]]).bind fun v_x1 =>
  bif v_x1 != 0 then
    rec (.h0 op0 true)
  else
    (g41 k op0 [[ic 2]]).bind fun v_x4 =>
    bif v_x4 != 0 then
      rec (.h0 op0 true)
    else
      (g41 k op0 [[ic 4]]).bind fun v_x7 =>
      rec (.h0 op0 (v_x7 != 0))
noncomputable def t30_h0 (k : Nat) (rec : S30 → Option R30) (op0 : Int) (t3 : Bool) : Option R30 :=
  bif t3 then
    some 1
  else
    bif decide (op0 ≥ 1) then
      rec (.h1 (decide (op0 ≤ 14)))
    else
      rec (.h1 false)
noncomputable def t30_h1 (k : Nat) (rec : S30 → Option R30) (t16 : Bool) : Option R30 :=
  bif t16 then
    some 2
  else
    some 0
noncomputable def step30 (k : Nat) (rec : S30 → Option R30) : S30 → Option R30
  | .e op0 => t30_e k rec op0
  | .h0 op0 t3 => t30_h0 k rec op0 t3
  | .h1 t16 => t30_h1 k rec t16
noncomputable def g30 (k : Nat) (op0 : Int) : Option R30 := itS step30 k (.e op0)
noncomputable def P30 : S30 → R30 → Prop
  | .e op0, r => Fin cx30 Try.f30 [.code body30] (fr0 Try.f30 [.c (ic op0)] []) (res30 r) (bx30 r)
  | .h0 op0 t3, r => Fin cx30 Try.f30 (kAt body30 [1, 0, 0, 1, 2] []) ⟨[.c (ic op0), .deadv, .deadv, .c (bc t3)] ++ rep 19 .deadv, []⟩ (res30 r) (bx30 r)
  | .h1 t16, r => Fin cx30 Try.f30 (kAt body30 [1, 0, 0, 1, 1, 1, 2] []) ⟨rep 16 .deadv ++ [.c (bc t16)] ++ rep 6 .deadv, []⟩ (res30 r) (bx30 r)
theorem evr30 {op0 : Int} {r : R30} (h : P30 (.e op0) r) : Ev Try.prog noHand 30 [.c (ic op0)] [] (res30 r) (bx30 r) := ev_of_fin (fn := Try.f30) (body := body30) (by kernel_rfl) (by kernel_rfl) (by kernel_rfl) rfl h
theorem t30_e_ok (k : Nat) (rec : S30 → Option R30) (ih : ∀ s r, rec s = some r → P30 s r) (op0 : Int) (r : R30) (h : t30_e k rec op0 = some r) : P30 (.e op0) r := by
  unfold t30_e at h
  obtain ⟨v_x1, h_x2, h⟩ := bd_or h
  rcases bif_or h with ⟨h_x3, h⟩ | ⟨h_x3, h⟩
  ·
    exact mgo_at (nb := 0) hmix (ih _ _ h) (n := 9) (ad := [(some 6, .call (.ret (.c (ic v_x1))) [] true), (some 7, .test true)]) (ps := [_, _, _]) (m := bm 23 8388598) (ls := []) (cs := []) (by kernel_rfl) ⟨(ev41 h_x2), (rfl : true = true), h_x3, trivial⟩
  ·
    obtain ⟨v_x4, h_x5, h⟩ := bd_or h
    rcases bif_or h with ⟨h_x6, h⟩ | ⟨h_x6, h⟩
    ·
      exact mgo_at (nb := 0) hmix (ih _ _ h) (n := 12) (ad := [(some 6, .call (.ret (.c (ic v_x1))) [] true), (some 7, .test false), (some 10, .call (.ret (.c (ic v_x4))) [] true), (some 11, .test true)]) (ps := [_, _, _, _, _, _]) (m := bm 23 8388598) (ls := []) (cs := []) (by kernel_rfl) ⟨(ev41 h_x2), (rfl : true = true), h_x3, (ev41 h_x5), (rfl : true = true), h_x6, trivial⟩
    ·
      obtain ⟨v_x7, h_x8, h⟩ := bd_or h
      exact mgo_at (nb := 0) hmix (ih _ _ h) (n := 12) (ad := [(some 6, .call (.ret (.c (ic v_x1))) [] true), (some 7, .test false), (some 10, .call (.ret (.c (ic v_x4))) [] true), (some 11, .test false), (some 14, .call (.ret (.c (ic v_x7))) [] true)]) (ps := [_, _, _, _, _, _, _, _]) (m := bm 23 8388598) (ls := []) (cs := []) (by kernel_rfl) ⟨(ev41 h_x2), (rfl : true = true), h_x3, (ev41 h_x5), (rfl : true = true), h_x6, (ev41 h_x8), (rfl : true = true), trivial⟩
theorem t30_h0_ok (k : Nat) (rec : S30 → Option R30) (ih : ∀ s r, rec s = some r → P30 s r) (op0 : Int) (t3 : Bool) (r : R30) (h : t30_h0 k rec op0 t3 = some r) : P30 (.h0 op0 t3) r := by
  unfold t30_h0 at h
  rcases bif_or h with ⟨hq, h1'⟩ | ⟨hq, h1'⟩
  · clear h; subst hq; have h := h1'; clear h1'
    rw [← Option.some.inj h]
    exact mgo_fin (nb := 0) hmix (n := 2000) (ad := []) (ps := []) (by kernel_rfl) trivial
  · clear h; subst hq; have h := h1'; clear h1'
    rcases bif_or h with ⟨h_x1, h⟩ | ⟨h_x1, h⟩
    ·
      exact mgo_at (nb := 0) hmix (ih _ _ h) (n := 3) (ad := [(some 18, .test true)]) (ps := [_]) (m := bm 23 8323071) (ls := []) (cs := []) (by kernel_rfl) ⟨h_x1, trivial⟩
    ·
      exact mgo_at (nb := 0) hmix (ih _ _ h) (n := 3) (ad := [(some 18, .test false)]) (ps := [_]) (m := bm 23 8323071) (ls := []) (cs := []) (by kernel_rfl) ⟨h_x1, trivial⟩
theorem t30_h1_ok (k : Nat) (rec : S30 → Option R30) (ih : ∀ s r, rec s = some r → P30 s r) (t16 : Bool) (r : R30) (h : t30_h1 k rec t16 = some r) : P30 (.h1 t16) r := by
  unfold t30_h1 at h
  rcases bif_or h with ⟨hq, h1'⟩ | ⟨hq, h1'⟩
  · clear h; subst hq; have h := h1'; clear h1'
    rw [← Option.some.inj h]
    exact mgo_fin (nb := 0) hmix (n := 2000) (ad := []) (ps := []) (by kernel_rfl) trivial
  · clear h; subst hq; have h := h1'; clear h1'
    rw [← Option.some.inj h]
    exact mgo_fin (nb := 0) hmix (n := 2000) (ad := []) (ps := []) (by kernel_rfl) trivial
theorem ok30 : ∀ k s r, itS step30 k s = some r → P30 s r := itS_ok fun k rec ih s r h => match s, h with
  | .e op0, h => t30_e_ok k rec ih op0 r h
  | .h0 op0 t3, h => t30_h0_ok k rec ih op0 t3 r h
  | .h1 t16, h => t30_h1_ok k rec ih t16 r h
theorem ev30 {k : Nat} {op0 : Int} {r : R30} (h : g30 k op0 = some r) : Ev Try.prog noHand 30 [.c (ic op0)] [] (res30 r) (bx30 r) := evr30 (ok30 _ _ _ h)
-- auspice/ssa.right
inductive S24 where
  | e (n0_0 : Int) (n0_1 : Int) (n0_2 : Rs) (n0_3 : Int) (n0_4 : Int) (n0_5 : Int) (n0_6 : Int)
  | h0 (t18 : Rs) (t19 : Int) (t20 : Int) (loc1_0 : Int) (loc1_1 : Int) (loc1_2 : Rs) (loc1_3 : Int) (loc1_4 : Int) (loc1_5 : Int) (loc1_6 : Int)
abbrev R24 := Bool
def res24 : R24 → ARes
  | r => .ret (.c (bc r))
def bx24 : R24 → List (List Cell)
  | r => []
noncomputable def t24_e (k : Nat) (rec : S24 → Option R24) (n0_0 : Int) (n0_1 : Int) (n0_2 : Rs) (n0_3 : Int) (n0_4 : Int) (n0_5 : Int) (n0_6 : Int) : Option R24 :=
  bif (n0_2.length : Int) == 0 then
    bif n0_0 == 40 then
      some true
    else
      (g39 k n0_0).bind fun v_x3 =>
      some v_x3
  else
    rec (.h0 n0_2 (n0_2.length : Int) 0 n0_0 n0_1 n0_2 n0_3 n0_4 n0_5 n0_6)
noncomputable def t24_h0 (k : Nat) (rec : S24 → Option R24) (t18 : Rs) (t19 : Int) (t20 : Int) (loc1_0 : Int) (loc1_1 : Int) (loc1_2 : Rs) (loc1_3 : Int) (loc1_4 : Int) (loc1_5 : Int) (loc1_6 : Int) : Option R24 :=
  bif decide (t20 < t19) then
    ixR t18 t20 fun w_x2 =>
    un_iimiuii w_x2 fun op_x4 kind_x4 args_x4 valueKind_x4 valueBits_x4 pos_x4 attr_x4 =>
    (rec (.e op_x4 kind_x4 args_x4 valueKind_x4 valueBits_x4 pos_x4 attr_x4)).bind fun v_x5 =>
    bif !v_x5 then
      some false
    else
      rec (.h0 t18 t19 (IntKind.i64.wrap (t20 + 1)) loc1_0 loc1_1 loc1_2 loc1_3 loc1_4 loc1_5 loc1_6)
  else
    (g30 k loc1_0).bind fun v_x2 =>
    some (v_x2 == (loc1_2.length : Int))
noncomputable def step24 (k : Nat) (rec : S24 → Option R24) : S24 → Option R24
  | .e n0_0 n0_1 n0_2 n0_3 n0_4 n0_5 n0_6 => t24_e k rec n0_0 n0_1 n0_2 n0_3 n0_4 n0_5 n0_6
  | .h0 t18 t19 t20 loc1_0 loc1_1 loc1_2 loc1_3 loc1_4 loc1_5 loc1_6 => t24_h0 k rec t18 t19 t20 loc1_0 loc1_1 loc1_2 loc1_3 loc1_4 loc1_5 loc1_6
noncomputable def g24 (k : Nat) (n0_0 : Int) (n0_1 : Int) (n0_2 : Rs) (n0_3 : Int) (n0_4 : Int) (n0_5 : Int) (n0_6 : Int) : Option R24 := itS step24 k (.e n0_0 n0_1 n0_2 n0_3 n0_4 n0_5 n0_6)
noncomputable def P24 : S24 → R24 → Prop
  | .e n0_0 n0_1 n0_2 n0_3 n0_4 n0_5 n0_6, r => Fin cx24 Try.f24 [.code body24] (fr0 Try.f24 [.ag [ic n0_0, ic n0_1, .imm n0_2, ic n0_3, .val (.int .u64 n0_4), ic n0_5, ic n0_6]] []) (res24 r) (bx24 r)
  | .h0 t18 t19 t20 loc1_0 loc1_1 loc1_2 loc1_3 loc1_4 loc1_5 loc1_6, r => Fin cx24 Try.f24 (kAt body24 [1, 1, 0, 1, 0, 4] []) ⟨[.deadv, .c (.ptr ⟨⟨.loc 1, []⟩, 0, 0⟩)] ++ rep 16 .deadv ++ [.c (.imm t18), .c (ic t19), .c (ic t20)] ++ rep 14 .deadv, [(.loc 1, [ic loc1_0, ic loc1_1, .imm loc1_2, ic loc1_3, .val (.int .u64 loc1_4), ic loc1_5, ic loc1_6])]⟩ (res24 r) (bx24 r)
theorem evr24 {n0_0 : Int} {n0_1 : Int} {n0_2 : Rs} {n0_3 : Int} {n0_4 : Int} {n0_5 : Int} {n0_6 : Int} {r : R24} (h : P24 (.e n0_0 n0_1 n0_2 n0_3 n0_4 n0_5 n0_6) r) : Ev Try.prog noHand 24 [.ag [ic n0_0, ic n0_1, .imm n0_2, ic n0_3, .val (.int .u64 n0_4), ic n0_5, ic n0_6]] [] (res24 r) (bx24 r) := ev_of_fin (fn := Try.f24) (body := body24) (by kernel_rfl) (by kernel_rfl) (by kernel_rfl) rfl h
theorem t24_e_ok (k : Nat) (rec : S24 → Option R24) (ih : ∀ s r, rec s = some r → P24 s r) (n0_0 : Int) (n0_1 : Int) (n0_2 : Rs) (n0_3 : Int) (n0_4 : Int) (n0_5 : Int) (n0_6 : Int) (r : R24) (h : t24_e k rec n0_0 n0_1 n0_2 n0_3 n0_4 n0_5 n0_6 = some r) : P24 (.e n0_0 n0_1 n0_2 n0_3 n0_4 n0_5 n0_6) r := by
  unfold t24_e at h
  rcases bif_or h with ⟨h_x1, h⟩ | ⟨h_x1, h⟩
  ·
    rcases bif_or h with ⟨h_x2, h⟩ | ⟨h_x2, h⟩
    ·
      rw [← Option.some.inj h]
      exact mgo_fin (nb := 0) hmix (n := 2000) (ad := [(some 8, .test true), (some 11, .test true)]) (ps := [_, _]) (by kernel_rfl) ⟨h_x1, h_x2, trivial⟩
    ·
      obtain ⟨v_x3, h_x4, h⟩ := bd_or h
      rw [← Option.some.inj h]
      exact mgo_fin (nb := 0) hmix (n := 2000) (ad := [(some 8, .test true), (some 11, .test false), (some 15, .call (.ret (.c (bc v_x3))) [] false)]) (ps := [_, _, _]) (by kernel_rfl) ⟨h_x1, h_x2, (ev39 h_x4), trivial⟩
  ·
    exact mgo_at (nb := 0) hmix (ih _ _ h) (n := 12) (ad := [(some 8, .test false)]) (ps := [_]) (m := bm 35 34357903357) (ls := []) (cs := []) (by kernel_rfl) ⟨h_x1, trivial⟩
theorem t24_h0_ok (k : Nat) (rec : S24 → Option R24) (ih : ∀ s r, rec s = some r → P24 s r) (t18 : Rs) (t19 : Int) (t20 : Int) (loc1_0 : Int) (loc1_1 : Int) (loc1_2 : Rs) (loc1_3 : Int) (loc1_4 : Int) (loc1_5 : Int) (loc1_6 : Int) (r : R24) (h : t24_h0 k rec t18 t19 t20 loc1_0 loc1_1 loc1_2 loc1_3 loc1_4 loc1_5 loc1_6 = some r) : P24 (.h0 t18 t19 t20 loc1_0 loc1_1 loc1_2 loc1_3 loc1_4 loc1_5 loc1_6) r := by
  unfold t24_h0 at h
  rcases bif_or h with ⟨h_x1, h⟩ | ⟨h_x1, h⟩
  ·
    obtain ⟨w_x2, h_x3, h⟩ := ixR_or h
    obtain ⟨op_x4, kind_x4, args_x4, valueKind_x4, valueBits_x4, pos_x4, attr_x4, hq, h1'⟩ := un_iimiuii_or h
    clear h; subst hq; have h := h1'; clear h1'
    obtain ⟨v_x5, h_x6, h⟩ := bd_or h
    rcases bif_or h with ⟨h_x7, h⟩ | ⟨h_x7, h⟩
    ·
      rw [← Option.some.inj h]
      exact mgo_fin (nb := 0) hmix (n := 2000) (ad := [(some 21, .test true), (some 22, .row [ic op_x4, ic kind_x4, .imm args_x4, ic valueKind_x4, .val (.int .u64 valueBits_x4), ic pos_x4, ic attr_x4]), (some 25, .call (.ret (.c (bc v_x5))) [] false), (some 26, .test true)]) (ps := [_, _, _, _]) (by kernel_rfl) ⟨h_x1, ix_row h_x3 rfl, (evr24 (ih _ _ h_x6)), h_x7, trivial⟩
    ·
      exact mgo_at (nb := 0) hmix (ih _ _ h) (n := 16) (ad := [(some 21, .test true), (some 22, .row [ic op_x4, ic kind_x4, .imm args_x4, ic valueKind_x4, .val (.int .u64 valueBits_x4), ic pos_x4, ic attr_x4]), (some 25, .call (.ret (.c (bc v_x5))) [] false), (some 26, .test false)]) (ps := [_, _, _, _]) (m := bm 35 34357903357) (ls := [4]) (cs := []) (by kernel_rfl) ⟨h_x1, ix_row h_x3 rfl, (evr24 (ih _ _ h_x6)), h_x7, trivial⟩
  ·
    obtain ⟨v_x2, h_x3, h⟩ := bd_or h
    rw [← Option.some.inj h]
    exact mgo_fin (nb := 0) hmix (n := 2000) (ad := [(some 21, .test false), (some 30, .call (.ret (.c (ic v_x2))) [] false)]) (ps := [_, _]) (by kernel_rfl) ⟨h_x1, (ev30 h_x3), trivial⟩
theorem ok24 : ∀ k s r, itS step24 k s = some r → P24 s r := itS_ok fun k rec ih s r h => match s, h with
  | .e n0_0 n0_1 n0_2 n0_3 n0_4 n0_5 n0_6, h => t24_e_ok k rec ih n0_0 n0_1 n0_2 n0_3 n0_4 n0_5 n0_6 r h
  | .h0 t18 t19 t20 loc1_0 loc1_1 loc1_2 loc1_3 loc1_4 loc1_5 loc1_6, h => t24_h0_ok k rec ih t18 t19 t20 loc1_0 loc1_1 loc1_2 loc1_3 loc1_4 loc1_5 loc1_6 r h
theorem ev24 {k : Nat} {n0_0 : Int} {n0_1 : Int} {n0_2 : Rs} {n0_3 : Int} {n0_4 : Int} {n0_5 : Int} {n0_6 : Int} {r : R24} (h : g24 k n0_0 n0_1 n0_2 n0_3 n0_4 n0_5 n0_6 = some r) : Ev Try.prog noHand 24 [.ag [ic n0_0, ic n0_1, .imm n0_2, ic n0_3, .val (.int .u64 n0_4), ic n0_5, ic n0_6]] [] (res24 r) (bx24 r) := evr24 (ok24 _ _ _ h)
-- (*auspice/ssa.maker).put
inductive S26e where
  | e (x1_0 : Int) (x1_1 : Int) (x1_2 : Int) (x1_3 : Int) (b0_0 : Int) (b0_1 : Int) (b0_2 : Rs) (b0_3 : Rs) (b0_4 : Rs) (b0_5 : Bool) (b0_6 : Es) (b0_7 : Bool)
  | h0 (r6 : Int) (t25 : Bool) (loc5_0 : Int) (loc5_1 : Int) (loc5_2 : Int) (loc5_3 : Int) (loc3_0 : Int) (loc3_1 : Int) (loc3_2 : Int) (loc3_3 : Int) (par0_0 : Int) (par0_1 : Int) (par0_2 : Rs) (par0_3 : Rs) (par0_4 : Rs) (par0_5 : Bool) (par0_6 : Es) (par0_7 : Bool)
abbrev R26e := Int × Int × Int × Rs × Rs × Rs × Bool × Es × Bool
def res26e : R26e → ARes
  | (r, r_b0_0, r_b0_1, r_b0_2, r_b0_3, r_b0_4, r_b0_5, r_b0_6, r_b0_7) => .ret (.c (ic r))
def bx26e : R26e → List (List Cell)
  | (r, r_b0_0, r_b0_1, r_b0_2, r_b0_3, r_b0_4, r_b0_5, r_b0_6, r_b0_7) => [[ic r_b0_0, ic r_b0_1, .own 4 r_b0_2, .own 2 r_b0_3, .own 4 r_b0_4, bc r_b0_5, .mp r_b0_6, bc r_b0_7]]
noncomputable def t26e_e (k : Nat) (rec : S26e → Option R26e) (x1_0 : Int) (x1_1 : Int) (x1_2 : Int) (x1_3 : Int) (b0_0 : Int) (b0_1 : Int) (b0_2 : Rs) (b0_3 : Rs) (b0_4 : Rs) (b0_5 : Bool) (b0_6 : Es) (b0_7 : Bool) : Option R26e :=
  (mapFind Try.prog 48 (.agg #[.int .i64 x1_0, .int .i64 0, .int .i64 x1_2, .int .i64 x1_3]) b0_6).bind fun e_x1 =>
  optC e_x1 (
      rec (.h0 0 false x1_0 0 x1_2 x1_3 x1_0 x1_1 x1_2 x1_3 b0_0 b0_1 b0_2 b0_3 b0_4 b0_5 b0_6 b0_7)) fun w_x3 =>
    un_i w_x3 fun x_x4 =>
    rec (.h0 x_x4 b0_5 x1_0 0 x1_2 x1_3 x1_0 x1_1 x1_2 x1_3 b0_0 b0_1 b0_2 b0_3 b0_4 b0_5 b0_6 b0_7)
noncomputable def t26e_h0 (k : Nat) (rec : S26e → Option R26e) (r6 : Int) (t25 : Bool) (loc5_0 : Int) (loc5_1 : Int) (loc5_2 : Int) (loc5_3 : Int) (loc3_0 : Int) (loc3_1 : Int) (loc3_2 : Int) (loc3_3 : Int) (par0_0 : Int) (par0_1 : Int) (par0_2 : Rs) (par0_3 : Rs) (par0_4 : Rs) (par0_5 : Bool) (par0_6 : Es) (par0_7 : Bool) : Option R26e :=
  bif t25 then
    some (r6, par0_0, par0_1, par0_2, par0_3, par0_4, par0_5, par0_6, par0_7)
  else
    bif decide ((par0_4.length : Int) ≥ 1024) then
      some (0, par0_0, par0_1, par0_2, par0_3, par0_4, par0_5, par0_6, true)
    else
      gd (apOk 32 4 par0_4 [[ic loc3_0, ic (par0_4.length : Int), ic loc3_2, ic loc3_3]]) <|
      (mapPut Try.prog 48 (.agg #[.int .i64 loc5_0, .int .i64 loc5_1, .int .i64 loc5_2, .int .i64 loc5_3]) [ic (par0_4.length : Int)] par0_6).bind fun es_x3 =>
      some ((par0_4.length : Int), par0_0, par0_1, par0_2, par0_3, par0_4 ++ [[ic loc3_0, ic (par0_4.length : Int), ic loc3_2, ic loc3_3]], par0_5, es_x3, par0_7)
noncomputable def step26e (k : Nat) (rec : S26e → Option R26e) : S26e → Option R26e
  | .e x1_0 x1_1 x1_2 x1_3 b0_0 b0_1 b0_2 b0_3 b0_4 b0_5 b0_6 b0_7 => t26e_e k rec x1_0 x1_1 x1_2 x1_3 b0_0 b0_1 b0_2 b0_3 b0_4 b0_5 b0_6 b0_7
  | .h0 r6 t25 loc5_0 loc5_1 loc5_2 loc5_3 loc3_0 loc3_1 loc3_2 loc3_3 par0_0 par0_1 par0_2 par0_3 par0_4 par0_5 par0_6 par0_7 => t26e_h0 k rec r6 t25 loc5_0 loc5_1 loc5_2 loc5_3 loc3_0 loc3_1 loc3_2 loc3_3 par0_0 par0_1 par0_2 par0_3 par0_4 par0_5 par0_6 par0_7
noncomputable def g26e (k : Nat) (x1_0 : Int) (x1_1 : Int) (x1_2 : Int) (x1_3 : Int) (b0_0 : Int) (b0_1 : Int) (b0_2 : Rs) (b0_3 : Rs) (b0_4 : Rs) (b0_5 : Bool) (b0_6 : Es) (b0_7 : Bool) : Option R26e := itS step26e k (.e x1_0 x1_1 x1_2 x1_3 b0_0 b0_1 b0_2 b0_3 b0_4 b0_5 b0_6 b0_7)
noncomputable def P26e : S26e → R26e → Prop
  | .e x1_0 x1_1 x1_2 x1_3 b0_0 b0_1 b0_2 b0_3 b0_4 b0_5 b0_6 b0_7, r => Fin cx26 Try.f26 [.code body26] (fr0 Try.f26 [.c (.ptr ⟨⟨.par 0, []⟩, 0, 0⟩), .ag [ic x1_0, ic x1_1, ic x1_2, ic x1_3]] [[ic b0_0, ic b0_1, .own 4 b0_2, .own 2 b0_3, .own 4 b0_4, bc b0_5, .mp b0_6, bc b0_7]]) (res26e r) (bx26e r)
  | .h0 r6 t25 loc5_0 loc5_1 loc5_2 loc5_3 loc3_0 loc3_1 loc3_2 loc3_3 par0_0 par0_1 par0_2 par0_3 par0_4 par0_5 par0_6 par0_7, r => Fin cx26 Try.f26 (kAt body26 [1, 1, 1, 0, 1, 1, 2] []) ⟨[.c (.ptr ⟨⟨.par 0, []⟩, 0, 0⟩), .deadv, .deadv, .c (.ptr ⟨⟨.loc 3, []⟩, 0, 0⟩), .deadv, .c (.ptr ⟨⟨.loc 5, []⟩, 0, 0⟩), .c (ic r6)] ++ rep 18 .deadv ++ [.c (bc t25)] ++ rep 39 .deadv, [(.loc 5, [ic loc5_0, ic loc5_1, ic loc5_2, ic loc5_3]), (.loc 3, [ic loc3_0, ic loc3_1, ic loc3_2, ic loc3_3]), (.par 0, [ic par0_0, ic par0_1, .own 4 par0_2, .own 2 par0_3, .own 4 par0_4, bc par0_5, .mp par0_6, bc par0_7])]⟩ (res26e r) (bx26e r)
theorem evr26e {x1_0 : Int} {x1_1 : Int} {x1_2 : Int} {x1_3 : Int} {b0_0 : Int} {b0_1 : Int} {b0_2 : Rs} {b0_3 : Rs} {b0_4 : Rs} {b0_5 : Bool} {b0_6 : Es} {b0_7 : Bool} {r : R26e} (h : P26e (.e x1_0 x1_1 x1_2 x1_3 b0_0 b0_1 b0_2 b0_3 b0_4 b0_5 b0_6 b0_7) r) : Ev Try.prog noHand 26 [.c (.ptr ⟨⟨.par 0, []⟩, 0, 0⟩), .ag [ic x1_0, ic x1_1, ic x1_2, ic x1_3]] [[ic b0_0, ic b0_1, .own 4 b0_2, .own 2 b0_3, .own 4 b0_4, bc b0_5, .mp b0_6, bc b0_7]] (res26e r) (bx26e r) := ev_of_fin (fn := Try.f26) (body := body26) (by kernel_rfl) (by kernel_rfl) (by kernel_rfl) rfl h
theorem t26e_e_ok (k : Nat) (rec : S26e → Option R26e) (ih : ∀ s r, rec s = some r → P26e s r) (x1_0 : Int) (x1_1 : Int) (x1_2 : Int) (x1_3 : Int) (b0_0 : Int) (b0_1 : Int) (b0_2 : Rs) (b0_3 : Rs) (b0_4 : Rs) (b0_5 : Bool) (b0_6 : Es) (b0_7 : Bool) (r : R26e) (h : t26e_e k rec x1_0 x1_1 x1_2 x1_3 b0_0 b0_1 b0_2 b0_3 b0_4 b0_5 b0_6 b0_7 = some r) : P26e (.e x1_0 x1_1 x1_2 x1_3 b0_0 b0_1 b0_2 b0_3 b0_4 b0_5 b0_6 b0_7) r := by
  unfold t26e_e at h
  obtain ⟨e_x1, h_x2, h⟩ := bd_or h
  rcases optC_or h with ⟨w_x3, hq, h1'⟩ | ⟨hq, h1'⟩
  · clear h; subst hq; have h := h1'; clear h1'
    obtain ⟨x_x4, hq, h1'⟩ := un_i_or h
    clear h; subst hq; have h := h1'; clear h1'
    exact mgo_at (nb := 1) hmix (ih _ _ h) (n := 11) (ad := [(some 16, .look (some [ic x_x4]))]) (ps := [_]) (m := bm 65 36893488147385548694) (ls := []) (cs := []) (by kernel_rfl) ⟨h_x2, trivial⟩
  · clear h; subst hq; have h := h1'; clear h1'
    exact mgo_at (nb := 1) hmix (ih _ _ h) (n := 11) (ad := [(some 16, .look none)]) (ps := [_]) (m := bm 65 36893488147385548694) (ls := []) (cs := []) (by kernel_rfl) ⟨h_x2, trivial⟩
theorem t26e_h0_ok (k : Nat) (rec : S26e → Option R26e) (ih : ∀ s r, rec s = some r → P26e s r) (r6 : Int) (t25 : Bool) (loc5_0 : Int) (loc5_1 : Int) (loc5_2 : Int) (loc5_3 : Int) (loc3_0 : Int) (loc3_1 : Int) (loc3_2 : Int) (loc3_3 : Int) (par0_0 : Int) (par0_1 : Int) (par0_2 : Rs) (par0_3 : Rs) (par0_4 : Rs) (par0_5 : Bool) (par0_6 : Es) (par0_7 : Bool) (r : R26e) (h : t26e_h0 k rec r6 t25 loc5_0 loc5_1 loc5_2 loc5_3 loc3_0 loc3_1 loc3_2 loc3_3 par0_0 par0_1 par0_2 par0_3 par0_4 par0_5 par0_6 par0_7 = some r) : P26e (.h0 r6 t25 loc5_0 loc5_1 loc5_2 loc5_3 loc3_0 loc3_1 loc3_2 loc3_3 par0_0 par0_1 par0_2 par0_3 par0_4 par0_5 par0_6 par0_7) r := by
  unfold t26e_h0 at h
  rcases bif_or h with ⟨hq, h1'⟩ | ⟨hq, h1'⟩
  · clear h; subst hq; have h := h1'; clear h1'
    rw [← Option.some.inj h]
    exact mgo_fin (nb := 1) hmix (n := 2000) (ad := []) (ps := []) (by kernel_rfl) trivial
  · clear h; subst hq; have h := h1'; clear h1'
    rcases bif_or h with ⟨h_x1, h⟩ | ⟨h_x1, h⟩
    ·
      rw [← Option.some.inj h]
      exact mgo_fin (nb := 1) hmix (n := 2000) (ad := [(some 33, .test true)]) (ps := [_]) (by kernel_rfl) ⟨h_x1, trivial⟩
    ·
      obtain ⟨h_x2, h⟩ := gd_or h
      obtain ⟨es_x3, h_x4, h⟩ := bd_or h
      rw [← Option.some.inj h]
      exact mgo_fin (nb := 1) hmix (n := 2000) (ad := [(some 33, .test false), (none, .st), (some 52, .okE false), (none, .st), (none, .put es_x3)]) (ps := [_, _, _, _, _]) (by kernel_rfl) ⟨h_x1, (⟨_, rfl⟩ : ∃ c0, cellAt [[ic loc3_0, ic loc3_1, ic loc3_2, ic loc3_3]] 0 1 = some c0), okF [[ic loc3_0, ic (par0_4.length : Int), ic loc3_2, ic loc3_3]] h_x2, (⟨_, rfl⟩ : ∃ c0, cellAt [[ic par0_0, ic par0_1, .own 4 par0_2, .own 2 par0_3, .dead, bc par0_5, .mp par0_6, bc par0_7]] 0 4 = some c0), h_x4, trivial⟩
theorem ok26e : ∀ k s r, itS step26e k s = some r → P26e s r := itS_ok fun k rec ih s r h => match s, h with
  | .e x1_0 x1_1 x1_2 x1_3 b0_0 b0_1 b0_2 b0_3 b0_4 b0_5 b0_6 b0_7, h => t26e_e_ok k rec ih x1_0 x1_1 x1_2 x1_3 b0_0 b0_1 b0_2 b0_3 b0_4 b0_5 b0_6 b0_7 r h
  | .h0 r6 t25 loc5_0 loc5_1 loc5_2 loc5_3 loc3_0 loc3_1 loc3_2 loc3_3 par0_0 par0_1 par0_2 par0_3 par0_4 par0_5 par0_6 par0_7, h => t26e_h0_ok k rec ih r6 t25 loc5_0 loc5_1 loc5_2 loc5_3 loc3_0 loc3_1 loc3_2 loc3_3 par0_0 par0_1 par0_2 par0_3 par0_4 par0_5 par0_6 par0_7 r h
theorem ev26e {k : Nat} {x1_0 : Int} {x1_1 : Int} {x1_2 : Int} {x1_3 : Int} {b0_0 : Int} {b0_1 : Int} {b0_2 : Rs} {b0_3 : Rs} {b0_4 : Rs} {b0_5 : Bool} {b0_6 : Es} {b0_7 : Bool} {r : R26e} (h : g26e k x1_0 x1_1 x1_2 x1_3 b0_0 b0_1 b0_2 b0_3 b0_4 b0_5 b0_6 b0_7 = some r) : Ev Try.prog noHand 26 [.c (.ptr ⟨⟨.par 0, []⟩, 0, 0⟩), .ag [ic x1_0, ic x1_1, ic x1_2, ic x1_3]] [[ic b0_0, ic b0_1, .own 4 b0_2, .own 2 b0_3, .own 4 b0_4, bc b0_5, .mp b0_6, bc b0_7]] (res26e r) (bx26e r) := evr26e (ok26e _ _ _ h)
-- auspice/ssa.place[auspice/api.Value]
inductive S36d where
  | e (x1_0 : Int) (x1_1 : Int) (b0_0 : Int) (b0_1 : Int) (b0_2 : Rs) (b0_3 : Rs) (b0_4 : Rs) (b0_5 : Bool) (b0_6 : Es) (b0_7 : Bool)
  | h0 (t10 : Int) (t11 : Int) (loc3_0 : Int) (loc3_1 : Int) (par0_0 : Int) (par0_1 : Int) (par0_2 : Rs) (par0_3 : Rs) (par0_4 : Rs) (par0_5 : Bool) (par0_6 : Es) (par0_7 : Bool)
abbrev R36d := Int × Int × Int × Rs × Rs × Rs × Bool × Es × Bool
def res36d : R36d → ARes
  | (r, r_b0_0, r_b0_1, r_b0_2, r_b0_3, r_b0_4, r_b0_5, r_b0_6, r_b0_7) => .ret (.c (ic r))
def bx36d : R36d → List (List Cell)
  | (r, r_b0_0, r_b0_1, r_b0_2, r_b0_3, r_b0_4, r_b0_5, r_b0_6, r_b0_7) => [[ic r_b0_0, ic r_b0_1, .own 4 r_b0_2, .own 2 r_b0_3, .own 4 r_b0_4, bc r_b0_5, .mp r_b0_6, bc r_b0_7]]
noncomputable def t36d_e (k : Nat) (rec : S36d → Option R36d) (x1_0 : Int) (x1_1 : Int) (b0_0 : Int) (b0_1 : Int) (b0_2 : Rs) (b0_3 : Rs) (b0_4 : Rs) (b0_5 : Bool) (b0_6 : Es) (b0_7 : Bool) : Option R36d :=
  rec (.h0 (b0_3.length : Int) 0 x1_0 x1_1 b0_0 b0_1 b0_2 b0_3 b0_4 b0_5 b0_6 b0_7)
noncomputable def t36d_h0 (k : Nat) (rec : S36d → Option R36d) (t10 : Int) (t11 : Int) (loc3_0 : Int) (loc3_1 : Int) (par0_0 : Int) (par0_1 : Int) (par0_2 : Rs) (par0_3 : Rs) (par0_4 : Rs) (par0_5 : Bool) (par0_6 : Es) (par0_7 : Bool) : Option R36d :=
  bif decide (t11 < t10) then
    ixR par0_3 t11 fun w_x2 =>
    un_iu w_x2 fun kind_x4 bits_x4 =>
    bif (kind_x4 == loc3_0 && (bits_x4 == loc3_1 && true)) then
      some (t11, par0_0, par0_1, par0_2, par0_3, par0_4, par0_5, par0_6, par0_7)
    else
      rec (.h0 t10 (IntKind.i64.wrap (t11 + 1)) loc3_0 loc3_1 par0_0 par0_1 par0_2 par0_3 par0_4 par0_5 par0_6 par0_7)
  else
    gd (apOk 16 2 par0_3 [[ic loc3_0, .val (.int .u64 loc3_1)]]) <|
    some (IntKind.i64.wrap (((par0_3 ++ [[ic loc3_0, .val (.int .u64 loc3_1)]]).length : Int) - 1), par0_0, par0_1, par0_2, par0_3 ++ [[ic loc3_0, .val (.int .u64 loc3_1)]], par0_4, par0_5, par0_6, par0_7)
noncomputable def step36d (k : Nat) (rec : S36d → Option R36d) : S36d → Option R36d
  | .e x1_0 x1_1 b0_0 b0_1 b0_2 b0_3 b0_4 b0_5 b0_6 b0_7 => t36d_e k rec x1_0 x1_1 b0_0 b0_1 b0_2 b0_3 b0_4 b0_5 b0_6 b0_7
  | .h0 t10 t11 loc3_0 loc3_1 par0_0 par0_1 par0_2 par0_3 par0_4 par0_5 par0_6 par0_7 => t36d_h0 k rec t10 t11 loc3_0 loc3_1 par0_0 par0_1 par0_2 par0_3 par0_4 par0_5 par0_6 par0_7
noncomputable def g36d (k : Nat) (x1_0 : Int) (x1_1 : Int) (b0_0 : Int) (b0_1 : Int) (b0_2 : Rs) (b0_3 : Rs) (b0_4 : Rs) (b0_5 : Bool) (b0_6 : Es) (b0_7 : Bool) : Option R36d := itS step36d k (.e x1_0 x1_1 b0_0 b0_1 b0_2 b0_3 b0_4 b0_5 b0_6 b0_7)
noncomputable def P36d : S36d → R36d → Prop
  | .e x1_0 x1_1 b0_0 b0_1 b0_2 b0_3 b0_4 b0_5 b0_6 b0_7, r => Fin cx36 Try.f36 [.code body36] (fr0 Try.f36 [.c (.ptr ⟨⟨.par 0, []⟩, 0, 3⟩), .ag [ic x1_0, .val (.int .u64 x1_1)]] [[ic b0_0, ic b0_1, .own 4 b0_2, .own 2 b0_3, .own 4 b0_4, bc b0_5, .mp b0_6, bc b0_7]]) (res36d r) (bx36d r)
  | .h0 t10 t11 loc3_0 loc3_1 par0_0 par0_1 par0_2 par0_3 par0_4 par0_5 par0_6 par0_7, r => Fin cx36 Try.f36 (kAt body36 [1, 0, 1, 0, 4] []) ⟨[.c (.ptr ⟨⟨.par 0, []⟩, 0, 3⟩), .deadv, .deadv, .c (.ptr ⟨⟨.loc 3, []⟩, 0, 0⟩)] ++ rep 5 .deadv ++ [.c (.ref ⟨⟨.par 0, []⟩, 0, 3⟩), .c (ic t10), .c (ic t11)] ++ rep 22 .deadv, [(.loc 3, [ic loc3_0, .val (.int .u64 loc3_1)]), (.par 0, [ic par0_0, ic par0_1, .own 4 par0_2, .own 2 par0_3, .own 4 par0_4, bc par0_5, .mp par0_6, bc par0_7])]⟩ (res36d r) (bx36d r)
theorem evr36d {x1_0 : Int} {x1_1 : Int} {b0_0 : Int} {b0_1 : Int} {b0_2 : Rs} {b0_3 : Rs} {b0_4 : Rs} {b0_5 : Bool} {b0_6 : Es} {b0_7 : Bool} {r : R36d} (h : P36d (.e x1_0 x1_1 b0_0 b0_1 b0_2 b0_3 b0_4 b0_5 b0_6 b0_7) r) : Ev Try.prog noHand 36 [.c (.ptr ⟨⟨.par 0, []⟩, 0, 3⟩), .ag [ic x1_0, .val (.int .u64 x1_1)]] [[ic b0_0, ic b0_1, .own 4 b0_2, .own 2 b0_3, .own 4 b0_4, bc b0_5, .mp b0_6, bc b0_7]] (res36d r) (bx36d r) := ev_of_fin (fn := Try.f36) (body := body36) (by kernel_rfl) (by kernel_rfl) (by kernel_rfl) rfl h
theorem t36d_e_ok (k : Nat) (rec : S36d → Option R36d) (ih : ∀ s r, rec s = some r → P36d s r) (x1_0 : Int) (x1_1 : Int) (b0_0 : Int) (b0_1 : Int) (b0_2 : Rs) (b0_3 : Rs) (b0_4 : Rs) (b0_5 : Bool) (b0_6 : Es) (b0_7 : Bool) (r : R36d) (h : t36d_e k rec x1_0 x1_1 b0_0 b0_1 b0_2 b0_3 b0_4 b0_5 b0_6 b0_7 = some r) : P36d (.e x1_0 x1_1 b0_0 b0_1 b0_2 b0_3 b0_4 b0_5 b0_6 b0_7) r := by
  unfold t36d_e at h
  exact mgo_at (nb := 1) hmix (ih _ _ h) (n := 7) (ad := []) (ps := []) (m := bm 34 17179865590) (ls := []) (cs := []) (by kernel_rfl) trivial
theorem t36d_h0_ok (k : Nat) (rec : S36d → Option R36d) (ih : ∀ s r, rec s = some r → P36d s r) (t10 : Int) (t11 : Int) (loc3_0 : Int) (loc3_1 : Int) (par0_0 : Int) (par0_1 : Int) (par0_2 : Rs) (par0_3 : Rs) (par0_4 : Rs) (par0_5 : Bool) (par0_6 : Es) (par0_7 : Bool) (r : R36d) (h : t36d_h0 k rec t10 t11 loc3_0 loc3_1 par0_0 par0_1 par0_2 par0_3 par0_4 par0_5 par0_6 par0_7 = some r) : P36d (.h0 t10 t11 loc3_0 loc3_1 par0_0 par0_1 par0_2 par0_3 par0_4 par0_5 par0_6 par0_7) r := by
  unfold t36d_h0 at h
  rcases bif_or h with ⟨h_x1, h⟩ | ⟨h_x1, h⟩
  ·
    obtain ⟨w_x2, h_x3, h⟩ := ixR_or h
    obtain ⟨kind_x4, bits_x4, hq, h1'⟩ := un_iu_or h
    clear h; subst hq; have h := h1'; clear h1'
    rcases bif_or h with ⟨h_x5, h⟩ | ⟨h_x5, h⟩
    ·
      rw [← Option.some.inj h]
      exact mgo_fin (nb := 1) hmix (n := 2000) (ad := [(some 12, .test true), (some 14, .bnd), (some 15, .ld [ic kind_x4, .val (.int .u64 bits_x4)]), (some 18, .test true)]) (ps := [_, _, _, _]) (by kernel_rfl) ⟨h_x1, ix_bnd h_x3, h_x3.2, h_x5, trivial⟩
    ·
      exact mgo_at (nb := 1) hmix (ih _ _ h) (n := 16) (ad := [(some 12, .test true), (some 14, .bnd), (some 15, .ld [ic kind_x4, .val (.int .u64 bits_x4)]), (some 18, .test false)]) (ps := [_, _, _, _]) (m := bm 34 17179865590) (ls := [6]) (cs := []) (by kernel_rfl) ⟨h_x1, ix_bnd h_x3, h_x3.2, h_x5, trivial⟩
  ·
    obtain ⟨h_x2, h⟩ := gd_or h
    rw [← Option.some.inj h]
    exact mgo_fin (nb := 1) hmix (n := 2000) (ad := [(some 12, .test false), (some 27, .okE false)]) (ps := [_, _]) (by kernel_rfl) ⟨h_x1, okF [[ic loc3_0, .val (.int .u64 loc3_1)]] h_x2, trivial⟩
theorem ok36d : ∀ k s r, itS step36d k s = some r → P36d s r := itS_ok fun k rec ih s r h => match s, h with
  | .e x1_0 x1_1 b0_0 b0_1 b0_2 b0_3 b0_4 b0_5 b0_6 b0_7, h => t36d_e_ok k rec ih x1_0 x1_1 b0_0 b0_1 b0_2 b0_3 b0_4 b0_5 b0_6 b0_7 r h
  | .h0 t10 t11 loc3_0 loc3_1 par0_0 par0_1 par0_2 par0_3 par0_4 par0_5 par0_6 par0_7, h => t36d_h0_ok k rec ih t10 t11 loc3_0 loc3_1 par0_0 par0_1 par0_2 par0_3 par0_4 par0_5 par0_6 par0_7 r h
theorem ev36d {k : Nat} {x1_0 : Int} {x1_1 : Int} {b0_0 : Int} {b0_1 : Int} {b0_2 : Rs} {b0_3 : Rs} {b0_4 : Rs} {b0_5 : Bool} {b0_6 : Es} {b0_7 : Bool} {r : R36d} (h : g36d k x1_0 x1_1 b0_0 b0_1 b0_2 b0_3 b0_4 b0_5 b0_6 b0_7 = some r) : Ev Try.prog noHand 36 [.c (.ptr ⟨⟨.par 0, []⟩, 0, 3⟩), .ag [ic x1_0, .val (.int .u64 x1_1)]] [[ic b0_0, ic b0_1, .own 4 b0_2, .own 2 b0_3, .own 4 b0_4, bc b0_5, .mp b0_6, bc b0_7]] (res36d r) (bx36d r) := evr36d (ok36d _ _ _ h)
-- auspice/ssa.place[auspice/api.Input]
inductive S35d where
  | e (x1_0 : Int) (x1_1 : Int) (x1_2 : Int) (x1_3 : Int) (b0_0 : Int) (b0_1 : Int) (b0_2 : Rs) (b0_3 : Rs) (b0_4 : Rs) (b0_5 : Bool) (b0_6 : Es) (b0_7 : Bool)
  | h0 (t10 : Int) (t11 : Int) (loc3_0 : Int) (loc3_1 : Int) (loc3_2 : Int) (loc3_3 : Int) (par0_0 : Int) (par0_1 : Int) (par0_2 : Rs) (par0_3 : Rs) (par0_4 : Rs) (par0_5 : Bool) (par0_6 : Es) (par0_7 : Bool)
abbrev R35d := Int × Int × Int × Rs × Rs × Rs × Bool × Es × Bool
def res35d : R35d → ARes
  | (r, r_b0_0, r_b0_1, r_b0_2, r_b0_3, r_b0_4, r_b0_5, r_b0_6, r_b0_7) => .ret (.c (ic r))
def bx35d : R35d → List (List Cell)
  | (r, r_b0_0, r_b0_1, r_b0_2, r_b0_3, r_b0_4, r_b0_5, r_b0_6, r_b0_7) => [[ic r_b0_0, ic r_b0_1, .own 4 r_b0_2, .own 2 r_b0_3, .own 4 r_b0_4, bc r_b0_5, .mp r_b0_6, bc r_b0_7]]
noncomputable def t35d_e (k : Nat) (rec : S35d → Option R35d) (x1_0 : Int) (x1_1 : Int) (x1_2 : Int) (x1_3 : Int) (b0_0 : Int) (b0_1 : Int) (b0_2 : Rs) (b0_3 : Rs) (b0_4 : Rs) (b0_5 : Bool) (b0_6 : Es) (b0_7 : Bool) : Option R35d :=
  rec (.h0 (b0_2.length : Int) 0 x1_0 x1_1 x1_2 x1_3 b0_0 b0_1 b0_2 b0_3 b0_4 b0_5 b0_6 b0_7)
noncomputable def t35d_h0 (k : Nat) (rec : S35d → Option R35d) (t10 : Int) (t11 : Int) (loc3_0 : Int) (loc3_1 : Int) (loc3_2 : Int) (loc3_3 : Int) (par0_0 : Int) (par0_1 : Int) (par0_2 : Rs) (par0_3 : Rs) (par0_4 : Rs) (par0_5 : Bool) (par0_6 : Es) (par0_7 : Bool) : Option R35d :=
  bif decide (t11 < t10) then
    ixR par0_2 t11 fun w_x2 =>
    un_i4 w_x2 fun op_x4 kind_x4 pos_x4 attr_x4 =>
    bif (op_x4 == loc3_0 && (kind_x4 == loc3_1 && (pos_x4 == loc3_2 && (attr_x4 == loc3_3 && true)))) then
      some (t11, par0_0, par0_1, par0_2, par0_3, par0_4, par0_5, par0_6, par0_7)
    else
      rec (.h0 t10 (IntKind.i64.wrap (t11 + 1)) loc3_0 loc3_1 loc3_2 loc3_3 par0_0 par0_1 par0_2 par0_3 par0_4 par0_5 par0_6 par0_7)
  else
    gd (apOk 32 4 par0_2 [[ic loc3_0, ic loc3_1, ic loc3_2, ic loc3_3]]) <|
    some (IntKind.i64.wrap (((par0_2 ++ [[ic loc3_0, ic loc3_1, ic loc3_2, ic loc3_3]]).length : Int) - 1), par0_0, par0_1, par0_2 ++ [[ic loc3_0, ic loc3_1, ic loc3_2, ic loc3_3]], par0_3, par0_4, par0_5, par0_6, par0_7)
noncomputable def step35d (k : Nat) (rec : S35d → Option R35d) : S35d → Option R35d
  | .e x1_0 x1_1 x1_2 x1_3 b0_0 b0_1 b0_2 b0_3 b0_4 b0_5 b0_6 b0_7 => t35d_e k rec x1_0 x1_1 x1_2 x1_3 b0_0 b0_1 b0_2 b0_3 b0_4 b0_5 b0_6 b0_7
  | .h0 t10 t11 loc3_0 loc3_1 loc3_2 loc3_3 par0_0 par0_1 par0_2 par0_3 par0_4 par0_5 par0_6 par0_7 => t35d_h0 k rec t10 t11 loc3_0 loc3_1 loc3_2 loc3_3 par0_0 par0_1 par0_2 par0_3 par0_4 par0_5 par0_6 par0_7
noncomputable def g35d (k : Nat) (x1_0 : Int) (x1_1 : Int) (x1_2 : Int) (x1_3 : Int) (b0_0 : Int) (b0_1 : Int) (b0_2 : Rs) (b0_3 : Rs) (b0_4 : Rs) (b0_5 : Bool) (b0_6 : Es) (b0_7 : Bool) : Option R35d := itS step35d k (.e x1_0 x1_1 x1_2 x1_3 b0_0 b0_1 b0_2 b0_3 b0_4 b0_5 b0_6 b0_7)
noncomputable def P35d : S35d → R35d → Prop
  | .e x1_0 x1_1 x1_2 x1_3 b0_0 b0_1 b0_2 b0_3 b0_4 b0_5 b0_6 b0_7, r => Fin cx35 Try.f35 [.code body35] (fr0 Try.f35 [.c (.ptr ⟨⟨.par 0, []⟩, 0, 2⟩), .ag [ic x1_0, ic x1_1, ic x1_2, ic x1_3]] [[ic b0_0, ic b0_1, .own 4 b0_2, .own 2 b0_3, .own 4 b0_4, bc b0_5, .mp b0_6, bc b0_7]]) (res35d r) (bx35d r)
  | .h0 t10 t11 loc3_0 loc3_1 loc3_2 loc3_3 par0_0 par0_1 par0_2 par0_3 par0_4 par0_5 par0_6 par0_7, r => Fin cx35 Try.f35 (kAt body35 [1, 0, 1, 0, 4] []) ⟨[.c (.ptr ⟨⟨.par 0, []⟩, 0, 2⟩), .deadv, .deadv, .c (.ptr ⟨⟨.loc 3, []⟩, 0, 0⟩)] ++ rep 5 .deadv ++ [.c (.ref ⟨⟨.par 0, []⟩, 0, 2⟩), .c (ic t10), .c (ic t11)] ++ rep 22 .deadv, [(.loc 3, [ic loc3_0, ic loc3_1, ic loc3_2, ic loc3_3]), (.par 0, [ic par0_0, ic par0_1, .own 4 par0_2, .own 2 par0_3, .own 4 par0_4, bc par0_5, .mp par0_6, bc par0_7])]⟩ (res35d r) (bx35d r)
theorem evr35d {x1_0 : Int} {x1_1 : Int} {x1_2 : Int} {x1_3 : Int} {b0_0 : Int} {b0_1 : Int} {b0_2 : Rs} {b0_3 : Rs} {b0_4 : Rs} {b0_5 : Bool} {b0_6 : Es} {b0_7 : Bool} {r : R35d} (h : P35d (.e x1_0 x1_1 x1_2 x1_3 b0_0 b0_1 b0_2 b0_3 b0_4 b0_5 b0_6 b0_7) r) : Ev Try.prog noHand 35 [.c (.ptr ⟨⟨.par 0, []⟩, 0, 2⟩), .ag [ic x1_0, ic x1_1, ic x1_2, ic x1_3]] [[ic b0_0, ic b0_1, .own 4 b0_2, .own 2 b0_3, .own 4 b0_4, bc b0_5, .mp b0_6, bc b0_7]] (res35d r) (bx35d r) := ev_of_fin (fn := Try.f35) (body := body35) (by kernel_rfl) (by kernel_rfl) (by kernel_rfl) rfl h
theorem t35d_e_ok (k : Nat) (rec : S35d → Option R35d) (ih : ∀ s r, rec s = some r → P35d s r) (x1_0 : Int) (x1_1 : Int) (x1_2 : Int) (x1_3 : Int) (b0_0 : Int) (b0_1 : Int) (b0_2 : Rs) (b0_3 : Rs) (b0_4 : Rs) (b0_5 : Bool) (b0_6 : Es) (b0_7 : Bool) (r : R35d) (h : t35d_e k rec x1_0 x1_1 x1_2 x1_3 b0_0 b0_1 b0_2 b0_3 b0_4 b0_5 b0_6 b0_7 = some r) : P35d (.e x1_0 x1_1 x1_2 x1_3 b0_0 b0_1 b0_2 b0_3 b0_4 b0_5 b0_6 b0_7) r := by
  unfold t35d_e at h
  exact mgo_at (nb := 1) hmix (ih _ _ h) (n := 7) (ad := []) (ps := []) (m := bm 34 17179865590) (ls := []) (cs := []) (by kernel_rfl) trivial
theorem t35d_h0_ok (k : Nat) (rec : S35d → Option R35d) (ih : ∀ s r, rec s = some r → P35d s r) (t10 : Int) (t11 : Int) (loc3_0 : Int) (loc3_1 : Int) (loc3_2 : Int) (loc3_3 : Int) (par0_0 : Int) (par0_1 : Int) (par0_2 : Rs) (par0_3 : Rs) (par0_4 : Rs) (par0_5 : Bool) (par0_6 : Es) (par0_7 : Bool) (r : R35d) (h : t35d_h0 k rec t10 t11 loc3_0 loc3_1 loc3_2 loc3_3 par0_0 par0_1 par0_2 par0_3 par0_4 par0_5 par0_6 par0_7 = some r) : P35d (.h0 t10 t11 loc3_0 loc3_1 loc3_2 loc3_3 par0_0 par0_1 par0_2 par0_3 par0_4 par0_5 par0_6 par0_7) r := by
  unfold t35d_h0 at h
  rcases bif_or h with ⟨h_x1, h⟩ | ⟨h_x1, h⟩
  ·
    obtain ⟨w_x2, h_x3, h⟩ := ixR_or h
    obtain ⟨op_x4, kind_x4, pos_x4, attr_x4, hq, h1'⟩ := un_i4_or h
    clear h; subst hq; have h := h1'; clear h1'
    rcases bif_or h with ⟨h_x5, h⟩ | ⟨h_x5, h⟩
    ·
      rw [← Option.some.inj h]
      exact mgo_fin (nb := 1) hmix (n := 2000) (ad := [(some 12, .test true), (some 14, .bnd), (some 15, .ld [ic op_x4, ic kind_x4, ic pos_x4, ic attr_x4]), (some 18, .test true)]) (ps := [_, _, _, _]) (by kernel_rfl) ⟨h_x1, ix_bnd h_x3, h_x3.2, h_x5, trivial⟩
    ·
      exact mgo_at (nb := 1) hmix (ih _ _ h) (n := 16) (ad := [(some 12, .test true), (some 14, .bnd), (some 15, .ld [ic op_x4, ic kind_x4, ic pos_x4, ic attr_x4]), (some 18, .test false)]) (ps := [_, _, _, _]) (m := bm 34 17179865590) (ls := [6]) (cs := []) (by kernel_rfl) ⟨h_x1, ix_bnd h_x3, h_x3.2, h_x5, trivial⟩
  ·
    obtain ⟨h_x2, h⟩ := gd_or h
    rw [← Option.some.inj h]
    exact mgo_fin (nb := 1) hmix (n := 2000) (ad := [(some 12, .test false), (some 27, .okE false)]) (ps := [_, _]) (by kernel_rfl) ⟨h_x1, okF [[ic loc3_0, ic loc3_1, ic loc3_2, ic loc3_3]] h_x2, trivial⟩
theorem ok35d : ∀ k s r, itS step35d k s = some r → P35d s r := itS_ok fun k rec ih s r h => match s, h with
  | .e x1_0 x1_1 x1_2 x1_3 b0_0 b0_1 b0_2 b0_3 b0_4 b0_5 b0_6 b0_7, h => t35d_e_ok k rec ih x1_0 x1_1 x1_2 x1_3 b0_0 b0_1 b0_2 b0_3 b0_4 b0_5 b0_6 b0_7 r h
  | .h0 t10 t11 loc3_0 loc3_1 loc3_2 loc3_3 par0_0 par0_1 par0_2 par0_3 par0_4 par0_5 par0_6 par0_7, h => t35d_h0_ok k rec ih t10 t11 loc3_0 loc3_1 loc3_2 loc3_3 par0_0 par0_1 par0_2 par0_3 par0_4 par0_5 par0_6 par0_7 r h
theorem ev35d {k : Nat} {x1_0 : Int} {x1_1 : Int} {x1_2 : Int} {x1_3 : Int} {b0_0 : Int} {b0_1 : Int} {b0_2 : Rs} {b0_3 : Rs} {b0_4 : Rs} {b0_5 : Bool} {b0_6 : Es} {b0_7 : Bool} {r : R35d} (h : g35d k x1_0 x1_1 x1_2 x1_3 b0_0 b0_1 b0_2 b0_3 b0_4 b0_5 b0_6 b0_7 = some r) : Ev Try.prog noHand 35 [.c (.ptr ⟨⟨.par 0, []⟩, 0, 2⟩), .ag [ic x1_0, ic x1_1, ic x1_2, ic x1_3]] [[ic b0_0, ic b0_1, .own 4 b0_2, .own 2 b0_3, .own 4 b0_4, bc b0_5, .mp b0_6, bc b0_7]] (res35d r) (bx35d r) := evr35d (ok35d _ _ _ h)
-- (*auspice/ssa.maker).node
inductive S25d where
  | e (n1_0 : Int) (n1_1 : Int) (n1_2 : Rs) (n1_3 : Int) (n1_4 : Int) (n1_5 : Int) (n1_6 : Int) (b0_0 : Int) (b0_1 : Int) (b0_2 : Rs) (b0_3 : Rs) (b0_4 : Rs) (b0_5 : Bool) (b0_6 : Es) (b0_7 : Bool)
  | h0 (loc5_0 : Int) (loc5_1 : Int) (loc5_2 : Int) (loc5_3 : Int) (par0_0 : Int) (par0_1 : Int) (par0_2 : Rs) (par0_3 : Rs) (par0_4 : Rs) (par0_5 : Bool) (par0_6 : Es) (par0_7 : Bool)
abbrev R25d := Int × Int × Int × Rs × Rs × Rs × Bool × Es × Bool
def res25d : R25d → ARes
  | (r, r_b0_0, r_b0_1, r_b0_2, r_b0_3, r_b0_4, r_b0_5, r_b0_6, r_b0_7) => .ret (.c (ic r))
def bx25d : R25d → List (List Cell)
  | (r, r_b0_0, r_b0_1, r_b0_2, r_b0_3, r_b0_4, r_b0_5, r_b0_6, r_b0_7) => [[ic r_b0_0, ic r_b0_1, .own 4 r_b0_2, .own 2 r_b0_3, .own 4 r_b0_4, bc r_b0_5, .mp r_b0_6, bc r_b0_7]]
noncomputable def t25d_e (k : Nat) (rec : S25d → Option R25d) (n1_0 : Int) (n1_1 : Int) (n1_2 : Rs) (n1_3 : Int) (n1_4 : Int) (n1_5 : Int) (n1_6 : Int) (b0_0 : Int) (b0_1 : Int) (b0_2 : Rs) (b0_3 : Rs) (b0_4 : Rs) (b0_5 : Bool) (b0_6 : Es) (b0_7 : Bool) : Option R25d :=
  bif b0_7 then
    some (0, b0_0, b0_1, b0_2, b0_3, b0_4, b0_5, b0_6, true)
  else
    bif (n1_2.length : Int) == 0 then
      bif n1_0 == 40 then
        (g36d k n1_3 n1_4 b0_0 b0_1 b0_2 b0_3 b0_4 b0_5 b0_6 false).bind fun v_x3 =>
        tup9 v_x3 fun r_x5 rb00_x5 rb01_x5 rb02_x5 rb03_x5 rb04_x5 rb05_x5 rb06_x5 rb07_x5 =>
        (g26e k 51 0 r_x5 0 rb00_x5 rb01_x5 rb02_x5 rb03_x5 rb04_x5 rb05_x5 rb06_x5 rb07_x5).bind fun v_x6 =>
        tup9 v_x6 fun r_x8 rb00_x8 rb01_x8 rb02_x8 rb03_x8 rb04_x8 rb05_x8 rb06_x8 rb07_x8 =>
        some (r_x8, rb00_x8, rb01_x8, rb02_x8, rb03_x8, rb04_x8, rb05_x8, rb06_x8, rb07_x8)
      else
        (g35d k n1_0 n1_1 n1_5 n1_6 b0_0 b0_1 b0_2 b0_3 b0_4 b0_5 b0_6 false).bind fun v_x3 =>
        tup9 v_x3 fun r_x5 rb00_x5 rb01_x5 rb02_x5 rb03_x5 rb04_x5 rb05_x5 rb06_x5 rb07_x5 =>
        (g26e k 50 0 r_x5 0 rb00_x5 rb01_x5 rb02_x5 rb03_x5 rb04_x5 rb05_x5 rb06_x5 rb07_x5).bind fun v_x6 =>
        tup9 v_x6 fun r_x8 rb00_x8 rb01_x8 rb02_x8 rb03_x8 rb04_x8 rb05_x8 rb06_x8 rb07_x8 =>
        some (r_x8, rb00_x8, rb01_x8, rb02_x8, rb03_x8, rb04_x8, rb05_x8, rb06_x8, rb07_x8)
    else
      ixR n1_2 0 fun w_x2 =>
      un_iimiuii w_x2 fun op_x4 kind_x4 args_x4 valueKind_x4 valueBits_x4 pos_x4 attr_x4 =>
      (rec (.e op_x4 kind_x4 args_x4 valueKind_x4 valueBits_x4 pos_x4 attr_x4 b0_0 b0_1 b0_2 b0_3 b0_4 b0_5 b0_6 false)).bind fun v_x5 =>
      tup9 v_x5 fun r_x7 rb00_x7 rb01_x7 rb02_x7 rb03_x7 rb04_x7 rb05_x7 rb06_x7 rb07_x7 =>
      bif (n1_2.length : Int) == 2 then
        ixR n1_2 1 fun w_x9 =>
        un_iimiuii w_x9 fun op_x11 kind_x11 args_x11 valueKind_x11 valueBits_x11 pos_x11 attr_x11 =>
        (rec (.e op_x11 kind_x11 args_x11 valueKind_x11 valueBits_x11 pos_x11 attr_x11 rb00_x7 rb01_x7 rb02_x7 rb03_x7 rb04_x7 rb05_x7 rb06_x7 rb07_x7)).bind fun v_x12 =>
        tup9 v_x12 fun r_x14 rb00_x14 rb01_x14 rb02_x14 rb03_x14 rb04_x14 rb05_x14 rb06_x14 rb07_x14 =>
        rec (.h0 n1_0 0 r_x7 r_x14 rb00_x14 rb01_x14 rb02_x14 rb03_x14 rb04_x14 rb05_x14 rb06_x14 rb07_x14)
      else
        rec (.h0 n1_0 0 r_x7 0 rb00_x7 rb01_x7 rb02_x7 rb03_x7 rb04_x7 rb05_x7 rb06_x7 rb07_x7)
noncomputable def t25d_h0 (k : Nat) (rec : S25d → Option R25d) (loc5_0 : Int) (loc5_1 : Int) (loc5_2 : Int) (loc5_3 : Int) (par0_0 : Int) (par0_1 : Int) (par0_2 : Rs) (par0_3 : Rs) (par0_4 : Rs) (par0_5 : Bool) (par0_6 : Es) (par0_7 : Bool) : Option R25d :=
  (g26e k loc5_0 loc5_1 loc5_2 loc5_3 par0_0 par0_1 par0_2 par0_3 par0_4 par0_5 par0_6 par0_7).bind fun v_x1 =>
  tup9 v_x1 fun r_x3 rb00_x3 rb01_x3 rb02_x3 rb03_x3 rb04_x3 rb05_x3 rb06_x3 rb07_x3 =>
  some (r_x3, rb00_x3, rb01_x3, rb02_x3, rb03_x3, rb04_x3, rb05_x3, rb06_x3, rb07_x3)
noncomputable def step25d (k : Nat) (rec : S25d → Option R25d) : S25d → Option R25d
  | .e n1_0 n1_1 n1_2 n1_3 n1_4 n1_5 n1_6 b0_0 b0_1 b0_2 b0_3 b0_4 b0_5 b0_6 b0_7 => t25d_e k rec n1_0 n1_1 n1_2 n1_3 n1_4 n1_5 n1_6 b0_0 b0_1 b0_2 b0_3 b0_4 b0_5 b0_6 b0_7
  | .h0 loc5_0 loc5_1 loc5_2 loc5_3 par0_0 par0_1 par0_2 par0_3 par0_4 par0_5 par0_6 par0_7 => t25d_h0 k rec loc5_0 loc5_1 loc5_2 loc5_3 par0_0 par0_1 par0_2 par0_3 par0_4 par0_5 par0_6 par0_7
noncomputable def g25d (k : Nat) (n1_0 : Int) (n1_1 : Int) (n1_2 : Rs) (n1_3 : Int) (n1_4 : Int) (n1_5 : Int) (n1_6 : Int) (b0_0 : Int) (b0_1 : Int) (b0_2 : Rs) (b0_3 : Rs) (b0_4 : Rs) (b0_5 : Bool) (b0_6 : Es) (b0_7 : Bool) : Option R25d := itS step25d k (.e n1_0 n1_1 n1_2 n1_3 n1_4 n1_5 n1_6 b0_0 b0_1 b0_2 b0_3 b0_4 b0_5 b0_6 b0_7)
noncomputable def P25d : S25d → R25d → Prop
  | .e n1_0 n1_1 n1_2 n1_3 n1_4 n1_5 n1_6 b0_0 b0_1 b0_2 b0_3 b0_4 b0_5 b0_6 b0_7, r => Fin cx25 Try.f25 [.code body25] (fr0 Try.f25 [.c (.ptr ⟨⟨.par 0, []⟩, 0, 0⟩), .ag [ic n1_0, ic n1_1, .imm n1_2, ic n1_3, .val (.int .u64 n1_4), ic n1_5, ic n1_6]] [[ic b0_0, ic b0_1, .own 4 b0_2, .own 2 b0_3, .own 4 b0_4, bc b0_5, .mp b0_6, bc b0_7]]) (res25d r) (bx25d r)
  | .h0 loc5_0 loc5_1 loc5_2 loc5_3 par0_0 par0_1 par0_2 par0_3 par0_4 par0_5 par0_6 par0_7, r => Fin cx25 Try.f25 (kAt body25 [1, 1, 1, 1, 1, 2] []) ⟨[.c (.ptr ⟨⟨.par 0, []⟩, 0, 0⟩)] ++ rep 4 .deadv ++ [.c (.ptr ⟨⟨.loc 5, []⟩, 0, 0⟩)] ++ rep 61 .deadv, [(.loc 5, [ic loc5_0, ic loc5_1, ic loc5_2, ic loc5_3]), (.par 0, [ic par0_0, ic par0_1, .own 4 par0_2, .own 2 par0_3, .own 4 par0_4, bc par0_5, .mp par0_6, bc par0_7])]⟩ (res25d r) (bx25d r)
theorem evr25d {n1_0 : Int} {n1_1 : Int} {n1_2 : Rs} {n1_3 : Int} {n1_4 : Int} {n1_5 : Int} {n1_6 : Int} {b0_0 : Int} {b0_1 : Int} {b0_2 : Rs} {b0_3 : Rs} {b0_4 : Rs} {b0_5 : Bool} {b0_6 : Es} {b0_7 : Bool} {r : R25d} (h : P25d (.e n1_0 n1_1 n1_2 n1_3 n1_4 n1_5 n1_6 b0_0 b0_1 b0_2 b0_3 b0_4 b0_5 b0_6 b0_7) r) : Ev Try.prog noHand 25 [.c (.ptr ⟨⟨.par 0, []⟩, 0, 0⟩), .ag [ic n1_0, ic n1_1, .imm n1_2, ic n1_3, .val (.int .u64 n1_4), ic n1_5, ic n1_6]] [[ic b0_0, ic b0_1, .own 4 b0_2, .own 2 b0_3, .own 4 b0_4, bc b0_5, .mp b0_6, bc b0_7]] (res25d r) (bx25d r) := ev_of_fin (fn := Try.f25) (body := body25) (by kernel_rfl) (by kernel_rfl) (by kernel_rfl) rfl h
theorem t25d_e_ok (k : Nat) (rec : S25d → Option R25d) (ih : ∀ s r, rec s = some r → P25d s r) (n1_0 : Int) (n1_1 : Int) (n1_2 : Rs) (n1_3 : Int) (n1_4 : Int) (n1_5 : Int) (n1_6 : Int) (b0_0 : Int) (b0_1 : Int) (b0_2 : Rs) (b0_3 : Rs) (b0_4 : Rs) (b0_5 : Bool) (b0_6 : Es) (b0_7 : Bool) (r : R25d) (h : t25d_e k rec n1_0 n1_1 n1_2 n1_3 n1_4 n1_5 n1_6 b0_0 b0_1 b0_2 b0_3 b0_4 b0_5 b0_6 b0_7 = some r) : P25d (.e n1_0 n1_1 n1_2 n1_3 n1_4 n1_5 n1_6 b0_0 b0_1 b0_2 b0_3 b0_4 b0_5 b0_6 b0_7) r := by
  unfold t25d_e at h
  rcases bif_or h with ⟨hq, h1'⟩ | ⟨hq, h1'⟩
  · clear h; subst hq; have h := h1'; clear h1'
    rw [← Option.some.inj h]
    exact mgo_fin (nb := 1) hmix (n := 2000) (ad := []) (ps := []) (by kernel_rfl) trivial
  · clear h; subst hq; have h := h1'; clear h1'
    rcases bif_or h with ⟨h_x1, h⟩ | ⟨h_x1, h⟩
    ·
      rcases bif_or h with ⟨h_x2, h⟩ | ⟨h_x2, h⟩
      ·
        obtain ⟨v_x3, h_x4, h⟩ := bd_or h
        obtain ⟨r_x5, rb00_x5, rb01_x5, rb02_x5, rb03_x5, rb04_x5, rb05_x5, rb06_x5, rb07_x5, hq, h1'⟩ := tup9_or h
        clear h; subst hq; have h := h1'; clear h1'
        obtain ⟨v_x6, h_x7, h⟩ := bd_or h
        obtain ⟨r_x8, rb00_x8, rb01_x8, rb02_x8, rb03_x8, rb04_x8, rb05_x8, rb06_x8, rb07_x8, hq, h1'⟩ := tup9_or h
        clear h; subst hq; have h := h1'; clear h1'
        rw [← Option.some.inj h]
        exact mgo_fin (nb := 1) hmix (n := 2000) (ad := [(some 13, .test true), (some 16, .test true), (some 24, .call (.ret (.c (ic r_x5))) [[ic rb00_x5, ic rb01_x5, .own 4 rb02_x5, .own 2 rb03_x5, .own 4 rb04_x5, bc rb05_x5, .mp rb06_x5, bc rb07_x5]] false), (some 26, .call (.ret (.c (ic r_x8))) [[ic rb00_x8, ic rb01_x8, .own 4 rb02_x8, .own 2 rb03_x8, .own 4 rb04_x8, bc rb05_x8, .mp rb06_x8, bc rb07_x8]] false)]) (ps := [_, _, _, _]) (by kernel_rfl) ⟨h_x1, h_x2, (ev36d h_x4), (ev26e h_x7), trivial⟩
      ·
        obtain ⟨v_x3, h_x4, h⟩ := bd_or h
        obtain ⟨r_x5, rb00_x5, rb01_x5, rb02_x5, rb03_x5, rb04_x5, rb05_x5, rb06_x5, rb07_x5, hq, h1'⟩ := tup9_or h
        clear h; subst hq; have h := h1'; clear h1'
        obtain ⟨v_x6, h_x7, h⟩ := bd_or h
        obtain ⟨r_x8, rb00_x8, rb01_x8, rb02_x8, rb03_x8, rb04_x8, rb05_x8, rb06_x8, rb07_x8, hq, h1'⟩ := tup9_or h
        clear h; subst hq; have h := h1'; clear h1'
        rw [← Option.some.inj h]
        exact mgo_fin (nb := 1) hmix (n := 2000) (ad := [(some 13, .test true), (some 16, .test false), (some 41, .call (.ret (.c (ic r_x5))) [[ic rb00_x5, ic rb01_x5, .own 4 rb02_x5, .own 2 rb03_x5, .own 4 rb04_x5, bc rb05_x5, .mp rb06_x5, bc rb07_x5]] false), (some 43, .call (.ret (.c (ic r_x8))) [[ic rb00_x8, ic rb01_x8, .own 4 rb02_x8, .own 2 rb03_x8, .own 4 rb04_x8, bc rb05_x8, .mp rb06_x8, bc rb07_x8]] false)]) (ps := [_, _, _, _]) (by kernel_rfl) ⟨h_x1, h_x2, (ev35d h_x4), (ev26e h_x7), trivial⟩
    ·
      obtain ⟨w_x2, h_x3, h⟩ := ixR_or h
      obtain ⟨op_x4, kind_x4, args_x4, valueKind_x4, valueBits_x4, pos_x4, attr_x4, hq, h1'⟩ := un_iimiuii_or h
      clear h; subst hq; have h := h1'; clear h1'
      obtain ⟨v_x5, h_x6, h⟩ := bd_or h
      obtain ⟨r_x7, rb00_x7, rb01_x7, rb02_x7, rb03_x7, rb04_x7, rb05_x7, rb06_x7, rb07_x7, hq, h1'⟩ := tup9_or h
      clear h; subst hq; have h := h1'; clear h1'
      rcases bif_or h with ⟨h_x8, h⟩ | ⟨h_x8, h⟩
      ·
        obtain ⟨w_x9, h_x10, h⟩ := ixR_or h
        obtain ⟨op_x11, kind_x11, args_x11, valueKind_x11, valueBits_x11, pos_x11, attr_x11, hq, h1'⟩ := un_iimiuii_or h
        clear h; subst hq; have h := h1'; clear h1'
        obtain ⟨v_x12, h_x13, h⟩ := bd_or h
        obtain ⟨r_x14, rb00_x14, rb01_x14, rb02_x14, rb03_x14, rb04_x14, rb05_x14, rb06_x14, rb07_x14, hq, h1'⟩ := tup9_or h
        clear h; subst hq; have h := h1'; clear h1'
        exact mgo_at (nb := 1) hmix (ih _ _ h) (n := 19) (ad := [(some 13, .test false), (some 49, .row [ic op_x4, ic kind_x4, .imm args_x4, ic valueKind_x4, .val (.int .u64 valueBits_x4), ic pos_x4, ic attr_x4]), (some 51, .call (.ret (.c (ic r_x7))) [[ic rb00_x7, ic rb01_x7, .own 4 rb02_x7, .own 2 rb03_x7, .own 4 rb04_x7, bc rb05_x7, .mp rb06_x7, bc rb07_x7]] false), (some 56, .test true), (some 60, .row [ic op_x11, ic kind_x11, .imm args_x11, ic valueKind_x11, .val (.int .u64 valueBits_x11), ic pos_x11, ic attr_x11]), (some 62, .call (.ret (.c (ic r_x14))) [[ic rb00_x14, ic rb01_x14, .own 4 rb02_x14, .own 2 rb03_x14, .own 4 rb04_x14, bc rb05_x14, .mp rb06_x14, bc rb07_x14]] false)]) (ps := [_, _, _, _, _, _]) (m := bm 67 147573952589676412894) (ls := [3]) (cs := []) (by kernel_rfl) ⟨h_x1, ix_row h_x3 rfl, (evr25d (ih _ _ h_x6)), h_x8, ix_row h_x10 rfl, (evr25d (ih _ _ h_x13)), trivial⟩
      ·
        exact mgo_at (nb := 1) hmix (ih _ _ h) (n := 19) (ad := [(some 13, .test false), (some 49, .row [ic op_x4, ic kind_x4, .imm args_x4, ic valueKind_x4, .val (.int .u64 valueBits_x4), ic pos_x4, ic attr_x4]), (some 51, .call (.ret (.c (ic r_x7))) [[ic rb00_x7, ic rb01_x7, .own 4 rb02_x7, .own 2 rb03_x7, .own 4 rb04_x7, bc rb05_x7, .mp rb06_x7, bc rb07_x7]] false), (some 56, .test false)]) (ps := [_, _, _, _]) (m := bm 67 147573952589676412894) (ls := [3]) (cs := []) (by kernel_rfl) ⟨h_x1, ix_row h_x3 rfl, (evr25d (ih _ _ h_x6)), h_x8, trivial⟩
theorem t25d_h0_ok (k : Nat) (rec : S25d → Option R25d) (ih : ∀ s r, rec s = some r → P25d s r) (loc5_0 : Int) (loc5_1 : Int) (loc5_2 : Int) (loc5_3 : Int) (par0_0 : Int) (par0_1 : Int) (par0_2 : Rs) (par0_3 : Rs) (par0_4 : Rs) (par0_5 : Bool) (par0_6 : Es) (par0_7 : Bool) (r : R25d) (h : t25d_h0 k rec loc5_0 loc5_1 loc5_2 loc5_3 par0_0 par0_1 par0_2 par0_3 par0_4 par0_5 par0_6 par0_7 = some r) : P25d (.h0 loc5_0 loc5_1 loc5_2 loc5_3 par0_0 par0_1 par0_2 par0_3 par0_4 par0_5 par0_6 par0_7) r := by
  unfold t25d_h0 at h
  obtain ⟨v_x1, h_x2, h⟩ := bd_or h
  obtain ⟨r_x3, rb00_x3, rb01_x3, rb02_x3, rb03_x3, rb04_x3, rb05_x3, rb06_x3, rb07_x3, hq, h1'⟩ := tup9_or h
  clear h; subst hq; have h := h1'; clear h1'
  rw [← Option.some.inj h]
  exact mgo_fin (nb := 1) hmix (n := 2000) (ad := [(some 66, .call (.ret (.c (ic r_x3))) [[ic rb00_x3, ic rb01_x3, .own 4 rb02_x3, .own 2 rb03_x3, .own 4 rb04_x3, bc rb05_x3, .mp rb06_x3, bc rb07_x3]] false)]) (ps := [_]) (by kernel_rfl) ⟨(ev26e h_x2), trivial⟩
theorem ok25d : ∀ k s r, itS step25d k s = some r → P25d s r := itS_ok fun k rec ih s r h => match s, h with
  | .e n1_0 n1_1 n1_2 n1_3 n1_4 n1_5 n1_6 b0_0 b0_1 b0_2 b0_3 b0_4 b0_5 b0_6 b0_7, h => t25d_e_ok k rec ih n1_0 n1_1 n1_2 n1_3 n1_4 n1_5 n1_6 b0_0 b0_1 b0_2 b0_3 b0_4 b0_5 b0_6 b0_7 r h
  | .h0 loc5_0 loc5_1 loc5_2 loc5_3 par0_0 par0_1 par0_2 par0_3 par0_4 par0_5 par0_6 par0_7, h => t25d_h0_ok k rec ih loc5_0 loc5_1 loc5_2 loc5_3 par0_0 par0_1 par0_2 par0_3 par0_4 par0_5 par0_6 par0_7 r h
theorem ev25d {k : Nat} {n1_0 : Int} {n1_1 : Int} {n1_2 : Rs} {n1_3 : Int} {n1_4 : Int} {n1_5 : Int} {n1_6 : Int} {b0_0 : Int} {b0_1 : Int} {b0_2 : Rs} {b0_3 : Rs} {b0_4 : Rs} {b0_5 : Bool} {b0_6 : Es} {b0_7 : Bool} {r : R25d} (h : g25d k n1_0 n1_1 n1_2 n1_3 n1_4 n1_5 n1_6 b0_0 b0_1 b0_2 b0_3 b0_4 b0_5 b0_6 b0_7 = some r) : Ev Try.prog noHand 25 [.c (.ptr ⟨⟨.par 0, []⟩, 0, 0⟩), .ag [ic n1_0, ic n1_1, .imm n1_2, ic n1_3, .val (.int .u64 n1_4), ic n1_5, ic n1_6]] [[ic b0_0, ic b0_1, .own 4 b0_2, .own 2 b0_3, .own 4 b0_4, bc b0_5, .mp b0_6, bc b0_7]] (res25d r) (bx25d r) := evr25d (ok25d _ _ _ h)
-- auspice/ssa.Make
inductive S11 where
  | e (l0 : Rs) (share1 : Bool)
  | h0 (t5 : Int) (loc4_0 : Int) (loc4_1 : Int) (loc4_2 : Rs) (loc4_3 : Rs) (loc4_4 : Rs)
  | h1 (l0 : Rs) (share1 : Bool) (t17 : Rs) (t18 : Int) (t19 : Int) (loc4_0 : Int) (loc4_1 : Int)
  | h2 (t5 : Int) (loc4_0 : Int) (loc4_1 : Int) (loc4_2 : Rs) (loc4_3 : Rs) (loc4_4 : Rs)
  | h3 (sofar9 : Int) (t32 : Rs) (t33 : Int) (t34 : Int) (loc31_0 : Int) (loc31_1 : Int) (loc31_2 : Rs) (loc31_3 : Rs) (loc31_4 : Rs) (loc31_5 : Bool) (loc31_6 : Es) (loc31_7 : Bool) (loc4_0 : Int) (loc4_1 : Int)
  | h4 (sofar9 : Int) (i10 : Int) (t32 : Rs) (t33 : Int) (t34 : Int) (loc11_0 : Int) (loc11_1 : Int) (loc11_2 : Rs) (loc11_3 : Int) (loc11_4 : Int) (loc11_5 : Int) (loc11_6 : Int) (loc31_0 : Int) (loc31_1 : Int) (loc31_2 : Rs) (loc31_3 : Rs) (loc31_4 : Rs) (loc31_5 : Bool) (loc31_6 : Es) (loc31_7 : Bool) (loc4_0 : Int) (loc4_1 : Int)
  | h5 (sofar9 : Int) (loc31_0 : Int) (loc31_1 : Int) (loc31_2 : Rs) (loc31_3 : Rs) (loc31_4 : Rs) (loc31_5 : Bool) (loc31_6 : Es) (loc31_7 : Bool) (loc4_0 : Int) (loc4_1 : Int)
  | h6 (sofar9 : Int) (r12 : Int) (t32 : Rs) (t33 : Int) (t34 : Int) (loc31_0 : Int) (loc31_1 : Int) (loc31_2 : Rs) (loc31_3 : Rs) (loc31_4 : Rs) (loc31_5 : Bool) (loc31_6 : Es) (loc31_7 : Bool) (loc4_0 : Int) (loc4_1 : Int)
  | h7 (r12 : Int) (t32 : Rs) (t33 : Int) (t34 : Int) (loc31_0 : Int) (loc31_1 : Int) (loc31_2 : Rs) (loc31_3 : Rs) (loc31_4 : Rs) (loc31_5 : Bool) (loc31_6 : Es) (loc31_7 : Bool) (loc4_0 : Int) (loc4_1 : Int)
  | h8 (t5 : Int) (loc4_0 : Int) (loc4_1 : Int) (loc4_2 : Rs) (loc4_3 : Rs) (loc4_4 : Rs)
  | h9 (t5 : Int) (loc4_0 : Int) (loc4_1 : Int) (loc4_2 : Rs) (loc4_3 : Rs) (loc4_4 : Rs)
abbrev R11 := Int × Int × Rs × Rs × Rs × Int
def res11 : R11 → ARes
  | (r_00, r_01, r_02, r_03, r_04, r_10) => .ret ⟨.tup [true, false], [[ic r_00, ic r_01, .imm r_02, .imm r_03, .imm r_04], [ic r_10]]⟩
def bx11 : R11 → List (List Cell)
  | (r_00, r_01, r_02, r_03, r_04, r_10) => []
noncomputable def t11_e (k : Nat) (rec : S11 → Option R11) (l0 : Rs) (share1 : Bool) : Option R11 :=
  bif (l0.length : Int) == 0 then
    rec (.h0 1 0 0 [] [] [])
  else
    rec (.h1 l0 share1 l0 (l0.length : Int) 0 0 0)
noncomputable def t11_h0 (k : Nat) (rec : S11 → Option R11) (t5 : Int) (loc4_0 : Int) (loc4_1 : Int) (loc4_2 : Rs) (loc4_3 : Rs) (loc4_4 : Rs) : Option R11 :=
  some (loc4_0, loc4_1, loc4_2, loc4_3, loc4_4, t5)
noncomputable def t11_h1 (k : Nat) (rec : S11 → Option R11) (l0 : Rs) (share1 : Bool) (t17 : Rs) (t18 : Int) (t19 : Int) (loc4_0 : Int) (loc4_1 : Int) : Option R11 :=
  bif decide (t19 < t18) then
    ixR t17 t19 fun w_x2 =>
    un_iimiuii w_x2 fun op_x4 kind_x4 args_x4 valueKind_x4 valueBits_x4 pos_x4 attr_x4 =>
    (g24 k op_x4 kind_x4 args_x4 valueKind_x4 valueBits_x4 pos_x4 attr_x4).bind fun v_x5 =>
    bif !v_x5 then
      rec (.h2 1 0 0 [] [] [])
    else
      rec (.h1 l0 share1 t17 t18 (IntKind.i64.wrap (t19 + 1)) loc4_0 loc4_1)
  else
    rec (.h3 0 l0 (l0.length : Int) 0 0 0 [] [] [] share1 [] false loc4_0 loc4_1)
noncomputable def t11_h2 (k : Nat) (rec : S11 → Option R11) (t5 : Int) (loc4_0 : Int) (loc4_1 : Int) (loc4_2 : Rs) (loc4_3 : Rs) (loc4_4 : Rs) : Option R11 :=
  some (loc4_0, loc4_1, loc4_2, loc4_3, loc4_4, t5)
noncomputable def t11_h3 (k : Nat) (rec : S11 → Option R11) (sofar9 : Int) (t32 : Rs) (t33 : Int) (t34 : Int) (loc31_0 : Int) (loc31_1 : Int) (loc31_2 : Rs) (loc31_3 : Rs) (loc31_4 : Rs) (loc31_5 : Bool) (loc31_6 : Es) (loc31_7 : Bool) (loc4_0 : Int) (loc4_1 : Int) : Option R11 :=
  bif decide (t34 < t33) then
    ixR t32 t34 fun w_x2 =>
    un_iimiuii w_x2 fun op_x4 kind_x4 args_x4 valueKind_x4 valueBits_x4 pos_x4 attr_x4 =>
    rec (.h4 sofar9 t34 t32 t33 t34 op_x4 kind_x4 args_x4 valueKind_x4 valueBits_x4 pos_x4 attr_x4 loc31_0 loc31_1 loc31_2 loc31_3 loc31_4 loc31_5 loc31_6 loc31_7 loc4_0 loc4_1)
  else
    rec (.h5 sofar9 (loc31_4.length : Int) loc31_1 loc31_2 loc31_3 loc31_4 false loc31_6 loc31_7 loc4_0 loc4_1)
noncomputable def t11_h4 (k : Nat) (rec : S11 → Option R11) (sofar9 : Int) (i10 : Int) (t32 : Rs) (t33 : Int) (t34 : Int) (loc11_0 : Int) (loc11_1 : Int) (loc11_2 : Rs) (loc11_3 : Int) (loc11_4 : Int) (loc11_5 : Int) (loc11_6 : Int) (loc31_0 : Int) (loc31_1 : Int) (loc31_2 : Rs) (loc31_3 : Rs) (loc31_4 : Rs) (loc31_5 : Bool) (loc31_6 : Es) (loc31_7 : Bool) (loc4_0 : Int) (loc4_1 : Int) : Option R11 :=
  (g25d k loc11_0 loc11_1 loc11_2 loc11_3 loc11_4 loc11_5 loc11_6 loc31_0 loc31_1 loc31_2 loc31_3 loc31_4 loc31_5 loc31_6 loc31_7).bind fun v_x1 =>
  tup9 v_x1 fun r_x3 rb00_x3 rb01_x3 rb02_x3 rb03_x3 rb04_x3 rb05_x3 rb06_x3 rb07_x3 =>
  bif decide (i10 > 0) then
    rec (.h6 sofar9 r_x3 t32 t33 t34 rb00_x3 rb01_x3 rb02_x3 rb03_x3 rb04_x3 rb05_x3 rb06_x3 rb07_x3 loc4_0 loc4_1)
  else
    rec (.h7 r_x3 t32 t33 t34 rb00_x3 rb01_x3 rb02_x3 rb03_x3 rb04_x3 rb05_x3 rb06_x3 rb07_x3 loc4_0 loc4_1)
noncomputable def t11_h5 (k : Nat) (rec : S11 → Option R11) (sofar9 : Int) (loc31_0 : Int) (loc31_1 : Int) (loc31_2 : Rs) (loc31_3 : Rs) (loc31_4 : Rs) (loc31_5 : Bool) (loc31_6 : Es) (loc31_7 : Bool) (loc4_0 : Int) (loc4_1 : Int) : Option R11 :=
  (g26e k 52 0 sofar9 0 loc31_0 loc31_1 loc31_2 loc31_3 loc31_4 loc31_5 loc31_6 loc31_7).bind fun v_x1 =>
  tup9 v_x1 fun r_x3 rb00_x3 rb01_x3 rb02_x3 rb03_x3 rb04_x3 rb05_x3 rb06_x3 rb07_x3 =>
  bif rb07_x3 then
    rec (.h8 2 0 0 [] [] [])
  else
    ixR rb04_x3 rb00_x3 fun w_x4 =>
    un_i4 w_x4 fun op_x6 dst_x6 a_x6 b_x6 =>
    rec (.h9 0 rb00_x3 rb01_x3 (immRs rb02_x3) (immRs rb03_x3) (immRs (setRow rb04_x3 rb00_x3.toNat 1 (ic 0))))
noncomputable def t11_h6 (k : Nat) (rec : S11 → Option R11) (sofar9 : Int) (r12 : Int) (t32 : Rs) (t33 : Int) (t34 : Int) (loc31_0 : Int) (loc31_1 : Int) (loc31_2 : Rs) (loc31_3 : Rs) (loc31_4 : Rs) (loc31_5 : Bool) (loc31_6 : Es) (loc31_7 : Bool) (loc4_0 : Int) (loc4_1 : Int) : Option R11 :=
  (g26e k 13 0 sofar9 r12 loc31_0 loc31_1 loc31_2 loc31_3 loc31_4 loc31_5 loc31_6 loc31_7).bind fun v_x1 =>
  tup9 v_x1 fun r_x3 rb00_x3 rb01_x3 rb02_x3 rb03_x3 rb04_x3 rb05_x3 rb06_x3 rb07_x3 =>
  rec (.h7 r_x3 t32 t33 t34 rb00_x3 rb01_x3 rb02_x3 rb03_x3 rb04_x3 rb05_x3 rb06_x3 rb07_x3 loc4_0 loc4_1)
noncomputable def t11_h7 (k : Nat) (rec : S11 → Option R11) (r12 : Int) (t32 : Rs) (t33 : Int) (t34 : Int) (loc31_0 : Int) (loc31_1 : Int) (loc31_2 : Rs) (loc31_3 : Rs) (loc31_4 : Rs) (loc31_5 : Bool) (loc31_6 : Es) (loc31_7 : Bool) (loc4_0 : Int) (loc4_1 : Int) : Option R11 :=
  rec (.h3 r12 t32 t33 (IntKind.i64.wrap (t34 + 1)) loc31_0 loc31_1 loc31_2 loc31_3 loc31_4 loc31_5 loc31_6 loc31_7 loc4_0 loc4_1)
noncomputable def t11_h8 (k : Nat) (rec : S11 → Option R11) (t5 : Int) (loc4_0 : Int) (loc4_1 : Int) (loc4_2 : Rs) (loc4_3 : Rs) (loc4_4 : Rs) : Option R11 :=
  some (loc4_0, loc4_1, loc4_2, loc4_3, loc4_4, t5)
noncomputable def t11_h9 (k : Nat) (rec : S11 → Option R11) (t5 : Int) (loc4_0 : Int) (loc4_1 : Int) (loc4_2 : Rs) (loc4_3 : Rs) (loc4_4 : Rs) : Option R11 :=
  some (loc4_0, loc4_1, loc4_2, loc4_3, loc4_4, t5)
noncomputable def step11 (k : Nat) (rec : S11 → Option R11) : S11 → Option R11
  | .e l0 share1 => t11_e k rec l0 share1
  | .h0 t5 loc4_0 loc4_1 loc4_2 loc4_3 loc4_4 => t11_h0 k rec t5 loc4_0 loc4_1 loc4_2 loc4_3 loc4_4
  | .h1 l0 share1 t17 t18 t19 loc4_0 loc4_1 => t11_h1 k rec l0 share1 t17 t18 t19 loc4_0 loc4_1
  | .h2 t5 loc4_0 loc4_1 loc4_2 loc4_3 loc4_4 => t11_h2 k rec t5 loc4_0 loc4_1 loc4_2 loc4_3 loc4_4
  | .h3 sofar9 t32 t33 t34 loc31_0 loc31_1 loc31_2 loc31_3 loc31_4 loc31_5 loc31_6 loc31_7 loc4_0 loc4_1 => t11_h3 k rec sofar9 t32 t33 t34 loc31_0 loc31_1 loc31_2 loc31_3 loc31_4 loc31_5 loc31_6 loc31_7 loc4_0 loc4_1
  | .h4 sofar9 i10 t32 t33 t34 loc11_0 loc11_1 loc11_2 loc11_3 loc11_4 loc11_5 loc11_6 loc31_0 loc31_1 loc31_2 loc31_3 loc31_4 loc31_5 loc31_6 loc31_7 loc4_0 loc4_1 => t11_h4 k rec sofar9 i10 t32 t33 t34 loc11_0 loc11_1 loc11_2 loc11_3 loc11_4 loc11_5 loc11_6 loc31_0 loc31_1 loc31_2 loc31_3 loc31_4 loc31_5 loc31_6 loc31_7 loc4_0 loc4_1
  | .h5 sofar9 loc31_0 loc31_1 loc31_2 loc31_3 loc31_4 loc31_5 loc31_6 loc31_7 loc4_0 loc4_1 => t11_h5 k rec sofar9 loc31_0 loc31_1 loc31_2 loc31_3 loc31_4 loc31_5 loc31_6 loc31_7 loc4_0 loc4_1
  | .h6 sofar9 r12 t32 t33 t34 loc31_0 loc31_1 loc31_2 loc31_3 loc31_4 loc31_5 loc31_6 loc31_7 loc4_0 loc4_1 => t11_h6 k rec sofar9 r12 t32 t33 t34 loc31_0 loc31_1 loc31_2 loc31_3 loc31_4 loc31_5 loc31_6 loc31_7 loc4_0 loc4_1
  | .h7 r12 t32 t33 t34 loc31_0 loc31_1 loc31_2 loc31_3 loc31_4 loc31_5 loc31_6 loc31_7 loc4_0 loc4_1 => t11_h7 k rec r12 t32 t33 t34 loc31_0 loc31_1 loc31_2 loc31_3 loc31_4 loc31_5 loc31_6 loc31_7 loc4_0 loc4_1
  | .h8 t5 loc4_0 loc4_1 loc4_2 loc4_3 loc4_4 => t11_h8 k rec t5 loc4_0 loc4_1 loc4_2 loc4_3 loc4_4
  | .h9 t5 loc4_0 loc4_1 loc4_2 loc4_3 loc4_4 => t11_h9 k rec t5 loc4_0 loc4_1 loc4_2 loc4_3 loc4_4
noncomputable def g11 (k : Nat) (l0 : Rs) (share1 : Bool) : Option R11 := itS step11 k (.e l0 share1)
noncomputable def P11 : S11 → R11 → Prop
  | .e l0 share1, r => Fin cx11 Try.f11 [.code body11] (fr0 Try.f11 [.c (.imm l0), .c (bc share1)] []) (res11 r) (bx11 r)
  | .h0 t5 loc4_0 loc4_1 loc4_2 loc4_3 loc4_4, r => Fin cx11 Try.f11 (kAt body11 [1, 0, 1, 0, 1, 2] []) ⟨rep 4 .deadv ++ [.c (.ptr ⟨⟨.loc 4, []⟩, 0, 0⟩), .c (ic t5)] ++ rep 83 .deadv, [(.loc 4, [ic loc4_0, ic loc4_1, .imm loc4_2, .imm loc4_3, .imm loc4_4])]⟩ (res11 r) (bx11 r)
  | .h1 l0 share1 t17 t18 t19 loc4_0 loc4_1, r => Fin cx11 Try.f11 (kAt body11 [1, 1, 0, 1, 0, 4] []) ⟨[.c (.imm l0), .c (bc share1), .deadv, .deadv, .c (.ptr ⟨⟨.loc 4, []⟩, 0, 0⟩)] ++ rep 12 .deadv ++ [.c (.imm t17), .c (ic t18), .c (ic t19)] ++ rep 69 .deadv, [(.loc 4, [ic loc4_0, ic loc4_1, .nil, .nil, .nil])]⟩ (res11 r) (bx11 r)
  | .h2 t5 loc4_0 loc4_1 loc4_2 loc4_3 loc4_4, r => Fin cx11 Try.f11 (kAt body11 [1, 1, 0, 1, 0, 0, 1, 1, 0, 0, 1, 1, 0, 1, 2] []) ⟨rep 4 .deadv ++ [.c (.ptr ⟨⟨.loc 4, []⟩, 0, 0⟩), .c (ic t5)] ++ rep 83 .deadv, [(.loc 4, [ic loc4_0, ic loc4_1, .imm loc4_2, .imm loc4_3, .imm loc4_4])]⟩ (res11 r) (bx11 r)
  | .h3 sofar9 t32 t33 t34 loc31_0 loc31_1 loc31_2 loc31_3 loc31_4 loc31_5 loc31_6 loc31_7 loc4_0 loc4_1, r => Fin cx11 Try.f11 (kAt body11 [1, 1, 1, 1, 1, 0, 1, 0, 4] []) ⟨rep 4 .deadv ++ [.c (.ptr ⟨⟨.loc 4, []⟩, 0, 0⟩)] ++ rep 3 .deadv ++ [.c (.ptr ⟨⟨.loc 31, []⟩, 0, 0⟩), .c (ic sofar9)] ++ rep 22 .deadv ++ [.c (.imm t32), .c (ic t33), .c (ic t34)] ++ rep 54 .deadv, [(.loc 31, [ic loc31_0, ic loc31_1, .own 4 loc31_2, .own 2 loc31_3, .own 4 loc31_4, bc loc31_5, .mp loc31_6, bc loc31_7]), (.loc 4, [ic loc4_0, ic loc4_1, .nil, .nil, .nil])]⟩ (res11 r) (bx11 r)
  | .h4 sofar9 i10 t32 t33 t34 loc11_0 loc11_1 loc11_2 loc11_3 loc11_4 loc11_5 loc11_6 loc31_0 loc31_1 loc31_2 loc31_3 loc31_4 loc31_5 loc31_6 loc31_7 loc4_0 loc4_1, r => Fin cx11 Try.f11 (kAt body11 [1, 1, 1, 1, 1, 0, 1, 0, 0, 1, 1, 0, 0, 1, 0, 2] []) ⟨rep 4 .deadv ++ [.c (.ptr ⟨⟨.loc 4, []⟩, 0, 0⟩)] ++ rep 3 .deadv ++ [.c (.ptr ⟨⟨.loc 31, []⟩, 0, 0⟩), .c (ic sofar9), .c (ic i10), .c (.ptr ⟨⟨.loc 11, []⟩, 0, 0⟩)] ++ rep 20 .deadv ++ [.c (.imm t32), .c (ic t33), .c (ic t34)] ++ rep 54 .deadv, [(.loc 11, [ic loc11_0, ic loc11_1, .imm loc11_2, ic loc11_3, .val (.int .u64 loc11_4), ic loc11_5, ic loc11_6]), (.loc 31, [ic loc31_0, ic loc31_1, .own 4 loc31_2, .own 2 loc31_3, .own 4 loc31_4, bc loc31_5, .mp loc31_6, bc loc31_7]), (.loc 4, [ic loc4_0, ic loc4_1, .nil, .nil, .nil])]⟩ (res11 r) (bx11 r)
  | .h5 sofar9 loc31_0 loc31_1 loc31_2 loc31_3 loc31_4 loc31_5 loc31_6 loc31_7 loc4_0 loc4_1, r => Fin cx11 Try.f11 (kAt body11 [1, 1, 1, 1, 1, 1, 1, 1, 0, 2] []) ⟨rep 4 .deadv ++ [.c (.ptr ⟨⟨.loc 4, []⟩, 0, 0⟩)] ++ rep 3 .deadv ++ [.c (.ptr ⟨⟨.loc 31, []⟩, 0, 0⟩), .c (ic sofar9)] ++ rep 79 .deadv, [(.loc 31, [ic loc31_0, ic loc31_1, .own 4 loc31_2, .own 2 loc31_3, .own 4 loc31_4, bc loc31_5, .mp loc31_6, bc loc31_7]), (.loc 4, [ic loc4_0, ic loc4_1, .nil, .nil, .nil])]⟩ (res11 r) (bx11 r)
  | .h6 sofar9 r12 t32 t33 t34 loc31_0 loc31_1 loc31_2 loc31_3 loc31_4 loc31_5 loc31_6 loc31_7 loc4_0 loc4_1, r => Fin cx11 Try.f11 (kAt body11 [1, 1, 1, 1, 1, 0, 1, 0, 0, 1, 1, 0, 0, 1, 1, 0, 1, 0, 2] []) ⟨rep 4 .deadv ++ [.c (.ptr ⟨⟨.loc 4, []⟩, 0, 0⟩)] ++ rep 3 .deadv ++ [.c (.ptr ⟨⟨.loc 31, []⟩, 0, 0⟩), .c (ic sofar9), .deadv, .deadv, .c (ic r12)] ++ rep 19 .deadv ++ [.c (.imm t32), .c (ic t33), .c (ic t34)] ++ rep 54 .deadv, [(.loc 31, [ic loc31_0, ic loc31_1, .own 4 loc31_2, .own 2 loc31_3, .own 4 loc31_4, bc loc31_5, .mp loc31_6, bc loc31_7]), (.loc 4, [ic loc4_0, ic loc4_1, .nil, .nil, .nil])]⟩ (res11 r) (bx11 r)
  | .h7 r12 t32 t33 t34 loc31_0 loc31_1 loc31_2 loc31_3 loc31_4 loc31_5 loc31_6 loc31_7 loc4_0 loc4_1, r => Fin cx11 Try.f11 (kAt body11 [1, 1, 1, 1, 1, 0, 1, 0, 0, 1, 1, 0, 0, 1, 1, 1, 2] []) ⟨rep 4 .deadv ++ [.c (.ptr ⟨⟨.loc 4, []⟩, 0, 0⟩)] ++ rep 3 .deadv ++ [.c (.ptr ⟨⟨.loc 31, []⟩, 0, 0⟩)] ++ rep 3 .deadv ++ [.c (ic r12)] ++ rep 19 .deadv ++ [.c (.imm t32), .c (ic t33), .c (ic t34)] ++ rep 54 .deadv, [(.loc 31, [ic loc31_0, ic loc31_1, .own 4 loc31_2, .own 2 loc31_3, .own 4 loc31_4, bc loc31_5, .mp loc31_6, bc loc31_7]), (.loc 4, [ic loc4_0, ic loc4_1, .nil, .nil, .nil])]⟩ (res11 r) (bx11 r)
  | .h8 t5 loc4_0 loc4_1 loc4_2 loc4_3 loc4_4, r => Fin cx11 Try.f11 (kAt body11 [1, 1, 1, 1, 1, 1, 1, 1, 1, 0, 1, 0, 1, 2] []) ⟨rep 4 .deadv ++ [.c (.ptr ⟨⟨.loc 4, []⟩, 0, 0⟩), .c (ic t5)] ++ rep 83 .deadv, [(.loc 4, [ic loc4_0, ic loc4_1, .imm loc4_2, .imm loc4_3, .imm loc4_4])]⟩ (res11 r) (bx11 r)
  | .h9 t5 loc4_0 loc4_1 loc4_2 loc4_3 loc4_4, r => Fin cx11 Try.f11 (kAt body11 [1, 1, 1, 1, 1, 1, 1, 1, 1, 1, 1, 1, 2] []) ⟨rep 4 .deadv ++ [.c (.ptr ⟨⟨.loc 4, []⟩, 0, 0⟩), .c (ic t5)] ++ rep 83 .deadv, [(.loc 4, [ic loc4_0, ic loc4_1, .imm loc4_2, .imm loc4_3, .imm loc4_4])]⟩ (res11 r) (bx11 r)
theorem evr11 {l0 : Rs} {share1 : Bool} {r : R11} (h : P11 (.e l0 share1) r) : Ev Try.prog noHand 11 [.c (.imm l0), .c (bc share1)] [] (res11 r) (bx11 r) := ev_of_fin (fn := Try.f11) (body := body11) (by kernel_rfl) (by kernel_rfl) (by kernel_rfl) rfl h
theorem t11_e_ok (k : Nat) (rec : S11 → Option R11) (ih : ∀ s r, rec s = some r → P11 s r) (l0 : Rs) (share1 : Bool) (r : R11) (h : t11_e k rec l0 share1 = some r) : P11 (.e l0 share1) r := by
  unfold t11_e at h
  rcases bif_or h with ⟨h_x1, h⟩ | ⟨h_x1, h⟩
  ·
    exact mgo_at (nb := 0) hmix (ih _ _ h) (n := 8) (ad := [(some 15, .test true)]) (ps := [_]) (m := bm 89 618970019642690137449562063) (ls := []) (cs := [(⟨⟨.loc 4, []⟩, 0, 2⟩, none), (⟨⟨.loc 4, []⟩, 0, 3⟩, none), (⟨⟨.loc 4, []⟩, 0, 4⟩, none)]) (by kernel_rfl) ⟨h_x1, trivial⟩
  ·
    exact mgo_at (nb := 0) hmix (ih _ _ h) (n := 12) (ad := [(some 15, .test false)]) (ps := [_]) (m := bm 89 618970019642690137448644588) (ls := []) (cs := []) (by kernel_rfl) ⟨h_x1, trivial⟩
theorem t11_h0_ok (k : Nat) (rec : S11 → Option R11) (ih : ∀ s r, rec s = some r → P11 s r) (t5 : Int) (loc4_0 : Int) (loc4_1 : Int) (loc4_2 : Rs) (loc4_3 : Rs) (loc4_4 : Rs) (r : R11) (h : t11_h0 k rec t5 loc4_0 loc4_1 loc4_2 loc4_3 loc4_4 = some r) : P11 (.h0 t5 loc4_0 loc4_1 loc4_2 loc4_3 loc4_4) r := by
  unfold t11_h0 at h
  rw [← Option.some.inj h]
  exact mgo_fin (nb := 0) hmix (n := 2000) (ad := []) (ps := []) (by kernel_rfl) trivial
theorem t11_h1_ok (k : Nat) (rec : S11 → Option R11) (ih : ∀ s r, rec s = some r → P11 s r) (l0 : Rs) (share1 : Bool) (t17 : Rs) (t18 : Int) (t19 : Int) (loc4_0 : Int) (loc4_1 : Int) (r : R11) (h : t11_h1 k rec l0 share1 t17 t18 t19 loc4_0 loc4_1 = some r) : P11 (.h1 l0 share1 t17 t18 t19 loc4_0 loc4_1) r := by
  unfold t11_h1 at h
  rcases bif_or h with ⟨h_x1, h⟩ | ⟨h_x1, h⟩
  ·
    obtain ⟨w_x2, h_x3, h⟩ := ixR_or h
    obtain ⟨op_x4, kind_x4, args_x4, valueKind_x4, valueBits_x4, pos_x4, attr_x4, hq, h1'⟩ := un_iimiuii_or h
    clear h; subst hq; have h := h1'; clear h1'
    obtain ⟨v_x5, h_x6, h⟩ := bd_or h
    rcases bif_or h with ⟨h_x7, h⟩ | ⟨h_x7, h⟩
    ·
      exact mgo_at (nb := 0) hmix (ih _ _ h) (n := 15) (ad := [(some 20, .test true), (some 21, .row [ic op_x4, ic kind_x4, .imm args_x4, ic valueKind_x4, .val (.int .u64 valueBits_x4), ic pos_x4, ic attr_x4]), (some 24, .call (.ret (.c (bc v_x5))) [] false), (some 25, .test true)]) (ps := [_, _, _, _]) (m := bm 89 618970019642690137449562063) (ls := [7]) (cs := [(⟨⟨.loc 4, []⟩, 0, 2⟩, none), (⟨⟨.loc 4, []⟩, 0, 3⟩, none), (⟨⟨.loc 4, []⟩, 0, 4⟩, none)]) (by kernel_rfl) ⟨h_x1, ix_row h_x3 rfl, (ev24 h_x6), h_x7, trivial⟩
    ·
      exact mgo_at (nb := 0) hmix (ih _ _ h) (n := 16) (ad := [(some 20, .test true), (some 21, .row [ic op_x4, ic kind_x4, .imm args_x4, ic valueKind_x4, .val (.int .u64 valueBits_x4), ic pos_x4, ic attr_x4]), (some 24, .call (.ret (.c (bc v_x5))) [] false), (some 25, .test false)]) (ps := [_, _, _, _]) (m := bm 89 618970019642690137448644588) (ls := [7]) (cs := []) (by kernel_rfl) ⟨h_x1, ix_row h_x3 rfl, (ev24 h_x6), h_x7, trivial⟩
  ·
    exact mgo_at (nb := 0) hmix (ih _ _ h) (n := 15) (ad := [(some 20, .test false)]) (ps := [_]) (m := bm 89 618970019642690107384790255) (ls := []) (cs := [(⟨⟨.loc 31, []⟩, 0, 2⟩, some 4), (⟨⟨.loc 31, []⟩, 0, 3⟩, some 2), (⟨⟨.loc 31, []⟩, 0, 4⟩, some 4)]) (by kernel_rfl) ⟨h_x1, trivial⟩
theorem t11_h2_ok (k : Nat) (rec : S11 → Option R11) (ih : ∀ s r, rec s = some r → P11 s r) (t5 : Int) (loc4_0 : Int) (loc4_1 : Int) (loc4_2 : Rs) (loc4_3 : Rs) (loc4_4 : Rs) (r : R11) (h : t11_h2 k rec t5 loc4_0 loc4_1 loc4_2 loc4_3 loc4_4 = some r) : P11 (.h2 t5 loc4_0 loc4_1 loc4_2 loc4_3 loc4_4) r := by
  unfold t11_h2 at h
  rw [← Option.some.inj h]
  exact mgo_fin (nb := 0) hmix (n := 2000) (ad := []) (ps := []) (by kernel_rfl) trivial
theorem t11_h3_ok (k : Nat) (rec : S11 → Option R11) (ih : ∀ s r, rec s = some r → P11 s r) (sofar9 : Int) (t32 : Rs) (t33 : Int) (t34 : Int) (loc31_0 : Int) (loc31_1 : Int) (loc31_2 : Rs) (loc31_3 : Rs) (loc31_4 : Rs) (loc31_5 : Bool) (loc31_6 : Es) (loc31_7 : Bool) (loc4_0 : Int) (loc4_1 : Int) (r : R11) (h : t11_h3 k rec sofar9 t32 t33 t34 loc31_0 loc31_1 loc31_2 loc31_3 loc31_4 loc31_5 loc31_6 loc31_7 loc4_0 loc4_1 = some r) : P11 (.h3 sofar9 t32 t33 t34 loc31_0 loc31_1 loc31_2 loc31_3 loc31_4 loc31_5 loc31_6 loc31_7 loc4_0 loc4_1) r := by
  unfold t11_h3 at h
  rcases bif_or h with ⟨h_x1, h⟩ | ⟨h_x1, h⟩
  ·
    obtain ⟨w_x2, h_x3, h⟩ := ixR_or h
    obtain ⟨op_x4, kind_x4, args_x4, valueKind_x4, valueBits_x4, pos_x4, attr_x4, hq, h1'⟩ := un_iimiuii_or h
    clear h; subst hq; have h := h1'; clear h1'
    exact mgo_at (nb := 0) hmix (ih _ _ h) (n := 11) (ad := [(some 35, .test true), (some 37, .row [ic op_x4, ic kind_x4, .imm args_x4, ic valueKind_x4, .val (.int .u64 valueBits_x4), ic pos_x4, ic attr_x4])]) (ps := [_, _]) (m := bm 89 618970019642690107384787183) (ls := []) (cs := []) (by kernel_rfl) ⟨h_x1, ix_row h_x3 rfl, trivial⟩
  ·
    exact mgo_at (nb := 0) hmix (ih _ _ h) (n := 11) (ad := [(some 35, .test false)]) (ps := [_]) (m := bm 89 618970019642690137449561327) (ls := []) (cs := []) (by kernel_rfl) ⟨h_x1, trivial⟩
theorem t11_h4_ok (k : Nat) (rec : S11 → Option R11) (ih : ∀ s r, rec s = some r → P11 s r) (sofar9 : Int) (i10 : Int) (t32 : Rs) (t33 : Int) (t34 : Int) (loc11_0 : Int) (loc11_1 : Int) (loc11_2 : Rs) (loc11_3 : Int) (loc11_4 : Int) (loc11_5 : Int) (loc11_6 : Int) (loc31_0 : Int) (loc31_1 : Int) (loc31_2 : Rs) (loc31_3 : Rs) (loc31_4 : Rs) (loc31_5 : Bool) (loc31_6 : Es) (loc31_7 : Bool) (loc4_0 : Int) (loc4_1 : Int) (r : R11) (h : t11_h4 k rec sofar9 i10 t32 t33 t34 loc11_0 loc11_1 loc11_2 loc11_3 loc11_4 loc11_5 loc11_6 loc31_0 loc31_1 loc31_2 loc31_3 loc31_4 loc31_5 loc31_6 loc31_7 loc4_0 loc4_1 = some r) : P11 (.h4 sofar9 i10 t32 t33 t34 loc11_0 loc11_1 loc11_2 loc11_3 loc11_4 loc11_5 loc11_6 loc31_0 loc31_1 loc31_2 loc31_3 loc31_4 loc31_5 loc31_6 loc31_7 loc4_0 loc4_1) r := by
  unfold t11_h4 at h
  obtain ⟨v_x1, h_x2, h⟩ := bd_or h
  obtain ⟨r_x3, rb00_x3, rb01_x3, rb02_x3, rb03_x3, rb04_x3, rb05_x3, rb06_x3, rb07_x3, hq, h1'⟩ := tup9_or h
  clear h; subst hq; have h := h1'; clear h1'
  rcases bif_or h with ⟨h_x4, h⟩ | ⟨h_x4, h⟩
  ·
    exact mgo_at (nb := 0) hmix (ih _ _ h) (n := 5) (ad := [(some 41, .call (.ret (.c (ic r_x3))) [[ic rb00_x3, ic rb01_x3, .own 4 rb02_x3, .own 2 rb03_x3, .own 4 rb04_x3, bc rb05_x3, .mp rb06_x3, bc rb07_x3]] false), (some 43, .test true)]) (ps := [_, _]) (m := bm 89 618970019642690107384786159) (ls := [11]) (cs := []) (by kernel_rfl) ⟨(ev25d h_x2), h_x4, trivial⟩
  ·
    exact mgo_at (nb := 0) hmix (ih _ _ h) (n := 6) (ad := [(some 41, .call (.ret (.c (ic r_x3))) [[ic rb00_x3, ic rb01_x3, .own 4 rb02_x3, .own 2 rb03_x3, .own 4 rb04_x3, bc rb05_x3, .mp rb06_x3, bc rb07_x3]] false), (some 43, .test false)]) (ps := [_, _]) (m := bm 89 618970019642690107384786671) (ls := [11]) (cs := []) (by kernel_rfl) ⟨(ev25d h_x2), h_x4, trivial⟩
theorem t11_h5_ok (k : Nat) (rec : S11 → Option R11) (ih : ∀ s r, rec s = some r → P11 s r) (sofar9 : Int) (loc31_0 : Int) (loc31_1 : Int) (loc31_2 : Rs) (loc31_3 : Rs) (loc31_4 : Rs) (loc31_5 : Bool) (loc31_6 : Es) (loc31_7 : Bool) (loc4_0 : Int) (loc4_1 : Int) (r : R11) (h : t11_h5 k rec sofar9 loc31_0 loc31_1 loc31_2 loc31_3 loc31_4 loc31_5 loc31_6 loc31_7 loc4_0 loc4_1 = some r) : P11 (.h5 sofar9 loc31_0 loc31_1 loc31_2 loc31_3 loc31_4 loc31_5 loc31_6 loc31_7 loc4_0 loc4_1) r := by
  unfold t11_h5 at h
  obtain ⟨v_x1, h_x2, h⟩ := bd_or h
  obtain ⟨r_x3, rb00_x3, rb01_x3, rb02_x3, rb03_x3, rb04_x3, rb05_x3, rb06_x3, rb07_x3, hq, h1'⟩ := tup9_or h
  clear h; subst hq; have h := h1'; clear h1'
  rcases bif_or h with ⟨hq, h1'⟩ | ⟨hq, h1'⟩
  · clear h; subst hq; have h := h1'; clear h1'
    exact mgo_at (nb := 0) hmix (ih _ _ h) (n := 7) (ad := [(some 67, .call (.ret (.c (ic r_x3))) [[ic rb00_x3, ic rb01_x3, .own 4 rb02_x3, .own 2 rb03_x3, .own 4 rb04_x3, bc rb05_x3, .mp rb06_x3, bc true]] false)]) (ps := [_]) (m := bm 89 618970019642690137449562063) (ls := [31]) (cs := [(⟨⟨.loc 4, []⟩, 0, 2⟩, none), (⟨⟨.loc 4, []⟩, 0, 3⟩, none), (⟨⟨.loc 4, []⟩, 0, 4⟩, none)]) (by kernel_rfl) ⟨(ev26e h_x2), trivial⟩
  · clear h; subst hq; have h := h1'; clear h1'
    obtain ⟨w_x4, h_x5, h⟩ := ixR_or h
    obtain ⟨op_x6, dst_x6, a_x6, b_x6, hq, h1'⟩ := un_i4_or h
    clear h; subst hq; have h := h1'; clear h1'
    exact mgo_at (nb := 0) hmix (ih _ _ h) (n := 10) (ad := [(some 67, .call (.ret (.c (ic r_x3))) [[ic rb00_x3, ic rb01_x3, .own 4 rb02_x3, .own 2 rb03_x3, .own 4 rb04_x3, bc rb05_x3, .mp rb06_x3, bc false]] false), (some 83, .bnd), (none, .st), (none, .st)]) (ps := [_, _, _, _, _, _, _, _]) (m := bm 89 618970019642690137449562063) (ls := [31]) (cs := []) (by kernel_rfl) ⟨(ev26e h_x2), ix_bnd h_x5, ix_cell (o := 1) h_x5 rfl, (⟨_, rfl⟩ : ∃ c0, cellAt [[ic loc4_0, ic loc4_1, .nil, .nil, .nil]] 0 0 = some c0), (⟨_, rfl⟩ : ∃ c0, cellAt [[ic rb00_x3, ic loc4_1, .nil, .nil, .nil]] 0 1 = some c0), (⟨_, rfl⟩ : ∃ c0, cellAt [[ic rb00_x3, ic rb01_x3, .nil, .nil, .nil]] 0 2 = some c0), (⟨_, rfl⟩ : ∃ c0, cellAt [[ic rb00_x3, ic rb01_x3, .imm (immRs rb02_x3), .nil, .nil]] 0 3 = some c0), (⟨_, rfl⟩ : ∃ c0, cellAt [[ic rb00_x3, ic rb01_x3, .imm (immRs rb02_x3), .imm (immRs rb03_x3), .nil]] 0 4 = some c0), trivial⟩
theorem t11_h6_ok (k : Nat) (rec : S11 → Option R11) (ih : ∀ s r, rec s = some r → P11 s r) (sofar9 : Int) (r12 : Int) (t32 : Rs) (t33 : Int) (t34 : Int) (loc31_0 : Int) (loc31_1 : Int) (loc31_2 : Rs) (loc31_3 : Rs) (loc31_4 : Rs) (loc31_5 : Bool) (loc31_6 : Es) (loc31_7 : Bool) (loc4_0 : Int) (loc4_1 : Int) (r : R11) (h : t11_h6 k rec sofar9 r12 t32 t33 t34 loc31_0 loc31_1 loc31_2 loc31_3 loc31_4 loc31_5 loc31_6 loc31_7 loc4_0 loc4_1 = some r) : P11 (.h6 sofar9 r12 t32 t33 t34 loc31_0 loc31_1 loc31_2 loc31_3 loc31_4 loc31_5 loc31_6 loc31_7 loc4_0 loc4_1) r := by
  unfold t11_h6 at h
  obtain ⟨v_x1, h_x2, h⟩ := bd_or h
  obtain ⟨r_x3, rb00_x3, rb01_x3, rb02_x3, rb03_x3, rb04_x3, rb05_x3, rb06_x3, rb07_x3, hq, h1'⟩ := tup9_or h
  clear h; subst hq; have h := h1'; clear h1'
  exact mgo_at (nb := 0) hmix (ih _ _ h) (n := 1) (ad := [(some 48, .call (.ret (.c (ic r_x3))) [[ic rb00_x3, ic rb01_x3, .own 4 rb02_x3, .own 2 rb03_x3, .own 4 rb04_x3, bc rb05_x3, .mp rb06_x3, bc rb07_x3]] false)]) (ps := [_]) (m := bm 89 618970019642690107384786671) (ls := []) (cs := []) (by kernel_rfl) ⟨(ev26e h_x2), trivial⟩
theorem t11_h7_ok (k : Nat) (rec : S11 → Option R11) (ih : ∀ s r, rec s = some r → P11 s r) (r12 : Int) (t32 : Rs) (t33 : Int) (t34 : Int) (loc31_0 : Int) (loc31_1 : Int) (loc31_2 : Rs) (loc31_3 : Rs) (loc31_4 : Rs) (loc31_5 : Bool) (loc31_6 : Es) (loc31_7 : Bool) (loc4_0 : Int) (loc4_1 : Int) (r : R11) (h : t11_h7 k rec r12 t32 t33 t34 loc31_0 loc31_1 loc31_2 loc31_3 loc31_4 loc31_5 loc31_6 loc31_7 loc4_0 loc4_1 = some r) : P11 (.h7 r12 t32 t33 t34 loc31_0 loc31_1 loc31_2 loc31_3 loc31_4 loc31_5 loc31_6 loc31_7 loc4_0 loc4_1) r := by
  unfold t11_h7 at h
  exact mgo_at (nb := 0) hmix (ih _ _ h) (n := 3) (ad := []) (ps := []) (m := bm 89 618970019642690107384790255) (ls := []) (cs := []) (by kernel_rfl) trivial
theorem t11_h8_ok (k : Nat) (rec : S11 → Option R11) (ih : ∀ s r, rec s = some r → P11 s r) (t5 : Int) (loc4_0 : Int) (loc4_1 : Int) (loc4_2 : Rs) (loc4_3 : Rs) (loc4_4 : Rs) (r : R11) (h : t11_h8 k rec t5 loc4_0 loc4_1 loc4_2 loc4_3 loc4_4 = some r) : P11 (.h8 t5 loc4_0 loc4_1 loc4_2 loc4_3 loc4_4) r := by
  unfold t11_h8 at h
  rw [← Option.some.inj h]
  exact mgo_fin (nb := 0) hmix (n := 2000) (ad := []) (ps := []) (by kernel_rfl) trivial
theorem t11_h9_ok (k : Nat) (rec : S11 → Option R11) (ih : ∀ s r, rec s = some r → P11 s r) (t5 : Int) (loc4_0 : Int) (loc4_1 : Int) (loc4_2 : Rs) (loc4_3 : Rs) (loc4_4 : Rs) (r : R11) (h : t11_h9 k rec t5 loc4_0 loc4_1 loc4_2 loc4_3 loc4_4 = some r) : P11 (.h9 t5 loc4_0 loc4_1 loc4_2 loc4_3 loc4_4) r := by
  unfold t11_h9 at h
  rw [← Option.some.inj h]
  exact mgo_fin (nb := 0) hmix (n := 2000) (ad := []) (ps := []) (by kernel_rfl) trivial
theorem ok11 : ∀ k s r, itS step11 k s = some r → P11 s r := itS_ok fun k rec ih s r h => match s, h with
  | .e l0 share1, h => t11_e_ok k rec ih l0 share1 r h
  | .h0 t5 loc4_0 loc4_1 loc4_2 loc4_3 loc4_4, h => t11_h0_ok k rec ih t5 loc4_0 loc4_1 loc4_2 loc4_3 loc4_4 r h
  | .h1 l0 share1 t17 t18 t19 loc4_0 loc4_1, h => t11_h1_ok k rec ih l0 share1 t17 t18 t19 loc4_0 loc4_1 r h
  | .h2 t5 loc4_0 loc4_1 loc4_2 loc4_3 loc4_4, h => t11_h2_ok k rec ih t5 loc4_0 loc4_1 loc4_2 loc4_3 loc4_4 r h
  | .h3 sofar9 t32 t33 t34 loc31_0 loc31_1 loc31_2 loc31_3 loc31_4 loc31_5 loc31_6 loc31_7 loc4_0 loc4_1, h => t11_h3_ok k rec ih sofar9 t32 t33 t34 loc31_0 loc31_1 loc31_2 loc31_3 loc31_4 loc31_5 loc31_6 loc31_7 loc4_0 loc4_1 r h
  | .h4 sofar9 i10 t32 t33 t34 loc11_0 loc11_1 loc11_2 loc11_3 loc11_4 loc11_5 loc11_6 loc31_0 loc31_1 loc31_2 loc31_3 loc31_4 loc31_5 loc31_6 loc31_7 loc4_0 loc4_1, h => t11_h4_ok k rec ih sofar9 i10 t32 t33 t34 loc11_0 loc11_1 loc11_2 loc11_3 loc11_4 loc11_5 loc11_6 loc31_0 loc31_1 loc31_2 loc31_3 loc31_4 loc31_5 loc31_6 loc31_7 loc4_0 loc4_1 r h
  | .h5 sofar9 loc31_0 loc31_1 loc31_2 loc31_3 loc31_4 loc31_5 loc31_6 loc31_7 loc4_0 loc4_1, h => t11_h5_ok k rec ih sofar9 loc31_0 loc31_1 loc31_2 loc31_3 loc31_4 loc31_5 loc31_6 loc31_7 loc4_0 loc4_1 r h
  | .h6 sofar9 r12 t32 t33 t34 loc31_0 loc31_1 loc31_2 loc31_3 loc31_4 loc31_5 loc31_6 loc31_7 loc4_0 loc4_1, h => t11_h6_ok k rec ih sofar9 r12 t32 t33 t34 loc31_0 loc31_1 loc31_2 loc31_3 loc31_4 loc31_5 loc31_6 loc31_7 loc4_0 loc4_1 r h
  | .h7 r12 t32 t33 t34 loc31_0 loc31_1 loc31_2 loc31_3 loc31_4 loc31_5 loc31_6 loc31_7 loc4_0 loc4_1, h => t11_h7_ok k rec ih r12 t32 t33 t34 loc31_0 loc31_1 loc31_2 loc31_3 loc31_4 loc31_5 loc31_6 loc31_7 loc4_0 loc4_1 r h
  | .h8 t5 loc4_0 loc4_1 loc4_2 loc4_3 loc4_4, h => t11_h8_ok k rec ih t5 loc4_0 loc4_1 loc4_2 loc4_3 loc4_4 r h
  | .h9 t5 loc4_0 loc4_1 loc4_2 loc4_3 loc4_4, h => t11_h9_ok k rec ih t5 loc4_0 loc4_1 loc4_2 loc4_3 loc4_4 r h
theorem ev11 {k : Nat} {l0 : Rs} {share1 : Bool} {r : R11} (h : g11 k l0 share1 = some r) : Ev Try.prog noHand 11 [.c (.imm l0), .c (bc share1)] [] (res11 r) (bx11 r) := evr11 (ok11 _ _ _ h)
-- auspice/auspiceref17.Same
inductive S13 where
  | e (a0_0 : Int) (a0_1 : Int) (a0_2 : Rs) (a0_3 : Rs) (a0_4 : Rs) (b1_0 : Int) (b1_1 : Int) (b1_2 : Rs) (b1_3 : Rs) (b1_4 : Rs)
  | h0 (t46 : Bool) (loc3_0 : Int) (loc3_1 : Int) (loc3_2 : Rs) (loc3_3 : Rs) (loc3_4 : Rs) (loc2_0 : Int) (loc2_1 : Int) (loc2_2 : Rs) (loc2_3 : Rs) (loc2_4 : Rs)
  | h1 (t49 : Int) (t50 : Int) (loc3_0 : Int) (loc3_1 : Int) (loc3_2 : Rs) (loc3_3 : Rs) (loc3_4 : Rs) (loc2_0 : Int) (loc2_1 : Int) (loc2_2 : Rs) (loc2_3 : Rs) (loc2_4 : Rs)
  | h2 (t67 : Int) (t68 : Int) (loc3_0 : Int) (loc3_1 : Int) (loc3_2 : Rs) (loc3_3 : Rs) (loc3_4 : Rs) (loc2_0 : Int) (loc2_1 : Int) (loc2_2 : Rs) (loc2_3 : Rs) (loc2_4 : Rs)
  | h3 (t85 : Int) (t86 : Int) (loc3_0 : Int) (loc3_1 : Int) (loc3_2 : Rs) (loc3_3 : Rs) (loc3_4 : Rs) (loc2_0 : Int) (loc2_1 : Int) (loc2_2 : Rs) (loc2_3 : Rs) (loc2_4 : Rs)
abbrev R13 := Bool
def res13 : R13 → ARes
  | r => .ret (.c (bc r))
def bx13 : R13 → List (List Cell)
  | r => []
noncomputable def t13_e (k : Nat) (rec : S13 → Option R13) (a0_0 : Int) (a0_1 : Int) (a0_2 : Rs) (a0_3 : Rs) (a0_4 : Rs) (b1_0 : Int) (b1_1 : Int) (b1_2 : Rs) (b1_3 : Rs) (b1_4 : Rs) : Option R13 :=
  bif a0_0 != b1_0 then
    rec (.h0 true b1_0 b1_1 b1_2 b1_3 b1_4 a0_0 a0_1 a0_2 a0_3 a0_4)
  else
    bif a0_1 != b1_1 then
      rec (.h0 true b1_0 b1_1 b1_2 b1_3 b1_4 a0_0 a0_1 a0_2 a0_3 a0_4)
    else
      bif (a0_2.length : Int) != (b1_2.length : Int) then
        rec (.h0 true b1_0 b1_1 b1_2 b1_3 b1_4 a0_0 a0_1 a0_2 a0_3 a0_4)
      else
        bif (a0_3.length : Int) != (b1_3.length : Int) then
          rec (.h0 true b1_0 b1_1 b1_2 b1_3 b1_4 a0_0 a0_1 a0_2 a0_3 a0_4)
        else
          rec (.h0 ((a0_4.length : Int) != (b1_4.length : Int)) b1_0 b1_1 b1_2 b1_3 b1_4 a0_0 a0_1 a0_2 a0_3 a0_4)
noncomputable def t13_h0 (k : Nat) (rec : S13 → Option R13) (t46 : Bool) (loc3_0 : Int) (loc3_1 : Int) (loc3_2 : Rs) (loc3_3 : Rs) (loc3_4 : Rs) (loc2_0 : Int) (loc2_1 : Int) (loc2_2 : Rs) (loc2_3 : Rs) (loc2_4 : Rs) : Option R13 :=
  bif t46 then
    some false
  else
    rec (.h1 (loc2_2.length : Int) 0 loc3_0 loc3_1 loc3_2 loc3_3 loc3_4 loc2_0 loc2_1 loc2_2 loc2_3 loc2_4)
noncomputable def t13_h1 (k : Nat) (rec : S13 → Option R13) (t49 : Int) (t50 : Int) (loc3_0 : Int) (loc3_1 : Int) (loc3_2 : Rs) (loc3_3 : Rs) (loc3_4 : Rs) (loc2_0 : Int) (loc2_1 : Int) (loc2_2 : Rs) (loc2_3 : Rs) (loc2_4 : Rs) : Option R13 :=
  bif decide (t50 < t49) then
    ixR loc2_2 t50 fun w_x2 =>
    un_i4 w_x2 fun op_x4 kind_x4 pos_x4 attr_x4 =>
    ixR loc3_2 t50 fun w_x5 =>
    un_i4 w_x5 fun op_x7 kind_x7 pos_x7 attr_x7 =>
    bif !(op_x4 == op_x7 && (kind_x4 == kind_x7 && (pos_x4 == pos_x7 && (attr_x4 == attr_x7 && true)))) then
      some false
    else
      rec (.h1 t49 (IntKind.i64.wrap (t50 + 1)) loc3_0 loc3_1 loc3_2 loc3_3 loc3_4 loc2_0 loc2_1 loc2_2 loc2_3 loc2_4)
  else
    rec (.h2 (loc2_3.length : Int) 0 loc3_0 loc3_1 loc3_2 loc3_3 loc3_4 loc2_0 loc2_1 loc2_2 loc2_3 loc2_4)
noncomputable def t13_h2 (k : Nat) (rec : S13 → Option R13) (t67 : Int) (t68 : Int) (loc3_0 : Int) (loc3_1 : Int) (loc3_2 : Rs) (loc3_3 : Rs) (loc3_4 : Rs) (loc2_0 : Int) (loc2_1 : Int) (loc2_2 : Rs) (loc2_3 : Rs) (loc2_4 : Rs) : Option R13 :=
  bif decide (t68 < t67) then
    ixR loc2_3 t68 fun w_x2 =>
    un_iu w_x2 fun kind_x4 bits_x4 =>
    ixR loc3_3 t68 fun w_x5 =>
    un_iu w_x5 fun kind_x7 bits_x7 =>
    bif !(kind_x4 == kind_x7 && (bits_x4 == bits_x7 && true)) then
      some false
    else
      rec (.h2 t67 (IntKind.i64.wrap (t68 + 1)) loc3_0 loc3_1 loc3_2 loc3_3 loc3_4 loc2_0 loc2_1 loc2_2 loc2_3 loc2_4)
  else
    rec (.h3 (loc2_4.length : Int) 0 loc3_0 loc3_1 loc3_2 loc3_3 loc3_4 loc2_0 loc2_1 loc2_2 loc2_3 loc2_4)
noncomputable def t13_h3 (k : Nat) (rec : S13 → Option R13) (t85 : Int) (t86 : Int) (loc3_0 : Int) (loc3_1 : Int) (loc3_2 : Rs) (loc3_3 : Rs) (loc3_4 : Rs) (loc2_0 : Int) (loc2_1 : Int) (loc2_2 : Rs) (loc2_3 : Rs) (loc2_4 : Rs) : Option R13 :=
  bif decide (t86 < t85) then
    ixR loc2_4 t86 fun w_x2 =>
    un_i4 w_x2 fun op_x4 dst_x4 a_x4 b_x4 =>
    ixR loc3_4 t86 fun w_x5 =>
    un_i4 w_x5 fun op_x7 dst_x7 a_x7 b_x7 =>
    bif !(op_x4 == op_x7 && (dst_x4 == dst_x7 && (a_x4 == a_x7 && (b_x4 == b_x7 && true)))) then
      some false
    else
      rec (.h3 t85 (IntKind.i64.wrap (t86 + 1)) loc3_0 loc3_1 loc3_2 loc3_3 loc3_4 loc2_0 loc2_1 loc2_2 loc2_3 loc2_4)
  else
    some true
noncomputable def step13 (k : Nat) (rec : S13 → Option R13) : S13 → Option R13
  | .e a0_0 a0_1 a0_2 a0_3 a0_4 b1_0 b1_1 b1_2 b1_3 b1_4 => t13_e k rec a0_0 a0_1 a0_2 a0_3 a0_4 b1_0 b1_1 b1_2 b1_3 b1_4
  | .h0 t46 loc3_0 loc3_1 loc3_2 loc3_3 loc3_4 loc2_0 loc2_1 loc2_2 loc2_3 loc2_4 => t13_h0 k rec t46 loc3_0 loc3_1 loc3_2 loc3_3 loc3_4 loc2_0 loc2_1 loc2_2 loc2_3 loc2_4
  | .h1 t49 t50 loc3_0 loc3_1 loc3_2 loc3_3 loc3_4 loc2_0 loc2_1 loc2_2 loc2_3 loc2_4 => t13_h1 k rec t49 t50 loc3_0 loc3_1 loc3_2 loc3_3 loc3_4 loc2_0 loc2_1 loc2_2 loc2_3 loc2_4
  | .h2 t67 t68 loc3_0 loc3_1 loc3_2 loc3_3 loc3_4 loc2_0 loc2_1 loc2_2 loc2_3 loc2_4 => t13_h2 k rec t67 t68 loc3_0 loc3_1 loc3_2 loc3_3 loc3_4 loc2_0 loc2_1 loc2_2 loc2_3 loc2_4
  | .h3 t85 t86 loc3_0 loc3_1 loc3_2 loc3_3 loc3_4 loc2_0 loc2_1 loc2_2 loc2_3 loc2_4 => t13_h3 k rec t85 t86 loc3_0 loc3_1 loc3_2 loc3_3 loc3_4 loc2_0 loc2_1 loc2_2 loc2_3 loc2_4
noncomputable def g13 (k : Nat) (a0_0 : Int) (a0_1 : Int) (a0_2 : Rs) (a0_3 : Rs) (a0_4 : Rs) (b1_0 : Int) (b1_1 : Int) (b1_2 : Rs) (b1_3 : Rs) (b1_4 : Rs) : Option R13 := itS step13 k (.e a0_0 a0_1 a0_2 a0_3 a0_4 b1_0 b1_1 b1_2 b1_3 b1_4)
noncomputable def P13 : S13 → R13 → Prop
  | .e a0_0 a0_1 a0_2 a0_3 a0_4 b1_0 b1_1 b1_2 b1_3 b1_4, r => Fin cx13 Try.f13 [.code body13] (fr0 Try.f13 [.ag [ic a0_0, ic a0_1, .imm a0_2, .imm a0_3, .imm a0_4], .ag [ic b1_0, ic b1_1, .imm b1_2, .imm b1_3, .imm b1_4]] []) (res13 r) (bx13 r)
  | .h0 t46 loc3_0 loc3_1 loc3_2 loc3_3 loc3_4 loc2_0 loc2_1 loc2_2 loc2_3 loc2_4, r => Fin cx13 Try.f13 (kAt body13 [1, 0, 1, 2] []) ⟨[.deadv, .deadv, .c (.ptr ⟨⟨.loc 2, []⟩, 0, 0⟩), .c (.ptr ⟨⟨.loc 3, []⟩, 0, 0⟩)] ++ rep 42 .deadv ++ [.c (bc t46)] ++ rep 54 .deadv, [(.loc 3, [ic loc3_0, ic loc3_1, .imm loc3_2, .imm loc3_3, .imm loc3_4]), (.loc 2, [ic loc2_0, ic loc2_1, .imm loc2_2, .imm loc2_3, .imm loc2_4])]⟩ (res13 r) (bx13 r)
  | .h1 t49 t50 loc3_0 loc3_1 loc3_2 loc3_3 loc3_4 loc2_0 loc2_1 loc2_2 loc2_3 loc2_4, r => Fin cx13 Try.f13 (kAt body13 [1, 1, 0, 1, 0, 4] []) ⟨[.deadv, .deadv, .c (.ptr ⟨⟨.loc 2, []⟩, 0, 0⟩), .c (.ptr ⟨⟨.loc 3, []⟩, 0, 0⟩)] ++ rep 45 .deadv ++ [.c (ic t49), .c (ic t50)] ++ rep 50 .deadv, [(.loc 3, [ic loc3_0, ic loc3_1, .imm loc3_2, .imm loc3_3, .imm loc3_4]), (.loc 2, [ic loc2_0, ic loc2_1, .imm loc2_2, .imm loc2_3, .imm loc2_4])]⟩ (res13 r) (bx13 r)
  | .h2 t67 t68 loc3_0 loc3_1 loc3_2 loc3_3 loc3_4 loc2_0 loc2_1 loc2_2 loc2_3 loc2_4, r => Fin cx13 Try.f13 (kAt body13 [1, 1, 1, 0, 1, 0, 4] []) ⟨[.deadv, .deadv, .c (.ptr ⟨⟨.loc 2, []⟩, 0, 0⟩), .c (.ptr ⟨⟨.loc 3, []⟩, 0, 0⟩)] ++ rep 63 .deadv ++ [.c (ic t67), .c (ic t68)] ++ rep 32 .deadv, [(.loc 3, [ic loc3_0, ic loc3_1, .imm loc3_2, .imm loc3_3, .imm loc3_4]), (.loc 2, [ic loc2_0, ic loc2_1, .imm loc2_2, .imm loc2_3, .imm loc2_4])]⟩ (res13 r) (bx13 r)
  | .h3 t85 t86 loc3_0 loc3_1 loc3_2 loc3_3 loc3_4 loc2_0 loc2_1 loc2_2 loc2_3 loc2_4, r => Fin cx13 Try.f13 (kAt body13 [1, 1, 1, 1, 0, 1, 0, 4] []) ⟨[.deadv, .deadv, .c (.ptr ⟨⟨.loc 2, []⟩, 0, 0⟩), .c (.ptr ⟨⟨.loc 3, []⟩, 0, 0⟩)] ++ rep 81 .deadv ++ [.c (ic t85), .c (ic t86)] ++ rep 14 .deadv, [(.loc 3, [ic loc3_0, ic loc3_1, .imm loc3_2, .imm loc3_3, .imm loc3_4]), (.loc 2, [ic loc2_0, ic loc2_1, .imm loc2_2, .imm loc2_3, .imm loc2_4])]⟩ (res13 r) (bx13 r)
theorem evr13 {a0_0 : Int} {a0_1 : Int} {a0_2 : Rs} {a0_3 : Rs} {a0_4 : Rs} {b1_0 : Int} {b1_1 : Int} {b1_2 : Rs} {b1_3 : Rs} {b1_4 : Rs} {r : R13} (h : P13 (.e a0_0 a0_1 a0_2 a0_3 a0_4 b1_0 b1_1 b1_2 b1_3 b1_4) r) : Ev Try.prog noHand 13 [.ag [ic a0_0, ic a0_1, .imm a0_2, .imm a0_3, .imm a0_4], .ag [ic b1_0, ic b1_1, .imm b1_2, .imm b1_3, .imm b1_4]] [] (res13 r) (bx13 r) := ev_of_fin (fn := Try.f13) (body := body13) (by kernel_rfl) (by kernel_rfl) (by kernel_rfl) rfl h
theorem t13_e_ok (k : Nat) (rec : S13 → Option R13) (ih : ∀ s r, rec s = some r → P13 s r) (a0_0 : Int) (a0_1 : Int) (a0_2 : Rs) (a0_3 : Rs) (a0_4 : Rs) (b1_0 : Int) (b1_1 : Int) (b1_2 : Rs) (b1_3 : Rs) (b1_4 : Rs) (r : R13) (h : t13_e k rec a0_0 a0_1 a0_2 a0_3 a0_4 b1_0 b1_1 b1_2 b1_3 b1_4 = some r) : P13 (.e a0_0 a0_1 a0_2 a0_3 a0_4 b1_0 b1_1 b1_2 b1_3 b1_4) r := by
  unfold t13_e at h
  rcases bif_or h with ⟨h_x1, h⟩ | ⟨h_x1, h⟩
  ·
    exact mgo_at (nb := 0) hmix (ih _ _ h) (n := 5) (ad := [(some 12, .test true)]) (ps := [_]) (m := bm 101 2535301200456458732624662233075) (ls := []) (cs := []) (by kernel_rfl) ⟨h_x1, trivial⟩
  ·
    rcases bif_or h with ⟨h_x2, h⟩ | ⟨h_x2, h⟩
    ·
      exact mgo_at (nb := 0) hmix (ih _ _ h) (n := 5) (ad := [(some 12, .test false), (some 18, .test true)]) (ps := [_, _]) (m := bm 101 2535301200456458732624662233075) (ls := []) (cs := []) (by kernel_rfl) ⟨h_x1, h_x2, trivial⟩
    ·
      rcases bif_or h with ⟨h_x3, h⟩ | ⟨h_x3, h⟩
      ·
        exact mgo_at (nb := 0) hmix (ih _ _ h) (n := 5) (ad := [(some 12, .test false), (some 18, .test false), (some 27, .test true)]) (ps := [_, _, _]) (m := bm 101 2535301200456458732624662233075) (ls := []) (cs := []) (by kernel_rfl) ⟨h_x1, h_x2, h_x3, trivial⟩
      ·
        rcases bif_or h with ⟨h_x4, h⟩ | ⟨h_x4, h⟩
        ·
          exact mgo_at (nb := 0) hmix (ih _ _ h) (n := 5) (ad := [(some 12, .test false), (some 18, .test false), (some 27, .test false), (some 36, .test true)]) (ps := [_, _, _, _]) (m := bm 101 2535301200456458732624662233075) (ls := []) (cs := []) (by kernel_rfl) ⟨h_x1, h_x2, h_x3, h_x4, trivial⟩
        ·
          exact mgo_at (nb := 0) hmix (ih _ _ h) (n := 5) (ad := [(some 12, .test false), (some 18, .test false), (some 27, .test false), (some 36, .test false)]) (ps := [_, _, _, _]) (m := bm 101 2535301200456458732624662233075) (ls := []) (cs := []) (by kernel_rfl) ⟨h_x1, h_x2, h_x3, h_x4, trivial⟩
theorem t13_h0_ok (k : Nat) (rec : S13 → Option R13) (ih : ∀ s r, rec s = some r → P13 s r) (t46 : Bool) (loc3_0 : Int) (loc3_1 : Int) (loc3_2 : Rs) (loc3_3 : Rs) (loc3_4 : Rs) (loc2_0 : Int) (loc2_1 : Int) (loc2_2 : Rs) (loc2_3 : Rs) (loc2_4 : Rs) (r : R13) (h : t13_h0 k rec t46 loc3_0 loc3_1 loc3_2 loc3_3 loc3_4 loc2_0 loc2_1 loc2_2 loc2_3 loc2_4 = some r) : P13 (.h0 t46 loc3_0 loc3_1 loc3_2 loc3_3 loc3_4 loc2_0 loc2_1 loc2_2 loc2_3 loc2_4) r := by
  unfold t13_h0 at h
  rcases bif_or h with ⟨hq, h1'⟩ | ⟨hq, h1'⟩
  · clear h; subst hq; have h := h1'; clear h1'
    rw [← Option.some.inj h]
    exact mgo_fin (nb := 0) hmix (n := 2000) (ad := []) (ps := []) (by kernel_rfl) trivial
  · clear h; subst hq; have h := h1'; clear h1'
    exact mgo_at (nb := 0) hmix (ih _ _ h) (n := 7) (ad := []) (ps := []) (m := bm 101 2535301200456457114143546146803) (ls := []) (cs := []) (by kernel_rfl) trivial
theorem t13_h1_ok (k : Nat) (rec : S13 → Option R13) (ih : ∀ s r, rec s = some r → P13 s r) (t49 : Int) (t50 : Int) (loc3_0 : Int) (loc3_1 : Int) (loc3_2 : Rs) (loc3_3 : Rs) (loc3_4 : Rs) (loc2_0 : Int) (loc2_1 : Int) (loc2_2 : Rs) (loc2_3 : Rs) (loc2_4 : Rs) (r : R13) (h : t13_h1 k rec t49 t50 loc3_0 loc3_1 loc3_2 loc3_3 loc3_4 loc2_0 loc2_1 loc2_2 loc2_3 loc2_4 = some r) : P13 (.h1 t49 t50 loc3_0 loc3_1 loc3_2 loc3_3 loc3_4 loc2_0 loc2_1 loc2_2 loc2_3 loc2_4) r := by
  unfold t13_h1 at h
  rcases bif_or h with ⟨h_x1, h⟩ | ⟨h_x1, h⟩
  ·
    obtain ⟨w_x2, h_x3, h⟩ := ixR_or h
    obtain ⟨op_x4, kind_x4, pos_x4, attr_x4, hq, h1'⟩ := un_i4_or h
    clear h; subst hq; have h := h1'; clear h1'
    obtain ⟨w_x5, h_x6, h⟩ := ixR_or h
    obtain ⟨op_x7, kind_x7, pos_x7, attr_x7, hq, h1'⟩ := un_i4_or h
    clear h; subst hq; have h := h1'; clear h1'
    rcases bif_or h with ⟨h_x8, h⟩ | ⟨h_x8, h⟩
    ·
      rw [← Option.some.inj h]
      exact mgo_fin (nb := 0) hmix (n := 2000) (ad := [(some 51, .test true), (some 56, .row [ic op_x4, ic kind_x4, ic pos_x4, ic attr_x4]), (some 61, .row [ic op_x7, ic kind_x7, ic pos_x7, ic attr_x7]), (some 63, .test true)]) (ps := [_, _, _, _]) (by kernel_rfl) ⟨h_x1, ix_row h_x3 rfl, ix_row h_x6 rfl, h_x8, trivial⟩
    ·
      exact mgo_at (nb := 0) hmix (ih _ _ h) (n := 16) (ad := [(some 51, .test true), (some 56, .row [ic op_x4, ic kind_x4, ic pos_x4, ic attr_x4]), (some 61, .row [ic op_x7, ic kind_x7, ic pos_x7, ic attr_x7]), (some 63, .test false)]) (ps := [_, _, _, _]) (m := bm 101 2535301200456457114143546146803) (ls := []) (cs := []) (by kernel_rfl) ⟨h_x1, ix_row h_x3 rfl, ix_row h_x6 rfl, h_x8, trivial⟩
  ·
    exact mgo_at (nb := 0) hmix (ih _ _ h) (n := 11) (ad := [(some 51, .test false)]) (ps := [_]) (m := bm 101 2535301200013736945224377171955) (ls := []) (cs := []) (by kernel_rfl) ⟨h_x1, trivial⟩
theorem t13_h2_ok (k : Nat) (rec : S13 → Option R13) (ih : ∀ s r, rec s = some r → P13 s r) (t67 : Int) (t68 : Int) (loc3_0 : Int) (loc3_1 : Int) (loc3_2 : Rs) (loc3_3 : Rs) (loc3_4 : Rs) (loc2_0 : Int) (loc2_1 : Int) (loc2_2 : Rs) (loc2_3 : Rs) (loc2_4 : Rs) (r : R13) (h : t13_h2 k rec t67 t68 loc3_0 loc3_1 loc3_2 loc3_3 loc3_4 loc2_0 loc2_1 loc2_2 loc2_3 loc2_4 = some r) : P13 (.h2 t67 t68 loc3_0 loc3_1 loc3_2 loc3_3 loc3_4 loc2_0 loc2_1 loc2_2 loc2_3 loc2_4) r := by
  unfold t13_h2 at h
  rcases bif_or h with ⟨h_x1, h⟩ | ⟨h_x1, h⟩
  ·
    obtain ⟨w_x2, h_x3, h⟩ := ixR_or h
    obtain ⟨kind_x4, bits_x4, hq, h1'⟩ := un_iu_or h
    clear h; subst hq; have h := h1'; clear h1'
    obtain ⟨w_x5, h_x6, h⟩ := ixR_or h
    obtain ⟨kind_x7, bits_x7, hq, h1'⟩ := un_iu_or h
    clear h; subst hq; have h := h1'; clear h1'
    rcases bif_or h with ⟨h_x8, h⟩ | ⟨h_x8, h⟩
    ·
      rw [← Option.some.inj h]
      exact mgo_fin (nb := 0) hmix (n := 2000) (ad := [(some 69, .test true), (some 74, .row [ic kind_x4, .val (.int .u64 bits_x4)]), (some 79, .row [ic kind_x7, .val (.int .u64 bits_x7)]), (some 81, .test true)]) (ps := [_, _, _, _]) (by kernel_rfl) ⟨h_x1, ix_row h_x3 rfl, ix_row h_x6 rfl, h_x8, trivial⟩
    ·
      exact mgo_at (nb := 0) hmix (ih _ _ h) (n := 16) (ad := [(some 69, .test true), (some 74, .row [ic kind_x4, .val (.int .u64 bits_x4)]), (some 79, .row [ic kind_x7, .val (.int .u64 bits_x7)]), (some 81, .test false)]) (ps := [_, _, _, _]) (m := bm 101 2535301200013736945224377171955) (ls := []) (cs := []) (by kernel_rfl) ⟨h_x1, ix_row h_x3 rfl, ix_row h_x6 rfl, h_x8, trivial⟩
  ·
    exact mgo_at (nb := 0) hmix (ih _ _ h) (n := 11) (ad := [(some 69, .test false)]) (ps := [_]) (m := bm 101 2535185143577775798592634617843) (ls := []) (cs := []) (by kernel_rfl) ⟨h_x1, trivial⟩
theorem t13_h3_ok (k : Nat) (rec : S13 → Option R13) (ih : ∀ s r, rec s = some r → P13 s r) (t85 : Int) (t86 : Int) (loc3_0 : Int) (loc3_1 : Int) (loc3_2 : Rs) (loc3_3 : Rs) (loc3_4 : Rs) (loc2_0 : Int) (loc2_1 : Int) (loc2_2 : Rs) (loc2_3 : Rs) (loc2_4 : Rs) (r : R13) (h : t13_h3 k rec t85 t86 loc3_0 loc3_1 loc3_2 loc3_3 loc3_4 loc2_0 loc2_1 loc2_2 loc2_3 loc2_4 = some r) : P13 (.h3 t85 t86 loc3_0 loc3_1 loc3_2 loc3_3 loc3_4 loc2_0 loc2_1 loc2_2 loc2_3 loc2_4) r := by
  unfold t13_h3 at h
  rcases bif_or h with ⟨h_x1, h⟩ | ⟨h_x1, h⟩
  ·
    obtain ⟨w_x2, h_x3, h⟩ := ixR_or h
    obtain ⟨op_x4, dst_x4, a_x4, b_x4, hq, h1'⟩ := un_i4_or h
    clear h; subst hq; have h := h1'; clear h1'
    obtain ⟨w_x5, h_x6, h⟩ := ixR_or h
    obtain ⟨op_x7, dst_x7, a_x7, b_x7, hq, h1'⟩ := un_i4_or h
    clear h; subst hq; have h := h1'; clear h1'
    rcases bif_or h with ⟨h_x8, h⟩ | ⟨h_x8, h⟩
    ·
      rw [← Option.some.inj h]
      exact mgo_fin (nb := 0) hmix (n := 2000) (ad := [(some 87, .test true), (some 92, .row [ic op_x4, ic dst_x4, ic a_x4, ic b_x4]), (some 97, .row [ic op_x7, ic dst_x7, ic a_x7, ic b_x7]), (some 99, .test true)]) (ps := [_, _, _, _]) (by kernel_rfl) ⟨h_x1, ix_row h_x3 rfl, ix_row h_x6 rfl, h_x8, trivial⟩
    ·
      exact mgo_at (nb := 0) hmix (ih _ _ h) (n := 16) (ad := [(some 87, .test true), (some 92, .row [ic op_x4, ic dst_x4, ic a_x4, ic b_x4]), (some 97, .row [ic op_x7, ic dst_x7, ic a_x7, ic b_x7]), (some 99, .test false)]) (ps := [_, _, _, _]) (m := bm 101 2535185143577775798592634617843) (ls := []) (cs := []) (by kernel_rfl) ⟨h_x1, ix_row h_x3 rfl, ix_row h_x6 rfl, h_x8, trivial⟩
  ·
    rw [← Option.some.inj h]
    exact mgo_fin (nb := 0) hmix (n := 2000) (ad := [(some 87, .test false)]) (ps := [_]) (by kernel_rfl) ⟨h_x1, trivial⟩
theorem ok13 : ∀ k s r, itS step13 k s = some r → P13 s r := itS_ok fun k rec ih s r h => match s, h with
  | .e a0_0 a0_1 a0_2 a0_3 a0_4 b1_0 b1_1 b1_2 b1_3 b1_4, h => t13_e_ok k rec ih a0_0 a0_1 a0_2 a0_3 a0_4 b1_0 b1_1 b1_2 b1_3 b1_4 r h
  | .h0 t46 loc3_0 loc3_1 loc3_2 loc3_3 loc3_4 loc2_0 loc2_1 loc2_2 loc2_3 loc2_4, h => t13_h0_ok k rec ih t46 loc3_0 loc3_1 loc3_2 loc3_3 loc3_4 loc2_0 loc2_1 loc2_2 loc2_3 loc2_4 r h
  | .h1 t49 t50 loc3_0 loc3_1 loc3_2 loc3_3 loc3_4 loc2_0 loc2_1 loc2_2 loc2_3 loc2_4, h => t13_h1_ok k rec ih t49 t50 loc3_0 loc3_1 loc3_2 loc3_3 loc3_4 loc2_0 loc2_1 loc2_2 loc2_3 loc2_4 r h
  | .h2 t67 t68 loc3_0 loc3_1 loc3_2 loc3_3 loc3_4 loc2_0 loc2_1 loc2_2 loc2_3 loc2_4, h => t13_h2_ok k rec ih t67 t68 loc3_0 loc3_1 loc3_2 loc3_3 loc3_4 loc2_0 loc2_1 loc2_2 loc2_3 loc2_4 r h
  | .h3 t85 t86 loc3_0 loc3_1 loc3_2 loc3_3 loc3_4 loc2_0 loc2_1 loc2_2 loc2_3 loc2_4, h => t13_h3_ok k rec ih t85 t86 loc3_0 loc3_1 loc3_2 loc3_3 loc3_4 loc2_0 loc2_1 loc2_2 loc2_3 loc2_4 r h
theorem ev13 {k : Nat} {a0_0 : Int} {a0_1 : Int} {a0_2 : Rs} {a0_3 : Rs} {a0_4 : Rs} {b1_0 : Int} {b1_1 : Int} {b1_2 : Rs} {b1_3 : Rs} {b1_4 : Rs} {r : R13} (h : g13 k a0_0 a0_1 a0_2 a0_3 a0_4 b1_0 b1_1 b1_2 b1_3 b1_4 = some r) : Ev Try.prog noHand 13 [.ag [ic a0_0, ic a0_1, .imm a0_2, .imm a0_3, .imm a0_4], .ag [ic b1_0, ic b1_1, .imm b1_2, .imm b1_3, .imm b1_4]] [] (res13 r) (bx13 r) := evr13 (ok13 _ _ _ h)
end Ab
end Go.Proofs.Ytebmcaceklbopaa
