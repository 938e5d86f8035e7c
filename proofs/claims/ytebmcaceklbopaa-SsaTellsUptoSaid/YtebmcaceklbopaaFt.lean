/-
  Functions' ways, printed by a program: what each computes, and that this is what the interpreter computes.
-/
import Derived.Test.YtebmcaceklbopaaAwake
import Derived.KernelRfl
namespace Go.Proofs.Ytebmcaceklbopaa
namespace Ab
def un_i {α : Type} (row : List Cell) (k : Int → Option α) : Option α := match row with
  | [.val (.int .i64 x0)] => k x0
  | _ => none
theorem un_i_or {α : Type} {row : List Cell} {k : Int → Option α} {r : α} (h : un_i row k = some r) : ∃ x0, row = [.val (.int .i64 x0)] ∧ k x0 = some r := by
  unfold un_i at h
  split at h
  · exact ⟨_, rfl, h⟩
  · cases h
def un_i4 {α : Type} (row : List Cell) (k : Int → Int → Int → Int → Option α) : Option α := match row with
  | [.val (.int .i64 x0), .val (.int .i64 x1), .val (.int .i64 x2), .val (.int .i64 x3)] => k x0 x1 x2 x3
  | _ => none
theorem un_i4_or {α : Type} {row : List Cell} {k : Int → Int → Int → Int → Option α} {r : α} (h : un_i4 row k = some r) : ∃ x0 x1 x2 x3, row = [.val (.int .i64 x0), .val (.int .i64 x1), .val (.int .i64 x2), .val (.int .i64 x3)] ∧ k x0 x1 x2 x3 = some r := by
  unfold un_i4 at h
  split at h
  · exact ⟨_, _, _, _, rfl, h⟩
  · cases h
-- auspice/value.numeric
inductive S44 where
  | e (k0 : Int)
abbrev R44 := Bool
def res44 : R44 → ARes
  | r => .ret (.c (bc r))
def bx44 : R44 → List (List Cell)
  | r => []
noncomputable def t44_e (k : Nat) (rec : S44 → Option R44) (k0 : Int) : Option R44 :=
  bif k0 == 1 then
    some true
  else
    some (k0 == 4)
noncomputable def step44 (k : Nat) (rec : S44 → Option R44) : S44 → Option R44
  | .e k0 => t44_e k rec k0
noncomputable def g44 (k : Nat) (k0 : Int) : Option R44 := itS step44 k (.e k0)
noncomputable def P44 : S44 → R44 → Prop
  | .e k0, r => Fin cx44 Try.f44 [.code body44] (fr0 Try.f44 [.c (ic k0)] []) (res44 r) (bx44 r)
theorem evr44 {k0 : Int} {r : R44} (h : P44 (.e k0) r) : Ev Try.prog noHand 44 [.c (ic k0)] [] (res44 r) (bx44 r) := ev_of_fin (fn := Try.f44) (body := body44) (by kernel_rfl) (by kernel_rfl) (by kernel_rfl) rfl h
theorem t44_e_ok (k : Nat) (rec : S44 → Option R44) (ih : ∀ s r, rec s = some r → P44 s r) (k0 : Int) (r : R44) (h : t44_e k rec k0 = some r) : P44 (.e k0) r := by
  unfold t44_e at h
  rcases bif_or h with ⟨h1, h⟩ | ⟨h1, h⟩
  ·
    rw [← Option.some.inj h]
    exact mgo_fin (nb := 0) hmix (n := 2000) (ad := [(some 4, .test true)]) (ps := [_]) (by kernel_rfl) ⟨h1, trivial⟩
  ·
    rw [← Option.some.inj h]
    exact mgo_fin (nb := 0) hmix (n := 2000) (ad := [(some 4, .test false)]) (ps := [_]) (by kernel_rfl) ⟨h1, trivial⟩
theorem ok44 : ∀ k s r, itS step44 k s = some r → P44 s r := itS_ok fun k rec ih s r h => match s, h with
  | .e k0, h => t44_e_ok k rec ih k0 r h
theorem ev44 {k : Nat} {k0 : Int} {r : R44} (h : g44 k k0 = some r) : Ev Try.prog noHand 44 [.c (ic k0)] [] (res44 r) (bx44 r) := evr44 (ok44 _ _ _ h)
-- auspice/value.one
inductive S42 where
  | e (op0 : Int) (k1 : Int)
  | h0 (op0 : Int) (k1 : Int) (t5 : Bool)
  | h1 (op0 : Int) (k1 : Int) (t13 : Bool)
  | h2 (op0 : Int) (k1 : Int) (t20 : Bool)
  | h3 (t27 : Bool)
abbrev R42 := Int
def res42 : R42 → ARes
  | r => .ret (.c (ic r))
def bx42 : R42 → List (List Cell)
  | r => []
noncomputable def t42_e (k : Nat) (rec : S42 → Option R42) (op0 : Int) (k1 : Int) : Option R42 :=
  bif op0 == 6 then
    (g44 k k1).bind fun v2 =>
    rec (.h0 op0 k1 v2)
  else
    rec (.h0 op0 k1 false)
noncomputable def t42_h0 (k : Nat) (rec : S42 → Option R42) (op0 : Int) (k1 : Int) (t5 : Bool) : Option R42 :=
  bif t5 then
    some k1
  else
    bif op0 == 15 then
      rec (.h1 op0 k1 (k1 == 2))
    else
      rec (.h1 op0 k1 false)
noncomputable def t42_h1 (k : Nat) (rec : S42 → Option R42) (op0 : Int) (k1 : Int) (t13 : Bool) : Option R42 :=
  bif t13 then
    some 2
  else
    bif op0 == 16 then
      rec (.h2 op0 k1 (k1 == 1))
    else
      rec (.h2 op0 k1 false)
noncomputable def t42_h2 (k : Nat) (rec : S42 → Option R42) (op0 : Int) (k1 : Int) (t20 : Bool) : Option R42 :=
  bif t20 then
    some 4
  else
    bif op0 == 17 then
      rec (.h3 (k1 == 4))
    else
      rec (.h3 false)
noncomputable def t42_h3 (k : Nat) (rec : S42 → Option R42) (t27 : Bool) : Option R42 :=
  bif t27 then
    some 2
  else
    some 0
noncomputable def step42 (k : Nat) (rec : S42 → Option R42) : S42 → Option R42
  | .e op0 k1 => t42_e k rec op0 k1
  | .h0 op0 k1 t5 => t42_h0 k rec op0 k1 t5
  | .h1 op0 k1 t13 => t42_h1 k rec op0 k1 t13
  | .h2 op0 k1 t20 => t42_h2 k rec op0 k1 t20
  | .h3 t27 => t42_h3 k rec t27
noncomputable def g42 (k : Nat) (op0 : Int) (k1 : Int) : Option R42 := itS step42 k (.e op0 k1)
noncomputable def P42 : S42 → R42 → Prop
  | .e op0 k1, r => Fin cx42 Try.f42 [.code body42] (fr0 Try.f42 [.c (ic op0), .c (ic k1)] []) (res42 r) (bx42 r)
  | .h0 op0 k1 t5, r => Fin cx42 Try.f42 (kAt body42 [1, 0, 0, 1, 2] []) ⟨[.c (ic op0), .c (ic k1)] ++ rep 3 .deadv ++ [.c (bc t5)] ++ rep 28 .deadv, []⟩ (res42 r) (bx42 r)
  | .h1 op0 k1 t13, r => Fin cx42 Try.f42 (kAt body42 [1, 0, 0, 1, 1, 1, 2] []) ⟨[.c (ic op0), .c (ic k1)] ++ rep 11 .deadv ++ [.c (bc t13)] ++ rep 20 .deadv, []⟩ (res42 r) (bx42 r)
  | .h2 op0 k1 t20, r => Fin cx42 Try.f42 (kAt body42 [1, 0, 0, 1, 1, 1, 1, 1, 2] []) ⟨[.c (ic op0), .c (ic k1)] ++ rep 18 .deadv ++ [.c (bc t20)] ++ rep 13 .deadv, []⟩ (res42 r) (bx42 r)
  | .h3 t27, r => Fin cx42 Try.f42 (kAt body42 [1, 0, 0, 1, 1, 1, 1, 1, 1, 1, 2] []) ⟨rep 27 .deadv ++ [.c (bc t27)] ++ rep 6 .deadv, []⟩ (res42 r) (bx42 r)
theorem evr42 {op0 : Int} {k1 : Int} {r : R42} (h : P42 (.e op0 k1) r) : Ev Try.prog noHand 42 [.c (ic op0), .c (ic k1)] [] (res42 r) (bx42 r) := ev_of_fin (fn := Try.f42) (body := body42) (by kernel_rfl) (by kernel_rfl) (by kernel_rfl) rfl h
theorem t42_e_ok (k : Nat) (rec : S42 → Option R42) (ih : ∀ s r, rec s = some r → P42 s r) (op0 : Int) (k1 : Int) (r : R42) (h : t42_e k rec op0 k1 = some r) : P42 (.e op0 k1) r := by
  unfold t42_e at h
  rcases bif_or h with ⟨h1, h⟩ | ⟨h1, h⟩
  ·
    obtain ⟨v2, h3, h⟩ := bd_or h
    exact mgo_at (nb := 0) hmix (ih _ _ h) (n := 6) (ad := [(some 7, .test true), (some 10, .call (.ret (.c (bc v2))) [] false)]) (ps := [_, _]) (m := bm 34 17179869148) (ls := []) (by kernel_rfl) ⟨h1, (ev44 h3), trivial⟩
  ·
    exact mgo_at (nb := 0) hmix (ih _ _ h) (n := 6) (ad := [(some 7, .test false)]) (ps := [_]) (m := bm 34 17179869148) (ls := []) (by kernel_rfl) ⟨h1, trivial⟩
theorem t42_h0_ok (k : Nat) (rec : S42 → Option R42) (ih : ∀ s r, rec s = some r → P42 s r) (op0 : Int) (k1 : Int) (t5 : Bool) (r : R42) (h : t42_h0 k rec op0 k1 t5 = some r) : P42 (.h0 op0 k1 t5) r := by
  unfold t42_h0 at h
  rcases bif_or h with ⟨hq, h1'⟩ | ⟨hq, h1'⟩
  · clear h; subst hq; have h := h1'; clear h1'
    rw [← Option.some.inj h]
    exact mgo_fin (nb := 0) hmix (n := 2000) (ad := []) (ps := []) (by kernel_rfl) trivial
  · clear h; subst hq; have h := h1'; clear h1'
    rcases bif_or h with ⟨h1, h⟩ | ⟨h1, h⟩
    ·
      exact mgo_at (nb := 0) hmix (ih _ _ h) (n := 3) (ad := [(some 15, .test true)]) (ps := [_]) (m := bm 34 17179860988) (ls := []) (by kernel_rfl) ⟨h1, trivial⟩
    ·
      exact mgo_at (nb := 0) hmix (ih _ _ h) (n := 3) (ad := [(some 15, .test false)]) (ps := [_]) (m := bm 34 17179860988) (ls := []) (by kernel_rfl) ⟨h1, trivial⟩
theorem t42_h1_ok (k : Nat) (rec : S42 → Option R42) (ih : ∀ s r, rec s = some r → P42 s r) (op0 : Int) (k1 : Int) (t13 : Bool) (r : R42) (h : t42_h1 k rec op0 k1 t13 = some r) : P42 (.h1 op0 k1 t13) r := by
  unfold t42_h1 at h
  rcases bif_or h with ⟨hq, h1'⟩ | ⟨hq, h1'⟩
  · clear h; subst hq; have h := h1'; clear h1'
    rw [← Option.some.inj h]
    exact mgo_fin (nb := 0) hmix (n := 2000) (ad := []) (ps := []) (by kernel_rfl) trivial
  · clear h; subst hq; have h := h1'; clear h1'
    rcases bif_or h with ⟨h1, h⟩ | ⟨h1, h⟩
    ·
      exact mgo_at (nb := 0) hmix (ih _ _ h) (n := 3) (ad := [(some 22, .test true)]) (ps := [_]) (m := bm 34 17178820604) (ls := []) (by kernel_rfl) ⟨h1, trivial⟩
    ·
      exact mgo_at (nb := 0) hmix (ih _ _ h) (n := 3) (ad := [(some 22, .test false)]) (ps := [_]) (m := bm 34 17178820604) (ls := []) (by kernel_rfl) ⟨h1, trivial⟩
theorem t42_h2_ok (k : Nat) (rec : S42 → Option R42) (ih : ∀ s r, rec s = some r → P42 s r) (op0 : Int) (k1 : Int) (t20 : Bool) (r : R42) (h : t42_h2 k rec op0 k1 t20 = some r) : P42 (.h2 op0 k1 t20) r := by
  unfold t42_h2 at h
  rcases bif_or h with ⟨hq, h1'⟩ | ⟨hq, h1'⟩
  · clear h; subst hq; have h := h1'; clear h1'
    rw [← Option.some.inj h]
    exact mgo_fin (nb := 0) hmix (n := 2000) (ad := []) (ps := []) (by kernel_rfl) trivial
  · clear h; subst hq; have h := h1'; clear h1'
    rcases bif_or h with ⟨h1, h⟩ | ⟨h1, h⟩
    ·
      exact mgo_at (nb := 0) hmix (ih _ _ h) (n := 3) (ad := [(some 29, .test true)]) (ps := [_]) (m := bm 34 17045651455) (ls := []) (by kernel_rfl) ⟨h1, trivial⟩
    ·
      exact mgo_at (nb := 0) hmix (ih _ _ h) (n := 3) (ad := [(some 29, .test false)]) (ps := [_]) (m := bm 34 17045651455) (ls := []) (by kernel_rfl) ⟨h1, trivial⟩
theorem t42_h3_ok (k : Nat) (rec : S42 → Option R42) (ih : ∀ s r, rec s = some r → P42 s r) (t27 : Bool) (r : R42) (h : t42_h3 k rec t27 = some r) : P42 (.h3 t27) r := by
  unfold t42_h3 at h
  rcases bif_or h with ⟨hq, h1'⟩ | ⟨hq, h1'⟩
  · clear h; subst hq; have h := h1'; clear h1'
    rw [← Option.some.inj h]
    exact mgo_fin (nb := 0) hmix (n := 2000) (ad := []) (ps := []) (by kernel_rfl) trivial
  · clear h; subst hq; have h := h1'; clear h1'
    rw [← Option.some.inj h]
    exact mgo_fin (nb := 0) hmix (n := 2000) (ad := []) (ps := []) (by kernel_rfl) trivial
theorem ok42 : ∀ k s r, itS step42 k s = some r → P42 s r := itS_ok fun k rec ih s r h => match s, h with
  | .e op0 k1, h => t42_e_ok k rec ih op0 k1 r h
  | .h0 op0 k1 t5, h => t42_h0_ok k rec ih op0 k1 t5 r h
  | .h1 op0 k1 t13, h => t42_h1_ok k rec ih op0 k1 t13 r h
  | .h2 op0 k1 t20, h => t42_h2_ok k rec ih op0 k1 t20 r h
  | .h3 t27, h => t42_h3_ok k rec ih t27 r h
theorem ev42 {k : Nat} {op0 : Int} {k1 : Int} {r : R42} (h : g42 k op0 k1 = some r) : Ev Try.prog noHand 42 [.c (ic op0), .c (ic k1)] [] (res42 r) (bx42 r) := evr42 (ok42 _ _ _ h)
-- auspice/value.two
inductive S43 where
  | e (op0 : Int) (k1 : Int)
  | h0 (op0 : Int) (k1 : Int) (t5 : Bool)
  | h1 (op0 : Int) (k1 : Int) (t5 : Bool)
  | h2 (op0 : Int) (k1 : Int) (t23 : Bool)
  | h3 (op0 : Int) (k1 : Int) (t23 : Bool)
  | h4 (t48 : Bool)
abbrev R43 := Int
def res43 : R43 → ARes
  | r => .ret (.c (ic r))
def bx43 : R43 → List (List Cell)
  | r => []
noncomputable def t43_e (k : Nat) (rec : S43 → Option R43) (op0 : Int) (k1 : Int) : Option R43 :=
  bif decide (op0 ≥ 1) then
    bif decide (op0 ≤ 4) then
      (g44 k k1).bind fun v3 =>
      rec (.h0 op0 k1 v3)
    else
      rec (.h0 op0 k1 false)
  else
    rec (.h0 op0 k1 false)
noncomputable def t43_h0 (k : Nat) (rec : S43 → Option R43) (op0 : Int) (k1 : Int) (t5 : Bool) : Option R43 :=
  bif t5 then
    rec (.h1 op0 k1 t5)
  else
    bif op0 == 5 then
      rec (.h1 op0 k1 (k1 == 1))
    else
      rec (.h1 op0 k1 false)
noncomputable def t43_h1 (k : Nat) (rec : S43 → Option R43) (op0 : Int) (k1 : Int) (t5 : Bool) : Option R43 :=
  bif t5 then
    some k1
  else
    bif op0 == 7 then
      bif decide (k1 ≥ 1) then
        rec (.h2 op0 k1 (decide (k1 ≤ 4)))
      else
        rec (.h2 op0 k1 false)
    else
      bif op0 == 8 then
        bif decide (k1 ≥ 1) then
          rec (.h2 op0 k1 (decide (k1 ≤ 4)))
        else
          rec (.h2 op0 k1 false)
      else
        rec (.h2 op0 k1 false)
noncomputable def t43_h2 (k : Nat) (rec : S43 → Option R43) (op0 : Int) (k1 : Int) (t23 : Bool) : Option R43 :=
  bif t23 then
    rec (.h3 op0 k1 t23)
  else
    bif decide (op0 ≥ 9) then
      bif decide (op0 ≤ 12) then
        (g44 k k1).bind fun v3 =>
        rec (.h3 op0 k1 v3)
      else
        rec (.h3 op0 k1 false)
    else
      rec (.h3 op0 k1 false)
noncomputable def t43_h3 (k : Nat) (rec : S43 → Option R43) (op0 : Int) (k1 : Int) (t23 : Bool) : Option R43 :=
  bif t23 then
    some 2
  else
    bif op0 == 13 then
      rec (.h4 (k1 == 2))
    else
      bif op0 == 14 then
        rec (.h4 (k1 == 2))
      else
        rec (.h4 false)
noncomputable def t43_h4 (k : Nat) (rec : S43 → Option R43) (t48 : Bool) : Option R43 :=
  bif t48 then
    some 2
  else
    some 0
noncomputable def step43 (k : Nat) (rec : S43 → Option R43) : S43 → Option R43
  | .e op0 k1 => t43_e k rec op0 k1
  | .h0 op0 k1 t5 => t43_h0 k rec op0 k1 t5
  | .h1 op0 k1 t5 => t43_h1 k rec op0 k1 t5
  | .h2 op0 k1 t23 => t43_h2 k rec op0 k1 t23
  | .h3 op0 k1 t23 => t43_h3 k rec op0 k1 t23
  | .h4 t48 => t43_h4 k rec t48
noncomputable def g43 (k : Nat) (op0 : Int) (k1 : Int) : Option R43 := itS step43 k (.e op0 k1)
noncomputable def P43 : S43 → R43 → Prop
  | .e op0 k1, r => Fin cx43 Try.f43 [.code body43] (fr0 Try.f43 [.c (ic op0), .c (ic k1)] []) (res43 r) (bx43 r)
  | .h0 op0 k1 t5, r => Fin cx43 Try.f43 (kAt body43 [1, 0, 0, 0, 1, 2] []) ⟨[.c (ic op0), .c (ic k1)] ++ rep 3 .deadv ++ [.c (bc t5)] ++ rep 53 .deadv, []⟩ (res43 r) (bx43 r)
  | .h1 op0 k1 t5, r => Fin cx43 Try.f43 (kAt body43 [1, 0, 0, 1, 2] []) ⟨[.c (ic op0), .c (ic k1)] ++ rep 3 .deadv ++ [.c (bc t5)] ++ rep 53 .deadv, []⟩ (res43 r) (bx43 r)
  | .h2 op0 k1 t23, r => Fin cx43 Try.f43 (kAt body43 [1, 0, 0, 1, 1, 0, 1, 2] []) ⟨[.c (ic op0), .c (ic k1)] ++ rep 21 .deadv ++ [.c (bc t23)] ++ rep 35 .deadv, []⟩ (res43 r) (bx43 r)
  | .h3 op0 k1 t23, r => Fin cx43 Try.f43 (kAt body43 [1, 0, 0, 1, 1, 1, 2] []) ⟨[.c (ic op0), .c (ic k1)] ++ rep 21 .deadv ++ [.c (bc t23)] ++ rep 35 .deadv, []⟩ (res43 r) (bx43 r)
  | .h4 t48, r => Fin cx43 Try.f43 (kAt body43 [1, 0, 0, 1, 1, 1, 1, 1, 2] []) ⟨rep 48 .deadv ++ [.c (bc t48)] ++ rep 10 .deadv, []⟩ (res43 r) (bx43 r)
theorem evr43 {op0 : Int} {k1 : Int} {r : R43} (h : P43 (.e op0 k1) r) : Ev Try.prog noHand 43 [.c (ic op0), .c (ic k1)] [] (res43 r) (bx43 r) := ev_of_fin (fn := Try.f43) (body := body43) (by kernel_rfl) (by kernel_rfl) (by kernel_rfl) rfl h
theorem t43_e_ok (k : Nat) (rec : S43 → Option R43) (ih : ∀ s r, rec s = some r → P43 s r) (op0 : Int) (k1 : Int) (r : R43) (h : t43_e k rec op0 k1 = some r) : P43 (.e op0 k1) r := by
  unfold t43_e at h
  rcases bif_or h with ⟨h1, h⟩ | ⟨h1, h⟩
  ·
    rcases bif_or h with ⟨h2, h⟩ | ⟨h2, h⟩
    ·
      obtain ⟨v3, h4, h⟩ := bd_or h
      exact mgo_at (nb := 0) hmix (ih _ _ h) (n := 7) (ad := [(some 7, .test true), (some 10, .test true), (some 14, .call (.ret (.c (bc v3))) [] false)]) (ps := [_, _, _]) (m := bm 59 576460752303423452) (ls := []) (by kernel_rfl) ⟨h1, h2, (ev44 h4), trivial⟩
    ·
      exact mgo_at (nb := 0) hmix (ih _ _ h) (n := 7) (ad := [(some 7, .test true), (some 10, .test false)]) (ps := [_, _]) (m := bm 59 576460752303423452) (ls := []) (by kernel_rfl) ⟨h1, h2, trivial⟩
  ·
    exact mgo_at (nb := 0) hmix (ih _ _ h) (n := 7) (ad := [(some 7, .test false)]) (ps := [_]) (m := bm 59 576460752303423452) (ls := []) (by kernel_rfl) ⟨h1, trivial⟩
theorem t43_h0_ok (k : Nat) (rec : S43 → Option R43) (ih : ∀ s r, rec s = some r → P43 s r) (op0 : Int) (k1 : Int) (t5 : Bool) (r : R43) (h : t43_h0 k rec op0 k1 t5 = some r) : P43 (.h0 op0 k1 t5) r := by
  unfold t43_h0 at h
  rcases bif_or h with ⟨hq, h1'⟩ | ⟨hq, h1'⟩
  · clear h; subst hq; have h := h1'; clear h1'
    exact mgo_at (nb := 0) hmix (ih _ _ h) (n := 2) (ad := []) (ps := []) (m := bm 59 576460752303423452) (ls := []) (by kernel_rfl) trivial
  · clear h; subst hq; have h := h1'; clear h1'
    rcases bif_or h with ⟨h1, h⟩ | ⟨h1, h⟩
    ·
      exact mgo_at (nb := 0) hmix (ih _ _ h) (n := 2) (ad := [(some 17, .test true)]) (ps := [_]) (m := bm 59 576460752303423452) (ls := []) (by kernel_rfl) ⟨h1, trivial⟩
    ·
      exact mgo_at (nb := 0) hmix (ih _ _ h) (n := 2) (ad := [(some 17, .test false)]) (ps := [_]) (m := bm 59 576460752303423452) (ls := []) (by kernel_rfl) ⟨h1, trivial⟩
theorem t43_h1_ok (k : Nat) (rec : S43 → Option R43) (ih : ∀ s r, rec s = some r → P43 s r) (op0 : Int) (k1 : Int) (t5 : Bool) (r : R43) (h : t43_h1 k rec op0 k1 t5 = some r) : P43 (.h1 op0 k1 t5) r := by
  unfold t43_h1 at h
  rcases bif_or h with ⟨hq, h1'⟩ | ⟨hq, h1'⟩
  · clear h; subst hq; have h := h1'; clear h1'
    rw [← Option.some.inj h]
    exact mgo_fin (nb := 0) hmix (n := 2000) (ad := []) (ps := []) (by kernel_rfl) trivial
  · clear h; subst hq; have h := h1'; clear h1'
    rcases bif_or h with ⟨h1, h⟩ | ⟨h1, h⟩
    ·
      rcases bif_or h with ⟨h2, h⟩ | ⟨h2, h⟩
      ·
        exact mgo_at (nb := 0) hmix (ih _ _ h) (n := 4) (ad := [(some 25, .test true), (some 32, .test true)]) (ps := [_, _]) (m := bm 59 576460752295034876) (ls := []) (by kernel_rfl) ⟨h1, h2, trivial⟩
      ·
        exact mgo_at (nb := 0) hmix (ih _ _ h) (n := 4) (ad := [(some 25, .test true), (some 32, .test false)]) (ps := [_, _]) (m := bm 59 576460752295034876) (ls := []) (by kernel_rfl) ⟨h1, h2, trivial⟩
    ·
      rcases bif_or h with ⟨h2, h⟩ | ⟨h2, h⟩
      ·
        rcases bif_or h with ⟨h3, h⟩ | ⟨h3, h⟩
        ·
          exact mgo_at (nb := 0) hmix (ih _ _ h) (n := 4) (ad := [(some 25, .test false), (some 28, .test true), (some 32, .test true)]) (ps := [_, _, _]) (m := bm 59 576460752295034876) (ls := []) (by kernel_rfl) ⟨h1, h2, h3, trivial⟩
        ·
          exact mgo_at (nb := 0) hmix (ih _ _ h) (n := 4) (ad := [(some 25, .test false), (some 28, .test true), (some 32, .test false)]) (ps := [_, _, _]) (m := bm 59 576460752295034876) (ls := []) (by kernel_rfl) ⟨h1, h2, h3, trivial⟩
      ·
        exact mgo_at (nb := 0) hmix (ih _ _ h) (n := 4) (ad := [(some 25, .test false), (some 28, .test false)]) (ps := [_, _]) (m := bm 59 576460752295034876) (ls := []) (by kernel_rfl) ⟨h1, h2, trivial⟩
theorem t43_h2_ok (k : Nat) (rec : S43 → Option R43) (ih : ∀ s r, rec s = some r → P43 s r) (op0 : Int) (k1 : Int) (t23 : Bool) (r : R43) (h : t43_h2 k rec op0 k1 t23 = some r) : P43 (.h2 op0 k1 t23) r := by
  unfold t43_h2 at h
  rcases bif_or h with ⟨hq, h1'⟩ | ⟨hq, h1'⟩
  · clear h; subst hq; have h := h1'; clear h1'
    exact mgo_at (nb := 0) hmix (ih _ _ h) (n := 2) (ad := []) (ps := []) (m := bm 59 576460752295034876) (ls := []) (by kernel_rfl) trivial
  · clear h; subst hq; have h := h1'; clear h1'
    rcases bif_or h with ⟨h1, h⟩ | ⟨h1, h⟩
    ·
      rcases bif_or h with ⟨h2, h⟩ | ⟨h2, h⟩
      ·
        obtain ⟨v3, h4, h⟩ := bd_or h
        exact mgo_at (nb := 0) hmix (ih _ _ h) (n := 2) (ad := [(some 39, .test true), (some 42, .test true), (some 46, .call (.ret (.c (bc v3))) [] false)]) (ps := [_, _, _]) (m := bm 59 576460752295034876) (ls := []) (by kernel_rfl) ⟨h1, h2, (ev44 h4), trivial⟩
      ·
        exact mgo_at (nb := 0) hmix (ih _ _ h) (n := 2) (ad := [(some 39, .test true), (some 42, .test false)]) (ps := [_, _]) (m := bm 59 576460752295034876) (ls := []) (by kernel_rfl) ⟨h1, h2, trivial⟩
    ·
      exact mgo_at (nb := 0) hmix (ih _ _ h) (n := 2) (ad := [(some 39, .test false)]) (ps := [_]) (m := bm 59 576460752295034876) (ls := []) (by kernel_rfl) ⟨h1, trivial⟩
theorem t43_h3_ok (k : Nat) (rec : S43 → Option R43) (ih : ∀ s r, rec s = some r → P43 s r) (op0 : Int) (k1 : Int) (t23 : Bool) (r : R43) (h : t43_h3 k rec op0 k1 t23 = some r) : P43 (.h3 op0 k1 t23) r := by
  unfold t43_h3 at h
  rcases bif_or h with ⟨hq, h1'⟩ | ⟨hq, h1'⟩
  · clear h; subst hq; have h := h1'; clear h1'
    rw [← Option.some.inj h]
    exact mgo_fin (nb := 0) hmix (n := 2000) (ad := []) (ps := []) (by kernel_rfl) trivial
  · clear h; subst hq; have h := h1'; clear h1'
    rcases bif_or h with ⟨h1, h⟩ | ⟨h1, h⟩
    ·
      exact mgo_at (nb := 0) hmix (ih _ _ h) (n := 3) (ad := [(some 50, .test true)]) (ps := [_]) (m := bm 59 576179277326712831) (ls := []) (by kernel_rfl) ⟨h1, trivial⟩
    ·
      rcases bif_or h with ⟨h2, h⟩ | ⟨h2, h⟩
      ·
        exact mgo_at (nb := 0) hmix (ih _ _ h) (n := 3) (ad := [(some 50, .test false), (some 53, .test true)]) (ps := [_, _]) (m := bm 59 576179277326712831) (ls := []) (by kernel_rfl) ⟨h1, h2, trivial⟩
      ·
        exact mgo_at (nb := 0) hmix (ih _ _ h) (n := 3) (ad := [(some 50, .test false), (some 53, .test false)]) (ps := [_, _]) (m := bm 59 576179277326712831) (ls := []) (by kernel_rfl) ⟨h1, h2, trivial⟩
theorem t43_h4_ok (k : Nat) (rec : S43 → Option R43) (ih : ∀ s r, rec s = some r → P43 s r) (t48 : Bool) (r : R43) (h : t43_h4 k rec t48 = some r) : P43 (.h4 t48) r := by
  unfold t43_h4 at h
  rcases bif_or h with ⟨hq, h1'⟩ | ⟨hq, h1'⟩
  · clear h; subst hq; have h := h1'; clear h1'
    rw [← Option.some.inj h]
    exact mgo_fin (nb := 0) hmix (n := 2000) (ad := []) (ps := []) (by kernel_rfl) trivial
  · clear h; subst hq; have h := h1'; clear h1'
    rw [← Option.some.inj h]
    exact mgo_fin (nb := 0) hmix (n := 2000) (ad := []) (ps := []) (by kernel_rfl) trivial
theorem ok43 : ∀ k s r, itS step43 k s = some r → P43 s r := itS_ok fun k rec ih s r h => match s, h with
  | .e op0 k1, h => t43_e_ok k rec ih op0 k1 r h
  | .h0 op0 k1 t5, h => t43_h0_ok k rec ih op0 k1 t5 r h
  | .h1 op0 k1 t5, h => t43_h1_ok k rec ih op0 k1 t5 r h
  | .h2 op0 k1 t23, h => t43_h2_ok k rec ih op0 k1 t23 r h
  | .h3 op0 k1 t23, h => t43_h3_ok k rec ih op0 k1 t23 r h
  | .h4 t48, h => t43_h4_ok k rec ih t48 r h
theorem ev43 {k : Nat} {op0 : Int} {k1 : Int} {r : R43} (h : g43 k op0 k1 = some r) : Ev Try.prog noHand 43 [.c (ic op0), .c (ic k1)] [] (res43 r) (bx43 r) := evr43 (ok43 _ _ _ h)
-- auspice/value.Result
inductive S41 where
  | e (op0 : Int) (kinds1 : Rs)
  | h0
abbrev R41 := Int
def res41 : R41 → ARes
  | r => .ret (.c (ic r))
def bx41 : R41 → List (List Cell)
  | r => []
noncomputable def t41_e (k : Nat) (rec : S41 → Option R41) (op0 : Int) (kinds1 : Rs) : Option R41 :=
  bif (kinds1.length : Int) == 1 then
    ixR kinds1 0 fun w2 =>
    un_i w2 fun x4 =>
    (g42 k op0 x4).bind fun v5 =>
    some v5
  else
    bif (kinds1.length : Int) == 2 then
      ixR kinds1 0 fun w3 =>
      un_i w3 fun x5 =>
      ixR kinds1 1 fun w6 =>
      un_i w6 fun x8 =>
      bif x5 == x8 then
        (g43 k op0 x5).bind fun v10 =>
        some v10
      else
        rec (.h0)
    else
      rec (.h0)
noncomputable def t41_h0 (k : Nat) (rec : S41 → Option R41) : Option R41 :=
  some 0
noncomputable def step41 (k : Nat) (rec : S41 → Option R41) : S41 → Option R41
  | .e op0 kinds1 => t41_e k rec op0 kinds1
  | .h0 => t41_h0 k rec
noncomputable def g41 (k : Nat) (op0 : Int) (kinds1 : Rs) : Option R41 := itS step41 k (.e op0 kinds1)
noncomputable def P41 : S41 → R41 → Prop
  | .e op0 kinds1, r => Fin cx41 Try.f41 [.code body41] (fr0 Try.f41 [.c (ic op0), .c (.imm kinds1)] []) (res41 r) (bx41 r)
  | .h0, r => Fin cx41 Try.f41 (kAt body41 [1, 1, 2] []) ⟨rep 28 .deadv, []⟩ (res41 r) (bx41 r)
theorem evr41 {op0 : Int} {kinds1 : Rs} {r : R41} (h : P41 (.e op0 kinds1) r) : Ev Try.prog noHand 41 [.c (ic op0), .c (.imm kinds1)] [] (res41 r) (bx41 r) := ev_of_fin (fn := Try.f41) (body := body41) (by kernel_rfl) (by kernel_rfl) (by kernel_rfl) rfl h
theorem t41_e_ok (k : Nat) (rec : S41 → Option R41) (ih : ∀ s r, rec s = some r → P41 s r) (op0 : Int) (kinds1 : Rs) (r : R41) (h : t41_e k rec op0 kinds1 = some r) : P41 (.e op0 kinds1) r := by
  unfold t41_e at h
  rcases bif_or h with ⟨h1, h⟩ | ⟨h1, h⟩
  ·
    obtain ⟨w2, h3, h⟩ := ixR_or h
    obtain ⟨x4, hq, h1'⟩ := un_i_or h
    clear h; subst hq; have h := h1'; clear h1'
    obtain ⟨v5, h6, h⟩ := bd_or h
    rw [← Option.some.inj h]
    exact mgo_fin (nb := 0) hmix (n := 2000) (ad := [(some 8, .test true), (some 11, .row [ic x4]), (some 13, .call (.ret (.c (ic v5))) [] false)]) (ps := [_, _, _]) (by kernel_rfl) ⟨h1, ix_row h3 rfl, (ev42 h6), trivial⟩
  ·
    rcases bif_or h with ⟨h2, h⟩ | ⟨h2, h⟩
    ·
      obtain ⟨w3, h4, h⟩ := ixR_or h
      obtain ⟨x5, hq, h1'⟩ := un_i_or h
      clear h; subst hq; have h := h1'; clear h1'
      obtain ⟨w6, h7, h⟩ := ixR_or h
      obtain ⟨x8, hq, h1'⟩ := un_i_or h
      clear h; subst hq; have h := h1'; clear h1'
      rcases bif_or h with ⟨h9, h⟩ | ⟨h9, h⟩
      ·
        obtain ⟨v10, h11, h⟩ := bd_or h
        rw [← Option.some.inj h]
        exact mgo_fin (nb := 0) hmix (n := 2000) (ad := [(some 8, .test false), (some 15, .test true), (some 17, .row [ic x5]), (some 20, .row [ic x8]), (some 22, .test true), (some 25, .row [ic x5]), (some 27, .call (.ret (.c (ic v10))) [] false)]) (ps := [_, _, _, _, _, _, _]) (by kernel_rfl) ⟨h1, h2, ix_row h4 rfl, ix_row h7 rfl, h9, ix_row h4 rfl, (ev43 h11), trivial⟩
      ·
        exact mgo_at (nb := 0) hmix (ih _ _ h) (n := 17) (ad := [(some 8, .test false), (some 15, .test true), (some 17, .row [ic x5]), (some 20, .row [ic x8]), (some 22, .test false)]) (ps := [_, _, _, _, _]) (m := bm 28 268435455) (ls := []) (by kernel_rfl) ⟨h1, h2, ix_row h4 rfl, ix_row h7 rfl, h9, trivial⟩
    ·
      exact mgo_at (nb := 0) hmix (ih _ _ h) (n := 14) (ad := [(some 8, .test false), (some 15, .test false)]) (ps := [_, _]) (m := bm 28 268435455) (ls := []) (by kernel_rfl) ⟨h1, h2, trivial⟩
theorem t41_h0_ok (k : Nat) (rec : S41 → Option R41) (ih : ∀ s r, rec s = some r → P41 s r) (r : R41) (h : t41_h0 k rec = some r) : P41 (.h0) r := by
  unfold t41_h0 at h
  rw [← Option.some.inj h]
  exact mgo_fin (nb := 0) hmix (n := 2000) (ad := []) (ps := []) (by kernel_rfl) trivial
theorem ok41 : ∀ k s r, itS step41 k s = some r → P41 s r := itS_ok fun k rec ih s r h => match s, h with
  | .e op0 kinds1, h => t41_e_ok k rec ih op0 kinds1 r h
  | .h0, h => t41_h0_ok k rec ih r h
theorem ev41 {k : Nat} {op0 : Int} {kinds1 : Rs} {r : R41} (h : g41 k op0 kinds1 = some r) : Ev Try.prog noHand 41 [.c (ic op0), .c (.imm kinds1)] [] (res41 r) (bx41 r) := evr41 (ok41 _ _ _ h)
-- auspice/ssa.operands
inductive S30 where
  | e (op0 : Int)
  | h0 (op0 : Int) (t3 : Bool)
  | h1 (t16 : Bool)
abbrev R30 := Int
def res30 : R30 → ARes
  | r => .ret (.c (ic r))
def bx30 : R30 → List (List Cell)
  | r => []
noncomputable def t30_e (k : Nat) (rec : S30 → Option R30) (op0 : Int) : Option R30 :=
  (g41 k op0 [[ic 1]]).bind fun v1 =>
  bif v1 != 0 then
    rec (.h0 op0 true)
  else
    (g41 k op0 [[ic 2]]).bind fun v4 =>
    bif v4 != 0 then
      rec (.h0 op0 true)
    else
      (g41 k op0 [[ic 4]]).bind fun v7 =>
      rec (.h0 op0 (v7 != 0))
noncomputable def t30_h0 (k : Nat) (rec : S30 → Option R30) (op0 : Int) (t3 : Bool) : Option R30 :=
  bif t3 then
    some 1
  else
    bif decide (op0 ≥ 1) then
      rec (.h1 (decide (op0 ≤ 14)))
    else
      rec (.h1 false)
noncomputable def t30_h1 (k : Nat) (rec : S30 → Option R30) (t16 : Bool) : Option R30 :=
  bif t16 then
    some 2
  else
    some 0
noncomputable def step30 (k : Nat) (rec : S30 → Option R30) : S30 → Option R30
  | .e op0 => t30_e k rec op0
  | .h0 op0 t3 => t30_h0 k rec op0 t3
  | .h1 t16 => t30_h1 k rec t16
noncomputable def g30 (k : Nat) (op0 : Int) : Option R30 := itS step30 k (.e op0)
noncomputable def P30 : S30 → R30 → Prop
  | .e op0, r => Fin cx30 Try.f30 [.code body30] (fr0 Try.f30 [.c (ic op0)] []) (res30 r) (bx30 r)
  | .h0 op0 t3, r => Fin cx30 Try.f30 (kAt body30 [1, 0, 0, 1, 2] []) ⟨[.c (ic op0), .deadv, .deadv, .c (bc t3)] ++ rep 19 .deadv, []⟩ (res30 r) (bx30 r)
  | .h1 t16, r => Fin cx30 Try.f30 (kAt body30 [1, 0, 0, 1, 1, 1, 2] []) ⟨rep 16 .deadv ++ [.c (bc t16)] ++ rep 6 .deadv, []⟩ (res30 r) (bx30 r)
theorem evr30 {op0 : Int} {r : R30} (h : P30 (.e op0) r) : Ev Try.prog noHand 30 [.c (ic op0)] [] (res30 r) (bx30 r) := ev_of_fin (fn := Try.f30) (body := body30) (by kernel_rfl) (by kernel_rfl) (by kernel_rfl) rfl h
theorem t30_e_ok (k : Nat) (rec : S30 → Option R30) (ih : ∀ s r, rec s = some r → P30 s r) (op0 : Int) (r : R30) (h : t30_e k rec op0 = some r) : P30 (.e op0) r := by
  unfold t30_e at h
  obtain ⟨v1, h2, h⟩ := bd_or h
  rcases bif_or h with ⟨h3, h⟩ | ⟨h3, h⟩
  ·
    exact mgo_at (nb := 0) hmix (ih _ _ h) (n := 9) (ad := [(some 6, .call (.ret (.c (ic v1))) [] true), (some 7, .test true)]) (ps := [_, _, _]) (m := bm 23 8388598) (ls := []) (by kernel_rfl) ⟨(ev41 h2), (rfl : true = true), h3, trivial⟩
  ·
    obtain ⟨v4, h5, h⟩ := bd_or h
    rcases bif_or h with ⟨h6, h⟩ | ⟨h6, h⟩
    ·
      exact mgo_at (nb := 0) hmix (ih _ _ h) (n := 12) (ad := [(some 6, .call (.ret (.c (ic v1))) [] true), (some 7, .test false), (some 10, .call (.ret (.c (ic v4))) [] true), (some 11, .test true)]) (ps := [_, _, _, _, _, _]) (m := bm 23 8388598) (ls := []) (by kernel_rfl) ⟨(ev41 h2), (rfl : true = true), h3, (ev41 h5), (rfl : true = true), h6, trivial⟩
    ·
      obtain ⟨v7, h8, h⟩ := bd_or h
      exact mgo_at (nb := 0) hmix (ih _ _ h) (n := 12) (ad := [(some 6, .call (.ret (.c (ic v1))) [] true), (some 7, .test false), (some 10, .call (.ret (.c (ic v4))) [] true), (some 11, .test false), (some 14, .call (.ret (.c (ic v7))) [] true)]) (ps := [_, _, _, _, _, _, _, _]) (m := bm 23 8388598) (ls := []) (by kernel_rfl) ⟨(ev41 h2), (rfl : true = true), h3, (ev41 h5), (rfl : true = true), h6, (ev41 h8), (rfl : true = true), trivial⟩
theorem t30_h0_ok (k : Nat) (rec : S30 → Option R30) (ih : ∀ s r, rec s = some r → P30 s r) (op0 : Int) (t3 : Bool) (r : R30) (h : t30_h0 k rec op0 t3 = some r) : P30 (.h0 op0 t3) r := by
  unfold t30_h0 at h
  rcases bif_or h with ⟨hq, h1'⟩ | ⟨hq, h1'⟩
  · clear h; subst hq; have h := h1'; clear h1'
    rw [← Option.some.inj h]
    exact mgo_fin (nb := 0) hmix (n := 2000) (ad := []) (ps := []) (by kernel_rfl) trivial
  · clear h; subst hq; have h := h1'; clear h1'
    rcases bif_or h with ⟨h1, h⟩ | ⟨h1, h⟩
    ·
      exact mgo_at (nb := 0) hmix (ih _ _ h) (n := 3) (ad := [(some 18, .test true)]) (ps := [_]) (m := bm 23 8323071) (ls := []) (by kernel_rfl) ⟨h1, trivial⟩
    ·
      exact mgo_at (nb := 0) hmix (ih _ _ h) (n := 3) (ad := [(some 18, .test false)]) (ps := [_]) (m := bm 23 8323071) (ls := []) (by kernel_rfl) ⟨h1, trivial⟩
theorem t30_h1_ok (k : Nat) (rec : S30 → Option R30) (ih : ∀ s r, rec s = some r → P30 s r) (t16 : Bool) (r : R30) (h : t30_h1 k rec t16 = some r) : P30 (.h1 t16) r := by
  unfold t30_h1 at h
  rcases bif_or h with ⟨hq, h1'⟩ | ⟨hq, h1'⟩
  · clear h; subst hq; have h := h1'; clear h1'
    rw [← Option.some.inj h]
    exact mgo_fin (nb := 0) hmix (n := 2000) (ad := []) (ps := []) (by kernel_rfl) trivial
  · clear h; subst hq; have h := h1'; clear h1'
    rw [← Option.some.inj h]
    exact mgo_fin (nb := 0) hmix (n := 2000) (ad := []) (ps := []) (by kernel_rfl) trivial
theorem ok30 : ∀ k s r, itS step30 k s = some r → P30 s r := itS_ok fun k rec ih s r h => match s, h with
  | .e op0, h => t30_e_ok k rec ih op0 r h
  | .h0 op0 t3, h => t30_h0_ok k rec ih op0 t3 r h
  | .h1 t16, h => t30_h1_ok k rec ih t16 r h
theorem ev30 {k : Nat} {op0 : Int} {r : R30} (h : g30 k op0 = some r) : Ev Try.prog noHand 30 [.c (ic op0)] [] (res30 r) (bx30 r) := evr30 (ok30 _ _ _ h)
-- auspice/ssa.Plain
inductive S15 where
  | e (c0_0 : Int) (c0_1 : Int) (c0_2 : Rs) (c0_3 : Rs) (c0_4 : Rs)
  | h0 (t23 : Bool) (loc1_0 : Int) (loc1_1 : Int) (loc1_2 : Rs) (loc1_3 : Rs) (loc1_4 : Rs)
  | h1 (t28 : Rs) (t29 : Int) (t30 : Int) (loc1_0 : Int) (loc1_1 : Int) (loc1_2 : Rs) (loc1_3 : Rs) (loc1_4 : Rs)
  | h2 (i3 : Int) (ok5 : Bool) (t28 : Rs) (t29 : Int) (t30 : Int) (loc4_0 : Int) (loc4_1 : Int) (loc4_2 : Int) (loc4_3 : Int) (loc1_0 : Int) (loc1_1 : Int) (loc1_2 : Rs) (loc1_3 : Rs) (loc1_4 : Rs)
  | h3 (t28 : Rs) (t29 : Int) (t30 : Int) (t126 : Bool) (loc1_0 : Int) (loc1_1 : Int) (loc1_2 : Rs) (loc1_3 : Rs) (loc1_4 : Rs)
abbrev R15 := Bool
def res15 : R15 → ARes
  | r => .ret (.c (bc r))
def bx15 : R15 → List (List Cell)
  | r => []
noncomputable def t15_e (k : Nat) (rec : S15 → Option R15) (c0_0 : Int) (c0_1 : Int) (c0_2 : Rs) (c0_3 : Rs) (c0_4 : Rs) : Option R15 :=
  bif c0_1 != 0 then
    rec (.h0 true c0_0 c0_1 c0_2 c0_3 c0_4)
  else
    bif decide (c0_0 < 1) then
      rec (.h0 true c0_0 c0_1 c0_2 c0_3 c0_4)
    else
      rec (.h0 ((c0_4.length : Int) != (IntKind.i64.wrap (c0_0 + 1))) c0_0 c0_1 c0_2 c0_3 c0_4)
noncomputable def t15_h0 (k : Nat) (rec : S15 → Option R15) (t23 : Bool) (loc1_0 : Int) (loc1_1 : Int) (loc1_2 : Rs) (loc1_3 : Rs) (loc1_4 : Rs) : Option R15 :=
  bif t23 then
    some false
  else
    gd (slOk 0 loc1_0 loc1_4 4) <|
    rec (.h1 (List.drop (Int.toNat 0) (List.take (Int.toNat loc1_0) loc1_4)) ((List.drop (Int.toNat 0) (List.take (Int.toNat loc1_0) loc1_4)).length : Int) 0 loc1_0 loc1_1 loc1_2 loc1_3 loc1_4)
noncomputable def t15_h1 (k : Nat) (rec : S15 → Option R15) (t28 : Rs) (t29 : Int) (t30 : Int) (loc1_0 : Int) (loc1_1 : Int) (loc1_2 : Rs) (loc1_3 : Rs) (loc1_4 : Rs) : Option R15 :=
  bif decide (t30 < t29) then
    ixR t28 t30 fun w2 =>
    un_i4 w2 fun op4 dst4 a4 b4 =>
    bif op4 == 50 then
      bif decide (a4 ≥ 0) then
        bif decide (a4 < (loc1_2.length : Int)) then
          rec (.h2 t30 (b4 == 0) t28 t29 t30 op4 dst4 a4 b4 loc1_0 loc1_1 loc1_2 loc1_3 loc1_4)
        else
          rec (.h2 t30 false t28 t29 t30 op4 dst4 a4 b4 loc1_0 loc1_1 loc1_2 loc1_3 loc1_4)
      else
        rec (.h2 t30 false t28 t29 t30 op4 dst4 a4 b4 loc1_0 loc1_1 loc1_2 loc1_3 loc1_4)
    else
      bif op4 == 51 then
        bif decide (a4 ≥ 0) then
          bif decide (a4 < (loc1_3.length : Int)) then
            rec (.h2 t30 (b4 == 0) t28 t29 t30 op4 dst4 a4 b4 loc1_0 loc1_1 loc1_2 loc1_3 loc1_4)
          else
            rec (.h2 t30 false t28 t29 t30 op4 dst4 a4 b4 loc1_0 loc1_1 loc1_2 loc1_3 loc1_4)
        else
          rec (.h2 t30 false t28 t29 t30 op4 dst4 a4 b4 loc1_0 loc1_1 loc1_2 loc1_3 loc1_4)
      else
        (g30 k op4).bind fun v7 =>
        bif v7 == 1 then
          bif decide (a4 ≥ 0) then
            bif decide (a4 < t30) then
              rec (.h2 t30 (b4 == 0) t28 t29 t30 op4 dst4 a4 b4 loc1_0 loc1_1 loc1_2 loc1_3 loc1_4)
            else
              rec (.h2 t30 false t28 t29 t30 op4 dst4 a4 b4 loc1_0 loc1_1 loc1_2 loc1_3 loc1_4)
          else
            rec (.h2 t30 false t28 t29 t30 op4 dst4 a4 b4 loc1_0 loc1_1 loc1_2 loc1_3 loc1_4)
        else
          bif v7 == 2 then
            bif decide (a4 ≥ 0) then
              bif decide (a4 < t30) then
                bif decide (b4 ≥ 0) then
                  rec (.h2 t30 (decide (b4 < t30)) t28 t29 t30 op4 dst4 a4 b4 loc1_0 loc1_1 loc1_2 loc1_3 loc1_4)
                else
                  rec (.h2 t30 false t28 t29 t30 op4 dst4 a4 b4 loc1_0 loc1_1 loc1_2 loc1_3 loc1_4)
              else
                rec (.h2 t30 false t28 t29 t30 op4 dst4 a4 b4 loc1_0 loc1_1 loc1_2 loc1_3 loc1_4)
            else
              rec (.h2 t30 false t28 t29 t30 op4 dst4 a4 b4 loc1_0 loc1_1 loc1_2 loc1_3 loc1_4)
          else
            rec (.h2 t30 false t28 t29 t30 op4 dst4 a4 b4 loc1_0 loc1_1 loc1_2 loc1_3 loc1_4)
  else
    ixR loc1_4 loc1_0 fun w2 =>
    un_i4 w2 fun op4 dst4 a4 b4 =>
    bif op4 == 52 then
      bif dst4 == 0 then
        bif b4 == 0 then
          bif decide (a4 ≥ 0) then
            some (decide (a4 < loc1_0))
          else
            some false
        else
          some false
      else
        some false
    else
      some false
noncomputable def t15_h2 (k : Nat) (rec : S15 → Option R15) (i3 : Int) (ok5 : Bool) (t28 : Rs) (t29 : Int) (t30 : Int) (loc4_0 : Int) (loc4_1 : Int) (loc4_2 : Int) (loc4_3 : Int) (loc1_0 : Int) (loc1_1 : Int) (loc1_2 : Rs) (loc1_3 : Rs) (loc1_4 : Rs) : Option R15 :=
  bif !ok5 then
    rec (.h3 t28 t29 t30 true loc1_0 loc1_1 loc1_2 loc1_3 loc1_4)
  else
    rec (.h3 t28 t29 t30 (loc4_1 != i3) loc1_0 loc1_1 loc1_2 loc1_3 loc1_4)
noncomputable def t15_h3 (k : Nat) (rec : S15 → Option R15) (t28 : Rs) (t29 : Int) (t30 : Int) (t126 : Bool) (loc1_0 : Int) (loc1_1 : Int) (loc1_2 : Rs) (loc1_3 : Rs) (loc1_4 : Rs) : Option R15 :=
  bif t126 then
    some false
  else
    rec (.h1 t28 t29 (IntKind.i64.wrap (t30 + 1)) loc1_0 loc1_1 loc1_2 loc1_3 loc1_4)
noncomputable def step15 (k : Nat) (rec : S15 → Option R15) : S15 → Option R15
  | .e c0_0 c0_1 c0_2 c0_3 c0_4 => t15_e k rec c0_0 c0_1 c0_2 c0_3 c0_4
  | .h0 t23 loc1_0 loc1_1 loc1_2 loc1_3 loc1_4 => t15_h0 k rec t23 loc1_0 loc1_1 loc1_2 loc1_3 loc1_4
  | .h1 t28 t29 t30 loc1_0 loc1_1 loc1_2 loc1_3 loc1_4 => t15_h1 k rec t28 t29 t30 loc1_0 loc1_1 loc1_2 loc1_3 loc1_4
  | .h2 i3 ok5 t28 t29 t30 loc4_0 loc4_1 loc4_2 loc4_3 loc1_0 loc1_1 loc1_2 loc1_3 loc1_4 => t15_h2 k rec i3 ok5 t28 t29 t30 loc4_0 loc4_1 loc4_2 loc4_3 loc1_0 loc1_1 loc1_2 loc1_3 loc1_4
  | .h3 t28 t29 t30 t126 loc1_0 loc1_1 loc1_2 loc1_3 loc1_4 => t15_h3 k rec t28 t29 t30 t126 loc1_0 loc1_1 loc1_2 loc1_3 loc1_4
noncomputable def g15 (k : Nat) (c0_0 : Int) (c0_1 : Int) (c0_2 : Rs) (c0_3 : Rs) (c0_4 : Rs) : Option R15 := itS step15 k (.e c0_0 c0_1 c0_2 c0_3 c0_4)
noncomputable def P15 : S15 → R15 → Prop
  | .e c0_0 c0_1 c0_2 c0_3 c0_4, r => Fin cx15 Try.f15 [.code body15] (fr0 Try.f15 [.ag [ic c0_0, ic c0_1, .imm c0_2, .imm c0_3, .imm c0_4]] []) (res15 r) (bx15 r)
  | .h0 t23 loc1_0 loc1_1 loc1_2 loc1_3 loc1_4, r => Fin cx15 Try.f15 (kAt body15 [1, 0, 1, 2] []) ⟨[.deadv, .c (.ptr ⟨⟨.loc 1, []⟩, 0, 0⟩)] ++ rep 21 .deadv ++ [.c (bc t23)] ++ rep 135 .deadv, [(.loc 1, [ic loc1_0, ic loc1_1, .imm loc1_2, .imm loc1_3, .imm loc1_4])]⟩ (res15 r) (bx15 r)
  | .h1 t28 t29 t30 loc1_0 loc1_1 loc1_2 loc1_3 loc1_4, r => Fin cx15 Try.f15 (kAt body15 [1, 1, 0, 1, 0, 4] []) ⟨[.deadv, .c (.ptr ⟨⟨.loc 1, []⟩, 0, 0⟩)] ++ rep 26 .deadv ++ [.c (.imm t28), .c (ic t29), .c (ic t30)] ++ rep 128 .deadv, [(.loc 1, [ic loc1_0, ic loc1_1, .imm loc1_2, .imm loc1_3, .imm loc1_4])]⟩ (res15 r) (bx15 r)
  | .h2 i3 ok5 t28 t29 t30 loc4_0 loc4_1 loc4_2 loc4_3 loc1_0 loc1_1 loc1_2 loc1_3 loc1_4, r => Fin cx15 Try.f15 (kAt body15 [1, 1, 0, 1, 0, 0, 1, 1, 0, 0, 1, 1, 1, 2] []) ⟨[.deadv, .c (.ptr ⟨⟨.loc 1, []⟩, 0, 0⟩), .deadv, .c (ic i3), .c (.ptr ⟨⟨.loc 4, []⟩, 0, 0⟩), .c (bc ok5)] ++ rep 22 .deadv ++ [.c (.imm t28), .c (ic t29), .c (ic t30)] ++ rep 128 .deadv, [(.loc 4, [ic loc4_0, ic loc4_1, ic loc4_2, ic loc4_3]), (.loc 1, [ic loc1_0, ic loc1_1, .imm loc1_2, .imm loc1_3, .imm loc1_4])]⟩ (res15 r) (bx15 r)
  | .h3 t28 t29 t30 t126 loc1_0 loc1_1 loc1_2 loc1_3 loc1_4, r => Fin cx15 Try.f15 (kAt body15 [1, 1, 0, 1, 0, 0, 1, 1, 0, 0, 1, 1, 1, 1, 2] []) ⟨[.deadv, .c (.ptr ⟨⟨.loc 1, []⟩, 0, 0⟩)] ++ rep 26 .deadv ++ [.c (.imm t28), .c (ic t29), .c (ic t30)] ++ rep 95 .deadv ++ [.c (bc t126)] ++ rep 32 .deadv, [(.loc 1, [ic loc1_0, ic loc1_1, .imm loc1_2, .imm loc1_3, .imm loc1_4])]⟩ (res15 r) (bx15 r)
theorem evr15 {c0_0 : Int} {c0_1 : Int} {c0_2 : Rs} {c0_3 : Rs} {c0_4 : Rs} {r : R15} (h : P15 (.e c0_0 c0_1 c0_2 c0_3 c0_4) r) : Ev Try.prog noHand 15 [.ag [ic c0_0, ic c0_1, .imm c0_2, .imm c0_3, .imm c0_4]] [] (res15 r) (bx15 r) := ev_of_fin (fn := Try.f15) (body := body15) (by kernel_rfl) (by kernel_rfl) (by kernel_rfl) rfl h
theorem t15_e_ok (k : Nat) (rec : S15 → Option R15) (ih : ∀ s r, rec s = some r → P15 s r) (c0_0 : Int) (c0_1 : Int) (c0_2 : Rs) (c0_3 : Rs) (c0_4 : Rs) (r : R15) (h : t15_e k rec c0_0 c0_1 c0_2 c0_3 c0_4 = some r) : P15 (.e c0_0 c0_1 c0_2 c0_3 c0_4) r := by
  unfold t15_e at h
  rcases bif_or h with ⟨h1, h⟩ | ⟨h1, h⟩
  ·
    exact mgo_at (nb := 0) hmix (ih _ _ h) (n := 5) (ad := [(some 9, .test true)]) (ps := [_]) (m := bm 159 730750818665451459101842416358141509827957882877) (ls := []) (by kernel_rfl) ⟨h1, trivial⟩
  ·
    rcases bif_or h with ⟨h2, h⟩ | ⟨h2, h⟩
    ·
      exact mgo_at (nb := 0) hmix (ih _ _ h) (n := 5) (ad := [(some 9, .test false), (some 13, .test true)]) (ps := [_, _]) (m := bm 159 730750818665451459101842416358141509827957882877) (ls := []) (by kernel_rfl) ⟨h1, h2, trivial⟩
    ·
      exact mgo_at (nb := 0) hmix (ih _ _ h) (n := 5) (ad := [(some 9, .test false), (some 13, .test false)]) (ps := [_, _]) (m := bm 159 730750818665451459101842416358141509827957882877) (ls := []) (by kernel_rfl) ⟨h1, h2, trivial⟩
theorem t15_h0_ok (k : Nat) (rec : S15 → Option R15) (ih : ∀ s r, rec s = some r → P15 s r) (t23 : Bool) (loc1_0 : Int) (loc1_1 : Int) (loc1_2 : Rs) (loc1_3 : Rs) (loc1_4 : Rs) (r : R15) (h : t15_h0 k rec t23 loc1_0 loc1_1 loc1_2 loc1_3 loc1_4 = some r) : P15 (.h0 t23 loc1_0 loc1_1 loc1_2 loc1_3 loc1_4) r := by
  unfold t15_h0 at h
  rcases bif_or h with ⟨hq, h1'⟩ | ⟨hq, h1'⟩
  · clear h; subst hq; have h := h1'; clear h1'
    rw [← Option.some.inj h]
    exact mgo_fin (nb := 0) hmix (n := 2000) (ad := []) (ps := []) (by kernel_rfl) trivial
  · clear h; subst hq; have h := h1'; clear h1'
    obtain ⟨h1, h⟩ := gd_or h
    exact mgo_at (nb := 0) hmix (ih _ _ h) (n := 7) (ad := [(some 28, .ok)]) (ps := [_]) (m := bm 159 730750818665451459101842416358141509826087223293) (ls := []) (by kernel_rfl) ⟨of_decide_eq_true h1, trivial⟩
theorem t15_h1_ok (k : Nat) (rec : S15 → Option R15) (ih : ∀ s r, rec s = some r → P15 s r) (t28 : Rs) (t29 : Int) (t30 : Int) (loc1_0 : Int) (loc1_1 : Int) (loc1_2 : Rs) (loc1_3 : Rs) (loc1_4 : Rs) (r : R15) (h : t15_h1 k rec t28 t29 t30 loc1_0 loc1_1 loc1_2 loc1_3 loc1_4 = some r) : P15 (.h1 t28 t29 t30 loc1_0 loc1_1 loc1_2 loc1_3 loc1_4) r := by
  unfold t15_h1 at h
  rcases bif_or h with ⟨h1, h⟩ | ⟨h1, h⟩
  ·
    obtain ⟨w2, h3, h⟩ := ixR_or h
    obtain ⟨op4, dst4, a4, b4, hq, h1'⟩ := un_i4_or h
    clear h; subst hq; have h := h1'; clear h1'
    rcases bif_or h with ⟨h5, h⟩ | ⟨h5, h⟩
    ·
      rcases bif_or h with ⟨h6, h⟩ | ⟨h6, h⟩
      ·
        rcases bif_or h with ⟨h7, h⟩ | ⟨h7, h⟩
        ·
          exact mgo_at (nb := 0) hmix (ih _ _ h) (n := 19) (ad := [(some 31, .test true), (some 33, .row [ic op4, ic dst4, ic a4, ic b4]), (some 38, .test true), (some 41, .test true), (some 48, .test true)]) (ps := [_, _, _, _, _]) (m := bm 159 730750818665451459101842416358141509826087223237) (ls := []) (by kernel_rfl) ⟨h1, ix_row h3 rfl, h5, h6, h7, trivial⟩
        ·
          exact mgo_at (nb := 0) hmix (ih _ _ h) (n := 19) (ad := [(some 31, .test true), (some 33, .row [ic op4, ic dst4, ic a4, ic b4]), (some 38, .test true), (some 41, .test true), (some 48, .test false)]) (ps := [_, _, _, _, _]) (m := bm 159 730750818665451459101842416358141509826087223237) (ls := []) (by kernel_rfl) ⟨h1, ix_row h3 rfl, h5, h6, h7, trivial⟩
      ·
        exact mgo_at (nb := 0) hmix (ih _ _ h) (n := 19) (ad := [(some 31, .test true), (some 33, .row [ic op4, ic dst4, ic a4, ic b4]), (some 38, .test true), (some 41, .test false)]) (ps := [_, _, _, _]) (m := bm 159 730750818665451459101842416358141509826087223237) (ls := []) (by kernel_rfl) ⟨h1, ix_row h3 rfl, h5, h6, trivial⟩
    ·
      rcases bif_or h with ⟨h6, h⟩ | ⟨h6, h⟩
      ·
        rcases bif_or h with ⟨h7, h⟩ | ⟨h7, h⟩
        ·
          rcases bif_or h with ⟨h8, h⟩ | ⟨h8, h⟩
          ·
            exact mgo_at (nb := 0) hmix (ih _ _ h) (n := 22) (ad := [(some 31, .test true), (some 33, .row [ic op4, ic dst4, ic a4, ic b4]), (some 38, .test false), (some 58, .test true), (some 61, .test true), (some 68, .test true)]) (ps := [_, _, _, _, _, _]) (m := bm 159 730750818665451459101842416358141509826087223237) (ls := []) (by kernel_rfl) ⟨h1, ix_row h3 rfl, h5, h6, h7, h8, trivial⟩
          ·
            exact mgo_at (nb := 0) hmix (ih _ _ h) (n := 22) (ad := [(some 31, .test true), (some 33, .row [ic op4, ic dst4, ic a4, ic b4]), (some 38, .test false), (some 58, .test true), (some 61, .test true), (some 68, .test false)]) (ps := [_, _, _, _, _, _]) (m := bm 159 730750818665451459101842416358141509826087223237) (ls := []) (by kernel_rfl) ⟨h1, ix_row h3 rfl, h5, h6, h7, h8, trivial⟩
        ·
          exact mgo_at (nb := 0) hmix (ih _ _ h) (n := 22) (ad := [(some 31, .test true), (some 33, .row [ic op4, ic dst4, ic a4, ic b4]), (some 38, .test false), (some 58, .test true), (some 61, .test false)]) (ps := [_, _, _, _, _]) (m := bm 159 730750818665451459101842416358141509826087223237) (ls := []) (by kernel_rfl) ⟨h1, ix_row h3 rfl, h5, h6, h7, trivial⟩
      ·
        obtain ⟨v7, h8, h⟩ := bd_or h
        rcases bif_or h with ⟨h9, h⟩ | ⟨h9, h⟩
        ·
          rcases bif_or h with ⟨h10, h⟩ | ⟨h10, h⟩
          ·
            rcases bif_or h with ⟨h11, h⟩ | ⟨h11, h⟩
            ·
              exact mgo_at (nb := 0) hmix (ih _ _ h) (n := 25) (ad := [(some 31, .test true), (some 33, .row [ic op4, ic dst4, ic a4, ic b4]), (some 38, .test false), (some 58, .test false), (some 78, .call (.ret (.c (ic v7))) [] false), (some 79, .test true), (some 82, .test true), (some 87, .test true)]) (ps := [_, _, _, _, _, _, _, _]) (m := bm 159 730750818665451459101842416358141509826087223237) (ls := []) (by kernel_rfl) ⟨h1, ix_row h3 rfl, h5, h6, (ev30 h8), h9, h10, h11, trivial⟩
            ·
              exact mgo_at (nb := 0) hmix (ih _ _ h) (n := 25) (ad := [(some 31, .test true), (some 33, .row [ic op4, ic dst4, ic a4, ic b4]), (some 38, .test false), (some 58, .test false), (some 78, .call (.ret (.c (ic v7))) [] false), (some 79, .test true), (some 82, .test true), (some 87, .test false)]) (ps := [_, _, _, _, _, _, _, _]) (m := bm 159 730750818665451459101842416358141509826087223237) (ls := []) (by kernel_rfl) ⟨h1, ix_row h3 rfl, h5, h6, (ev30 h8), h9, h10, h11, trivial⟩
          ·
            exact mgo_at (nb := 0) hmix (ih _ _ h) (n := 25) (ad := [(some 31, .test true), (some 33, .row [ic op4, ic dst4, ic a4, ic b4]), (some 38, .test false), (some 58, .test false), (some 78, .call (.ret (.c (ic v7))) [] false), (some 79, .test true), (some 82, .test false)]) (ps := [_, _, _, _, _, _, _]) (m := bm 159 730750818665451459101842416358141509826087223237) (ls := []) (by kernel_rfl) ⟨h1, ix_row h3 rfl, h5, h6, (ev30 h8), h9, h10, trivial⟩
        ·
          rcases bif_or h with ⟨h10, h⟩ | ⟨h10, h⟩
          ·
            rcases bif_or h with ⟨h11, h⟩ | ⟨h11, h⟩
            ·
              rcases bif_or h with ⟨h12, h⟩ | ⟨h12, h⟩
              ·
                rcases bif_or h with ⟨h13, h⟩ | ⟨h13, h⟩
                ·
                  exact mgo_at (nb := 0) hmix (ih _ _ h) (n := 28) (ad := [(some 31, .test true), (some 33, .row [ic op4, ic dst4, ic a4, ic b4]), (some 38, .test false), (some 58, .test false), (some 78, .call (.ret (.c (ic v7))) [] false), (some 79, .test false), (some 97, .call (.ret (.c (ic v7))) [] false), (some 98, .test true), (some 101, .test true), (some 106, .test true), (some 111, .test true)]) (ps := [_, _, _, _, _, _, _, _, _, _, _]) (m := bm 159 730750818665451459101842416358141509826087223237) (ls := []) (by kernel_rfl) ⟨h1, ix_row h3 rfl, h5, h6, (ev30 h8), h9, (ev30 h8), h10, h11, h12, h13, trivial⟩
                ·
                  exact mgo_at (nb := 0) hmix (ih _ _ h) (n := 28) (ad := [(some 31, .test true), (some 33, .row [ic op4, ic dst4, ic a4, ic b4]), (some 38, .test false), (some 58, .test false), (some 78, .call (.ret (.c (ic v7))) [] false), (some 79, .test false), (some 97, .call (.ret (.c (ic v7))) [] false), (some 98, .test true), (some 101, .test true), (some 106, .test true), (some 111, .test false)]) (ps := [_, _, _, _, _, _, _, _, _, _, _]) (m := bm 159 730750818665451459101842416358141509826087223237) (ls := []) (by kernel_rfl) ⟨h1, ix_row h3 rfl, h5, h6, (ev30 h8), h9, (ev30 h8), h10, h11, h12, h13, trivial⟩
              ·
                exact mgo_at (nb := 0) hmix (ih _ _ h) (n := 28) (ad := [(some 31, .test true), (some 33, .row [ic op4, ic dst4, ic a4, ic b4]), (some 38, .test false), (some 58, .test false), (some 78, .call (.ret (.c (ic v7))) [] false), (some 79, .test false), (some 97, .call (.ret (.c (ic v7))) [] false), (some 98, .test true), (some 101, .test true), (some 106, .test false)]) (ps := [_, _, _, _, _, _, _, _, _, _]) (m := bm 159 730750818665451459101842416358141509826087223237) (ls := []) (by kernel_rfl) ⟨h1, ix_row h3 rfl, h5, h6, (ev30 h8), h9, (ev30 h8), h10, h11, h12, trivial⟩
            ·
              exact mgo_at (nb := 0) hmix (ih _ _ h) (n := 28) (ad := [(some 31, .test true), (some 33, .row [ic op4, ic dst4, ic a4, ic b4]), (some 38, .test false), (some 58, .test false), (some 78, .call (.ret (.c (ic v7))) [] false), (some 79, .test false), (some 97, .call (.ret (.c (ic v7))) [] false), (some 98, .test true), (some 101, .test false)]) (ps := [_, _, _, _, _, _, _, _, _]) (m := bm 159 730750818665451459101842416358141509826087223237) (ls := []) (by kernel_rfl) ⟨h1, ix_row h3 rfl, h5, h6, (ev30 h8), h9, (ev30 h8), h10, h11, trivial⟩
          ·
            exact mgo_at (nb := 0) hmix (ih _ _ h) (n := 28) (ad := [(some 31, .test true), (some 33, .row [ic op4, ic dst4, ic a4, ic b4]), (some 38, .test false), (some 58, .test false), (some 78, .call (.ret (.c (ic v7))) [] false), (some 79, .test false), (some 97, .call (.ret (.c (ic v7))) [] false), (some 98, .test false)]) (ps := [_, _, _, _, _, _, _, _]) (m := bm 159 730750818665451459101842416358141509826087223237) (ls := []) (by kernel_rfl) ⟨h1, ix_row h3 rfl, h5, h6, (ev30 h8), h9, (ev30 h8), h10, trivial⟩
  ·
    obtain ⟨w2, h3, h⟩ := ixR_or h
    obtain ⟨op4, dst4, a4, b4, hq, h1'⟩ := un_i4_or h
    clear h; subst hq; have h := h1'; clear h1'
    rcases bif_or h with ⟨h5, h⟩ | ⟨h5, h⟩
    ·
      rcases bif_or h with ⟨h6, h⟩ | ⟨h6, h⟩
      ·
        rcases bif_or h with ⟨h7, h⟩ | ⟨h7, h⟩
        ·
          rcases bif_or h with ⟨h8, h⟩ | ⟨h8, h⟩
          ·
            rw [← Option.some.inj h]
            exact mgo_fin (nb := 0) hmix (n := 2000) (ad := [(some 31, .test false), (some 132, .row [ic op4, ic dst4, ic a4, ic b4]), (some 136, .test true), (some 140, .test true), (some 145, .test true), (some 150, .test true)]) (ps := [_, _, _, _, _, _]) (by kernel_rfl) ⟨h1, ix_row h3 rfl, h5, h6, h7, h8, trivial⟩
          ·
            rw [← Option.some.inj h]
            exact mgo_fin (nb := 0) hmix (n := 2000) (ad := [(some 31, .test false), (some 132, .row [ic op4, ic dst4, ic a4, ic b4]), (some 136, .test true), (some 140, .test true), (some 145, .test true), (some 150, .test false)]) (ps := [_, _, _, _, _, _]) (by kernel_rfl) ⟨h1, ix_row h3 rfl, h5, h6, h7, h8, trivial⟩
        ·
          rw [← Option.some.inj h]
          exact mgo_fin (nb := 0) hmix (n := 2000) (ad := [(some 31, .test false), (some 132, .row [ic op4, ic dst4, ic a4, ic b4]), (some 136, .test true), (some 140, .test true), (some 145, .test false)]) (ps := [_, _, _, _, _]) (by kernel_rfl) ⟨h1, ix_row h3 rfl, h5, h6, h7, trivial⟩
      ·
        rw [← Option.some.inj h]
        exact mgo_fin (nb := 0) hmix (n := 2000) (ad := [(some 31, .test false), (some 132, .row [ic op4, ic dst4, ic a4, ic b4]), (some 136, .test true), (some 140, .test false)]) (ps := [_, _, _, _]) (by kernel_rfl) ⟨h1, ix_row h3 rfl, h5, h6, trivial⟩
    ·
      rw [← Option.some.inj h]
      exact mgo_fin (nb := 0) hmix (n := 2000) (ad := [(some 31, .test false), (some 132, .row [ic op4, ic dst4, ic a4, ic b4]), (some 136, .test false)]) (ps := [_, _, _]) (by kernel_rfl) ⟨h1, ix_row h3 rfl, h5, trivial⟩
theorem t15_h2_ok (k : Nat) (rec : S15 → Option R15) (ih : ∀ s r, rec s = some r → P15 s r) (i3 : Int) (ok5 : Bool) (t28 : Rs) (t29 : Int) (t30 : Int) (loc4_0 : Int) (loc4_1 : Int) (loc4_2 : Int) (loc4_3 : Int) (loc1_0 : Int) (loc1_1 : Int) (loc1_2 : Rs) (loc1_3 : Rs) (loc1_4 : Rs) (r : R15) (h : t15_h2 k rec i3 ok5 t28 t29 t30 loc4_0 loc4_1 loc4_2 loc4_3 loc1_0 loc1_1 loc1_2 loc1_3 loc1_4 = some r) : P15 (.h2 i3 ok5 t28 t29 t30 loc4_0 loc4_1 loc4_2 loc4_3 loc1_0 loc1_1 loc1_2 loc1_3 loc1_4) r := by
  unfold t15_h2 at h
  rcases bif_or h with ⟨h1, h⟩ | ⟨h1, h⟩
  ·
    exact mgo_at (nb := 0) hmix (ih _ _ h) (n := 2) (ad := [(some 120, .test true)]) (ps := [_]) (m := bm 159 730750818580380867371607800492297857968145170429) (ls := [4]) (by kernel_rfl) ⟨h1, trivial⟩
  ·
    exact mgo_at (nb := 0) hmix (ih _ _ h) (n := 2) (ad := [(some 120, .test false)]) (ps := [_]) (m := bm 159 730750818580380867371607800492297857968145170429) (ls := [4]) (by kernel_rfl) ⟨h1, trivial⟩
theorem t15_h3_ok (k : Nat) (rec : S15 → Option R15) (ih : ∀ s r, rec s = some r → P15 s r) (t28 : Rs) (t29 : Int) (t30 : Int) (t126 : Bool) (loc1_0 : Int) (loc1_1 : Int) (loc1_2 : Rs) (loc1_3 : Rs) (loc1_4 : Rs) (r : R15) (h : t15_h3 k rec t28 t29 t30 t126 loc1_0 loc1_1 loc1_2 loc1_3 loc1_4 = some r) : P15 (.h3 t28 t29 t30 t126 loc1_0 loc1_1 loc1_2 loc1_3 loc1_4) r := by
  unfold t15_h3 at h
  rcases bif_or h with ⟨hq, h1'⟩ | ⟨hq, h1'⟩
  · clear h; subst hq; have h := h1'; clear h1'
    rw [← Option.some.inj h]
    exact mgo_fin (nb := 0) hmix (n := 2000) (ad := []) (ps := []) (by kernel_rfl) trivial
  · clear h; subst hq; have h := h1'; clear h1'
    exact mgo_at (nb := 0) hmix (ih _ _ h) (n := 4) (ad := []) (ps := []) (m := bm 159 730750818665451459101842416358141509826087223293) (ls := []) (by kernel_rfl) trivial
theorem ok15 : ∀ k s r, itS step15 k s = some r → P15 s r := itS_ok fun k rec ih s r h => match s, h with
  | .e c0_0 c0_1 c0_2 c0_3 c0_4, h => t15_e_ok k rec ih c0_0 c0_1 c0_2 c0_3 c0_4 r h
  | .h0 t23 loc1_0 loc1_1 loc1_2 loc1_3 loc1_4, h => t15_h0_ok k rec ih t23 loc1_0 loc1_1 loc1_2 loc1_3 loc1_4 r h
  | .h1 t28 t29 t30 loc1_0 loc1_1 loc1_2 loc1_3 loc1_4, h => t15_h1_ok k rec ih t28 t29 t30 loc1_0 loc1_1 loc1_2 loc1_3 loc1_4 r h
  | .h2 i3 ok5 t28 t29 t30 loc4_0 loc4_1 loc4_2 loc4_3 loc1_0 loc1_1 loc1_2 loc1_3 loc1_4, h => t15_h2_ok k rec ih i3 ok5 t28 t29 t30 loc4_0 loc4_1 loc4_2 loc4_3 loc1_0 loc1_1 loc1_2 loc1_3 loc1_4 r h
  | .h3 t28 t29 t30 t126 loc1_0 loc1_1 loc1_2 loc1_3 loc1_4, h => t15_h3_ok k rec ih t28 t29 t30 t126 loc1_0 loc1_1 loc1_2 loc1_3 loc1_4 r h
theorem ev15 {k : Nat} {c0_0 : Int} {c0_1 : Int} {c0_2 : Rs} {c0_3 : Rs} {c0_4 : Rs} {r : R15} (h : g15 k c0_0 c0_1 c0_2 c0_3 c0_4 = some r) : Ev Try.prog noHand 15 [.ag [ic c0_0, ic c0_1, .imm c0_2, .imm c0_3, .imm c0_4]] [] (res15 r) (bx15 r) := evr15 (ok15 _ _ _ h)
-- auspice/auspiceref17.Operands
inductive S31 where
  | e (op0 : Int)
  | h0 (op0 : Int) (t16 : Bool)
  | h1 (t22 : Bool)
abbrev R31 := Int
def res31 : R31 → ARes
  | r => .ret (.c (ic r))
def bx31 : R31 → List (List Cell)
  | r => []
noncomputable def t31_e (k : Nat) (rec : S31 → Option R31) (op0 : Int) : Option R31 :=
  bif op0 == 6 then
    rec (.h0 op0 true)
  else
    bif op0 == 15 then
      rec (.h0 op0 true)
    else
      bif op0 == 16 then
        rec (.h0 op0 true)
      else
        rec (.h0 op0 (op0 == 17))
noncomputable def t31_h0 (k : Nat) (rec : S31 → Option R31) (op0 : Int) (t16 : Bool) : Option R31 :=
  bif t16 then
    some 1
  else
    bif decide (op0 ≥ 1) then
      rec (.h1 (decide (op0 ≤ 14)))
    else
      rec (.h1 false)
noncomputable def t31_h1 (k : Nat) (rec : S31 → Option R31) (t22 : Bool) : Option R31 :=
  bif t22 then
    some 2
  else
    some 0
noncomputable def step31 (k : Nat) (rec : S31 → Option R31) : S31 → Option R31
  | .e op0 => t31_e k rec op0
  | .h0 op0 t16 => t31_h0 k rec op0 t16
  | .h1 t22 => t31_h1 k rec t22
noncomputable def g31 (k : Nat) (op0 : Int) : Option R31 := itS step31 k (.e op0)
noncomputable def P31 : S31 → R31 → Prop
  | .e op0, r => Fin cx31 Try.f31 [.code body31] (fr0 Try.f31 [.c (ic op0)] []) (res31 r) (bx31 r)
  | .h0 op0 t16, r => Fin cx31 Try.f31 (kAt body31 [1, 0, 1, 2] []) ⟨[.c (ic op0)] ++ rep 15 .deadv ++ [.c (bc t16)] ++ rep 6 .deadv, []⟩ (res31 r) (bx31 r)
  | .h1 t22, r => Fin cx31 Try.f31 (kAt body31 [1, 1, 0, 1, 2] []) ⟨rep 22 .deadv ++ [.c (bc t22)], []⟩ (res31 r) (bx31 r)
theorem evr31 {op0 : Int} {r : R31} (h : P31 (.e op0) r) : Ev Try.prog noHand 31 [.c (ic op0)] [] (res31 r) (bx31 r) := ev_of_fin (fn := Try.f31) (body := body31) (by kernel_rfl) (by kernel_rfl) (by kernel_rfl) rfl h
theorem t31_e_ok (k : Nat) (rec : S31 → Option R31) (ih : ∀ s r, rec s = some r → P31 s r) (op0 : Int) (r : R31) (h : t31_e k rec op0 = some r) : P31 (.e op0) r := by
  unfold t31_e at h
  rcases bif_or h with ⟨h1, h⟩ | ⟨h1, h⟩
  ·
    exact mgo_at (nb := 0) hmix (ih _ _ h) (n := 5) (ad := [(some 4, .test true)]) (ps := [_]) (m := bm 23 8323070) (ls := []) (by kernel_rfl) ⟨h1, trivial⟩
  ·
    rcases bif_or h with ⟨h2, h⟩ | ⟨h2, h⟩
    ·
      exact mgo_at (nb := 0) hmix (ih _ _ h) (n := 5) (ad := [(some 4, .test false), (some 7, .test true)]) (ps := [_, _]) (m := bm 23 8323070) (ls := []) (by kernel_rfl) ⟨h1, h2, trivial⟩
    ·
      rcases bif_or h with ⟨h3, h⟩ | ⟨h3, h⟩
      ·
        exact mgo_at (nb := 0) hmix (ih _ _ h) (n := 5) (ad := [(some 4, .test false), (some 7, .test false), (some 11, .test true)]) (ps := [_, _, _]) (m := bm 23 8323070) (ls := []) (by kernel_rfl) ⟨h1, h2, h3, trivial⟩
      ·
        exact mgo_at (nb := 0) hmix (ih _ _ h) (n := 5) (ad := [(some 4, .test false), (some 7, .test false), (some 11, .test false)]) (ps := [_, _, _]) (m := bm 23 8323070) (ls := []) (by kernel_rfl) ⟨h1, h2, h3, trivial⟩
theorem t31_h0_ok (k : Nat) (rec : S31 → Option R31) (ih : ∀ s r, rec s = some r → P31 s r) (op0 : Int) (t16 : Bool) (r : R31) (h : t31_h0 k rec op0 t16 = some r) : P31 (.h0 op0 t16) r := by
  unfold t31_h0 at h
  rcases bif_or h with ⟨hq, h1'⟩ | ⟨hq, h1'⟩
  · clear h; subst hq; have h := h1'; clear h1'
    rw [← Option.some.inj h]
    exact mgo_fin (nb := 0) hmix (n := 2000) (ad := []) (ps := []) (by kernel_rfl) trivial
  · clear h; subst hq; have h := h1'; clear h1'
    rcases bif_or h with ⟨h1, h⟩ | ⟨h1, h⟩
    ·
      exact mgo_at (nb := 0) hmix (ih _ _ h) (n := 5) (ad := [(some 18, .test true)]) (ps := [_]) (m := bm 23 4194303) (ls := []) (by kernel_rfl) ⟨h1, trivial⟩
    ·
      exact mgo_at (nb := 0) hmix (ih _ _ h) (n := 5) (ad := [(some 18, .test false)]) (ps := [_]) (m := bm 23 4194303) (ls := []) (by kernel_rfl) ⟨h1, trivial⟩
theorem t31_h1_ok (k : Nat) (rec : S31 → Option R31) (ih : ∀ s r, rec s = some r → P31 s r) (t22 : Bool) (r : R31) (h : t31_h1 k rec t22 = some r) : P31 (.h1 t22) r := by
  unfold t31_h1 at h
  rcases bif_or h with ⟨hq, h1'⟩ | ⟨hq, h1'⟩
  · clear h; subst hq; have h := h1'; clear h1'
    rw [← Option.some.inj h]
    exact mgo_fin (nb := 0) hmix (n := 2000) (ad := []) (ps := []) (by kernel_rfl) trivial
  · clear h; subst hq; have h := h1'; clear h1'
    rw [← Option.some.inj h]
    exact mgo_fin (nb := 0) hmix (n := 2000) (ad := []) (ps := []) (by kernel_rfl) trivial
theorem ok31 : ∀ k s r, itS step31 k s = some r → P31 s r := itS_ok fun k rec ih s r h => match s, h with
  | .e op0, h => t31_e_ok k rec ih op0 r h
  | .h0 op0 t16, h => t31_h0_ok k rec ih op0 t16 r h
  | .h1 t22, h => t31_h1_ok k rec ih t22 r h
theorem ev31 {k : Nat} {op0 : Int} {r : R31} (h : g31 k op0 = some r) : Ev Try.prog noHand 31 [.c (ic op0)] [] (res31 r) (bx31 r) := evr31 (ok31 _ _ _ h)
-- auspice/auspiceref17.Plain
inductive S16 where
  | e (c0_0 : Int) (c0_1 : Int) (c0_2 : Rs) (c0_3 : Rs) (c0_4 : Rs)
  | h0 (t23 : Bool) (loc1_0 : Int) (loc1_1 : Int) (loc1_2 : Rs) (loc1_3 : Rs) (loc1_4 : Rs)
  | h1 (t25 : Rs) (t26 : Int) (t27 : Int) (loc1_0 : Int) (loc1_1 : Int) (loc1_2 : Rs) (loc1_3 : Rs) (loc1_4 : Rs)
  | h2 (i3 : Int) (n5 : Int) (end6 : Bool) (t25 : Rs) (t26 : Int) (t27 : Int) (t39 : Bool) (loc4_0 : Int) (loc4_1 : Int) (loc4_2 : Int) (loc4_3 : Int) (loc1_0 : Int) (loc1_1 : Int) (loc1_2 : Rs) (loc1_3 : Rs) (loc1_4 : Rs)
  | h3 (i3 : Int) (n5 : Int) (end6 : Bool) (t25 : Rs) (t26 : Int) (t27 : Int) (t39 : Bool) (loc4_0 : Int) (loc4_1 : Int) (loc4_2 : Int) (loc4_3 : Int) (loc1_0 : Int) (loc1_1 : Int) (loc1_2 : Rs) (loc1_3 : Rs) (loc1_4 : Rs)
  | h4 (i3 : Int) (n5 : Int) (end6 : Bool) (t25 : Rs) (t26 : Int) (t27 : Int) (t72 : Bool) (loc4_0 : Int) (loc4_1 : Int) (loc4_2 : Int) (loc4_3 : Int) (loc1_0 : Int) (loc1_1 : Int) (loc1_2 : Rs) (loc1_3 : Rs) (loc1_4 : Rs)
  | h5 (i3 : Int) (n5 : Int) (end6 : Bool) (t25 : Rs) (t26 : Int) (t27 : Int) (t39 : Bool) (loc4_0 : Int) (loc4_1 : Int) (loc4_2 : Int) (loc4_3 : Int) (loc1_0 : Int) (loc1_1 : Int) (loc1_2 : Rs) (loc1_3 : Rs) (loc1_4 : Rs)
  | h6 (n5 : Int) (t25 : Rs) (t26 : Int) (t27 : Int) (t72 : Bool) (loc4_0 : Int) (loc4_1 : Int) (loc4_2 : Int) (loc4_3 : Int) (loc1_0 : Int) (loc1_1 : Int) (loc1_2 : Rs) (loc1_3 : Rs) (loc1_4 : Rs)
  | h7 (n5 : Int) (t25 : Rs) (t26 : Int) (t27 : Int) (t72 : Bool) (loc4_0 : Int) (loc4_1 : Int) (loc4_2 : Int) (loc4_3 : Int) (loc1_0 : Int) (loc1_1 : Int) (loc1_2 : Rs) (loc1_3 : Rs) (loc1_4 : Rs)
  | h8 (i3 : Int) (n5 : Int) (end6 : Bool) (t25 : Rs) (t26 : Int) (t27 : Int) (t39 : Bool) (loc4_0 : Int) (loc4_1 : Int) (loc4_2 : Int) (loc4_3 : Int) (loc1_0 : Int) (loc1_1 : Int) (loc1_2 : Rs) (loc1_3 : Rs) (loc1_4 : Rs)
  | h9 (t25 : Rs) (t26 : Int) (t27 : Int) (t116 : Bool) (loc1_0 : Int) (loc1_1 : Int) (loc1_2 : Rs) (loc1_3 : Rs) (loc1_4 : Rs)
  | h10 (n5 : Int) (t25 : Rs) (t26 : Int) (t27 : Int) (t72 : Bool) (loc4_0 : Int) (loc4_1 : Int) (loc4_2 : Int) (loc4_3 : Int) (loc1_0 : Int) (loc1_1 : Int) (loc1_2 : Rs) (loc1_3 : Rs) (loc1_4 : Rs)
abbrev R16 := Bool
def res16 : R16 → ARes
  | r => .ret (.c (bc r))
def bx16 : R16 → List (List Cell)
  | r => []
noncomputable def t16_e (k : Nat) (rec : S16 → Option R16) (c0_0 : Int) (c0_1 : Int) (c0_2 : Rs) (c0_3 : Rs) (c0_4 : Rs) : Option R16 :=
  bif c0_1 != 0 then
    rec (.h0 true c0_0 c0_1 c0_2 c0_3 c0_4)
  else
    bif decide (c0_0 < 1) then
      rec (.h0 true c0_0 c0_1 c0_2 c0_3 c0_4)
    else
      rec (.h0 ((IntKind.i64.wrap ((c0_4.length : Int) - 1)) != c0_0) c0_0 c0_1 c0_2 c0_3 c0_4)
noncomputable def t16_h0 (k : Nat) (rec : S16 → Option R16) (t23 : Bool) (loc1_0 : Int) (loc1_1 : Int) (loc1_2 : Rs) (loc1_3 : Rs) (loc1_4 : Rs) : Option R16 :=
  bif t23 then
    some false
  else
    rec (.h1 loc1_4 (loc1_4.length : Int) 0 loc1_0 loc1_1 loc1_2 loc1_3 loc1_4)
noncomputable def t16_h1 (k : Nat) (rec : S16 → Option R16) (t25 : Rs) (t26 : Int) (t27 : Int) (loc1_0 : Int) (loc1_1 : Int) (loc1_2 : Rs) (loc1_3 : Rs) (loc1_4 : Rs) : Option R16 :=
  bif decide (t27 < t26) then
    ixR t25 t27 fun w2 =>
    un_i4 w2 fun op4 dst4 a4 b4 =>
    (g31 k op4).bind fun v5 =>
    bif t27 == loc1_0 then
      bif true != (op4 == 52) then
        rec (.h2 t27 v5 true t25 t26 t27 true op4 dst4 a4 b4 loc1_0 loc1_1 loc1_2 loc1_3 loc1_4)
      else
        rec (.h3 t27 v5 true t25 t26 t27 (dst4 != 0) op4 dst4 a4 b4 loc1_0 loc1_1 loc1_2 loc1_3 loc1_4)
    else
      bif false != (op4 == 52) then
        rec (.h2 t27 v5 false t25 t26 t27 true op4 dst4 a4 b4 loc1_0 loc1_1 loc1_2 loc1_3 loc1_4)
      else
        rec (.h3 t27 v5 false t25 t26 t27 false op4 dst4 a4 b4 loc1_0 loc1_1 loc1_2 loc1_3 loc1_4)
  else
    some true
noncomputable def t16_h2 (k : Nat) (rec : S16 → Option R16) (i3 : Int) (n5 : Int) (end6 : Bool) (t25 : Rs) (t26 : Int) (t27 : Int) (t39 : Bool) (loc4_0 : Int) (loc4_1 : Int) (loc4_2 : Int) (loc4_3 : Int) (loc1_0 : Int) (loc1_1 : Int) (loc1_2 : Rs) (loc1_3 : Rs) (loc1_4 : Rs) : Option R16 :=
  bif t39 then
    some false
  else
    bif decide (n5 > 0) then
      bif decide (loc4_2 ≥ i3) then
        rec (.h4 i3 n5 end6 t25 t26 t27 true loc4_0 loc4_1 loc4_2 loc4_3 loc1_0 loc1_1 loc1_2 loc1_3 loc1_4)
      else
        rec (.h4 i3 n5 end6 t25 t26 t27 (decide (loc4_3 ≥ i3)) loc4_0 loc4_1 loc4_2 loc4_3 loc1_0 loc1_1 loc1_2 loc1_3 loc1_4)
    else
      rec (.h4 i3 n5 end6 t25 t26 t27 false loc4_0 loc4_1 loc4_2 loc4_3 loc1_0 loc1_1 loc1_2 loc1_3 loc1_4)
noncomputable def t16_h3 (k : Nat) (rec : S16 → Option R16) (i3 : Int) (n5 : Int) (end6 : Bool) (t25 : Rs) (t26 : Int) (t27 : Int) (t39 : Bool) (loc4_0 : Int) (loc4_1 : Int) (loc4_2 : Int) (loc4_3 : Int) (loc1_0 : Int) (loc1_1 : Int) (loc1_2 : Rs) (loc1_3 : Rs) (loc1_4 : Rs) : Option R16 :=
  bif t39 then
    rec (.h2 i3 n5 end6 t25 t26 t27 t39 loc4_0 loc4_1 loc4_2 loc4_3 loc1_0 loc1_1 loc1_2 loc1_3 loc1_4)
  else
    bif !end6 then
      rec (.h5 i3 n5 end6 t25 t26 t27 (loc4_1 != i3) loc4_0 loc4_1 loc4_2 loc4_3 loc1_0 loc1_1 loc1_2 loc1_3 loc1_4)
    else
      rec (.h5 i3 n5 end6 t25 t26 t27 false loc4_0 loc4_1 loc4_2 loc4_3 loc1_0 loc1_1 loc1_2 loc1_3 loc1_4)
noncomputable def t16_h4 (k : Nat) (rec : S16 → Option R16) (i3 : Int) (n5 : Int) (end6 : Bool) (t25 : Rs) (t26 : Int) (t27 : Int) (t72 : Bool) (loc4_0 : Int) (loc4_1 : Int) (loc4_2 : Int) (loc4_3 : Int) (loc1_0 : Int) (loc1_1 : Int) (loc1_2 : Rs) (loc1_3 : Rs) (loc1_4 : Rs) : Option R16 :=
  bif t72 then
    rec (.h6 n5 t25 t26 t27 t72 loc4_0 loc4_1 loc4_2 loc4_3 loc1_0 loc1_1 loc1_2 loc1_3 loc1_4)
  else
    bif end6 then
      rec (.h7 n5 t25 t26 t27 (decide (loc4_2 ≥ i3)) loc4_0 loc4_1 loc4_2 loc4_3 loc1_0 loc1_1 loc1_2 loc1_3 loc1_4)
    else
      rec (.h7 n5 t25 t26 t27 false loc4_0 loc4_1 loc4_2 loc4_3 loc1_0 loc1_1 loc1_2 loc1_3 loc1_4)
noncomputable def t16_h5 (k : Nat) (rec : S16 → Option R16) (i3 : Int) (n5 : Int) (end6 : Bool) (t25 : Rs) (t26 : Int) (t27 : Int) (t39 : Bool) (loc4_0 : Int) (loc4_1 : Int) (loc4_2 : Int) (loc4_3 : Int) (loc1_0 : Int) (loc1_1 : Int) (loc1_2 : Rs) (loc1_3 : Rs) (loc1_4 : Rs) : Option R16 :=
  bif t39 then
    rec (.h2 i3 n5 end6 t25 t26 t27 t39 loc4_0 loc4_1 loc4_2 loc4_3 loc1_0 loc1_1 loc1_2 loc1_3 loc1_4)
  else
    bif decide (n5 < 2) then
      rec (.h8 i3 n5 end6 t25 t26 t27 (loc4_3 != 0) loc4_0 loc4_1 loc4_2 loc4_3 loc1_0 loc1_1 loc1_2 loc1_3 loc1_4)
    else
      rec (.h8 i3 n5 end6 t25 t26 t27 false loc4_0 loc4_1 loc4_2 loc4_3 loc1_0 loc1_1 loc1_2 loc1_3 loc1_4)
noncomputable def t16_h6 (k : Nat) (rec : S16 → Option R16) (n5 : Int) (t25 : Rs) (t26 : Int) (t27 : Int) (t72 : Bool) (loc4_0 : Int) (loc4_1 : Int) (loc4_2 : Int) (loc4_3 : Int) (loc1_0 : Int) (loc1_1 : Int) (loc1_2 : Rs) (loc1_3 : Rs) (loc1_4 : Rs) : Option R16 :=
  bif t72 then
    some false
  else
    bif n5 == 0 then
      bif loc4_0 != 50 then
        bif loc4_0 != 51 then
          rec (.h9 t25 t26 t27 (loc4_0 != 52) loc1_0 loc1_1 loc1_2 loc1_3 loc1_4)
        else
          rec (.h9 t25 t26 t27 false loc1_0 loc1_1 loc1_2 loc1_3 loc1_4)
      else
        rec (.h9 t25 t26 t27 false loc1_0 loc1_1 loc1_2 loc1_3 loc1_4)
    else
      rec (.h9 t25 t26 t27 false loc1_0 loc1_1 loc1_2 loc1_3 loc1_4)
noncomputable def t16_h7 (k : Nat) (rec : S16 → Option R16) (n5 : Int) (t25 : Rs) (t26 : Int) (t27 : Int) (t72 : Bool) (loc4_0 : Int) (loc4_1 : Int) (loc4_2 : Int) (loc4_3 : Int) (loc1_0 : Int) (loc1_1 : Int) (loc1_2 : Rs) (loc1_3 : Rs) (loc1_4 : Rs) : Option R16 :=
  bif t72 then
    rec (.h6 n5 t25 t26 t27 t72 loc4_0 loc4_1 loc4_2 loc4_3 loc1_0 loc1_1 loc1_2 loc1_3 loc1_4)
  else
    bif loc4_0 == 50 then
      rec (.h10 n5 t25 t26 t27 (decide (loc4_2 ≥ (loc1_2.length : Int))) loc4_0 loc4_1 loc4_2 loc4_3 loc1_0 loc1_1 loc1_2 loc1_3 loc1_4)
    else
      rec (.h10 n5 t25 t26 t27 false loc4_0 loc4_1 loc4_2 loc4_3 loc1_0 loc1_1 loc1_2 loc1_3 loc1_4)
noncomputable def t16_h8 (k : Nat) (rec : S16 → Option R16) (i3 : Int) (n5 : Int) (end6 : Bool) (t25 : Rs) (t26 : Int) (t27 : Int) (t39 : Bool) (loc4_0 : Int) (loc4_1 : Int) (loc4_2 : Int) (loc4_3 : Int) (loc1_0 : Int) (loc1_1 : Int) (loc1_2 : Rs) (loc1_3 : Rs) (loc1_4 : Rs) : Option R16 :=
  bif t39 then
    rec (.h2 i3 n5 end6 t25 t26 t27 t39 loc4_0 loc4_1 loc4_2 loc4_3 loc1_0 loc1_1 loc1_2 loc1_3 loc1_4)
  else
    bif decide (loc4_2 < 0) then
      rec (.h2 i3 n5 end6 t25 t26 t27 true loc4_0 loc4_1 loc4_2 loc4_3 loc1_0 loc1_1 loc1_2 loc1_3 loc1_4)
    else
      rec (.h2 i3 n5 end6 t25 t26 t27 (decide (loc4_3 < 0)) loc4_0 loc4_1 loc4_2 loc4_3 loc1_0 loc1_1 loc1_2 loc1_3 loc1_4)
noncomputable def t16_h9 (k : Nat) (rec : S16 → Option R16) (t25 : Rs) (t26 : Int) (t27 : Int) (t116 : Bool) (loc1_0 : Int) (loc1_1 : Int) (loc1_2 : Rs) (loc1_3 : Rs) (loc1_4 : Rs) : Option R16 :=
  bif t116 then
    some false
  else
    rec (.h1 t25 t26 (IntKind.i64.wrap (t27 + 1)) loc1_0 loc1_1 loc1_2 loc1_3 loc1_4)
noncomputable def t16_h10 (k : Nat) (rec : S16 → Option R16) (n5 : Int) (t25 : Rs) (t26 : Int) (t27 : Int) (t72 : Bool) (loc4_0 : Int) (loc4_1 : Int) (loc4_2 : Int) (loc4_3 : Int) (loc1_0 : Int) (loc1_1 : Int) (loc1_2 : Rs) (loc1_3 : Rs) (loc1_4 : Rs) : Option R16 :=
  bif t72 then
    rec (.h6 n5 t25 t26 t27 t72 loc4_0 loc4_1 loc4_2 loc4_3 loc1_0 loc1_1 loc1_2 loc1_3 loc1_4)
  else
    bif loc4_0 == 51 then
      rec (.h6 n5 t25 t26 t27 (decide (loc4_2 ≥ (loc1_3.length : Int))) loc4_0 loc4_1 loc4_2 loc4_3 loc1_0 loc1_1 loc1_2 loc1_3 loc1_4)
    else
      rec (.h6 n5 t25 t26 t27 false loc4_0 loc4_1 loc4_2 loc4_3 loc1_0 loc1_1 loc1_2 loc1_3 loc1_4)
noncomputable def step16 (k : Nat) (rec : S16 → Option R16) : S16 → Option R16
  | .e c0_0 c0_1 c0_2 c0_3 c0_4 => t16_e k rec c0_0 c0_1 c0_2 c0_3 c0_4
  | .h0 t23 loc1_0 loc1_1 loc1_2 loc1_3 loc1_4 => t16_h0 k rec t23 loc1_0 loc1_1 loc1_2 loc1_3 loc1_4
  | .h1 t25 t26 t27 loc1_0 loc1_1 loc1_2 loc1_3 loc1_4 => t16_h1 k rec t25 t26 t27 loc1_0 loc1_1 loc1_2 loc1_3 loc1_4
  | .h2 i3 n5 end6 t25 t26 t27 t39 loc4_0 loc4_1 loc4_2 loc4_3 loc1_0 loc1_1 loc1_2 loc1_3 loc1_4 => t16_h2 k rec i3 n5 end6 t25 t26 t27 t39 loc4_0 loc4_1 loc4_2 loc4_3 loc1_0 loc1_1 loc1_2 loc1_3 loc1_4
  | .h3 i3 n5 end6 t25 t26 t27 t39 loc4_0 loc4_1 loc4_2 loc4_3 loc1_0 loc1_1 loc1_2 loc1_3 loc1_4 => t16_h3 k rec i3 n5 end6 t25 t26 t27 t39 loc4_0 loc4_1 loc4_2 loc4_3 loc1_0 loc1_1 loc1_2 loc1_3 loc1_4
  | .h4 i3 n5 end6 t25 t26 t27 t72 loc4_0 loc4_1 loc4_2 loc4_3 loc1_0 loc1_1 loc1_2 loc1_3 loc1_4 => t16_h4 k rec i3 n5 end6 t25 t26 t27 t72 loc4_0 loc4_1 loc4_2 loc4_3 loc1_0 loc1_1 loc1_2 loc1_3 loc1_4
  | .h5 i3 n5 end6 t25 t26 t27 t39 loc4_0 loc4_1 loc4_2 loc4_3 loc1_0 loc1_1 loc1_2 loc1_3 loc1_4 => t16_h5 k rec i3 n5 end6 t25 t26 t27 t39 loc4_0 loc4_1 loc4_2 loc4_3 loc1_0 loc1_1 loc1_2 loc1_3 loc1_4
  | .h6 n5 t25 t26 t27 t72 loc4_0 loc4_1 loc4_2 loc4_3 loc1_0 loc1_1 loc1_2 loc1_3 loc1_4 => t16_h6 k rec n5 t25 t26 t27 t72 loc4_0 loc4_1 loc4_2 loc4_3 loc1_0 loc1_1 loc1_2 loc1_3 loc1_4
  | .h7 n5 t25 t26 t27 t72 loc4_0 loc4_1 loc4_2 loc4_3 loc1_0 loc1_1 loc1_2 loc1_3 loc1_4 => t16_h7 k rec n5 t25 t26 t27 t72 loc4_0 loc4_1 loc4_2 loc4_3 loc1_0 loc1_1 loc1_2 loc1_3 loc1_4
  | .h8 i3 n5 end6 t25 t26 t27 t39 loc4_0 loc4_1 loc4_2 loc4_3 loc1_0 loc1_1 loc1_2 loc1_3 loc1_4 => t16_h8 k rec i3 n5 end6 t25 t26 t27 t39 loc4_0 loc4_1 loc4_2 loc4_3 loc1_0 loc1_1 loc1_2 loc1_3 loc1_4
  | .h9 t25 t26 t27 t116 loc1_0 loc1_1 loc1_2 loc1_3 loc1_4 => t16_h9 k rec t25 t26 t27 t116 loc1_0 loc1_1 loc1_2 loc1_3 loc1_4
  | .h10 n5 t25 t26 t27 t72 loc4_0 loc4_1 loc4_2 loc4_3 loc1_0 loc1_1 loc1_2 loc1_3 loc1_4 => t16_h10 k rec n5 t25 t26 t27 t72 loc4_0 loc4_1 loc4_2 loc4_3 loc1_0 loc1_1 loc1_2 loc1_3 loc1_4
noncomputable def g16 (k : Nat) (c0_0 : Int) (c0_1 : Int) (c0_2 : Rs) (c0_3 : Rs) (c0_4 : Rs) : Option R16 := itS step16 k (.e c0_0 c0_1 c0_2 c0_3 c0_4)
noncomputable def P16 : S16 → R16 → Prop
  | .e c0_0 c0_1 c0_2 c0_3 c0_4, r => Fin cx16 Try.f16 [.code body16] (fr0 Try.f16 [.ag [ic c0_0, ic c0_1, .imm c0_2, .imm c0_3, .imm c0_4]] []) (res16 r) (bx16 r)
  | .h0 t23 loc1_0 loc1_1 loc1_2 loc1_3 loc1_4, r => Fin cx16 Try.f16 (kAt body16 [1, 0, 1, 2] []) ⟨[.deadv, .c (.ptr ⟨⟨.loc 1, []⟩, 0, 0⟩)] ++ rep 21 .deadv ++ [.c (bc t23)] ++ rep 111 .deadv, [(.loc 1, [ic loc1_0, ic loc1_1, .imm loc1_2, .imm loc1_3, .imm loc1_4])]⟩ (res16 r) (bx16 r)
  | .h1 t25 t26 t27 loc1_0 loc1_1 loc1_2 loc1_3 loc1_4, r => Fin cx16 Try.f16 (kAt body16 [1, 1, 0, 1, 0, 4] []) ⟨[.deadv, .c (.ptr ⟨⟨.loc 1, []⟩, 0, 0⟩)] ++ rep 23 .deadv ++ [.c (.imm t25), .c (ic t26), .c (ic t27)] ++ rep 107 .deadv, [(.loc 1, [ic loc1_0, ic loc1_1, .imm loc1_2, .imm loc1_3, .imm loc1_4])]⟩ (res16 r) (bx16 r)
  | .h2 i3 n5 end6 t25 t26 t27 t39 loc4_0 loc4_1 loc4_2 loc4_3 loc1_0 loc1_1 loc1_2 loc1_3 loc1_4, r => Fin cx16 Try.f16 (kAt body16 [1, 1, 0, 1, 0, 0, 1, 1, 0, 0, 1, 1, 1, 0, 1, 2] []) ⟨[.deadv, .c (.ptr ⟨⟨.loc 1, []⟩, 0, 0⟩), .deadv, .c (ic i3), .c (.ptr ⟨⟨.loc 4, []⟩, 0, 0⟩), .c (ic n5), .c (bc end6)] ++ rep 18 .deadv ++ [.c (.imm t25), .c (ic t26), .c (ic t27)] ++ rep 11 .deadv ++ [.c (bc t39)] ++ rep 95 .deadv, [(.loc 4, [ic loc4_0, ic loc4_1, ic loc4_2, ic loc4_3]), (.loc 1, [ic loc1_0, ic loc1_1, .imm loc1_2, .imm loc1_3, .imm loc1_4])]⟩ (res16 r) (bx16 r)
  | .h3 i3 n5 end6 t25 t26 t27 t39 loc4_0 loc4_1 loc4_2 loc4_3 loc1_0 loc1_1 loc1_2 loc1_3 loc1_4, r => Fin cx16 Try.f16 (kAt body16 [1, 1, 0, 1, 0, 0, 1, 1, 0, 0, 1, 1, 1, 0, 0, 1, 1, 1, 2] []) ⟨[.deadv, .c (.ptr ⟨⟨.loc 1, []⟩, 0, 0⟩), .deadv, .c (ic i3), .c (.ptr ⟨⟨.loc 4, []⟩, 0, 0⟩), .c (ic n5), .c (bc end6)] ++ rep 18 .deadv ++ [.c (.imm t25), .c (ic t26), .c (ic t27)] ++ rep 11 .deadv ++ [.c (bc t39)] ++ rep 95 .deadv, [(.loc 4, [ic loc4_0, ic loc4_1, ic loc4_2, ic loc4_3]), (.loc 1, [ic loc1_0, ic loc1_1, .imm loc1_2, .imm loc1_3, .imm loc1_4])]⟩ (res16 r) (bx16 r)
  | .h4 i3 n5 end6 t25 t26 t27 t72 loc4_0 loc4_1 loc4_2 loc4_3 loc1_0 loc1_1 loc1_2 loc1_3 loc1_4, r => Fin cx16 Try.f16 (kAt body16 [1, 1, 0, 1, 0, 0, 1, 1, 0, 0, 1, 1, 1, 0, 1, 1, 0, 1, 2] []) ⟨[.deadv, .c (.ptr ⟨⟨.loc 1, []⟩, 0, 0⟩), .deadv, .c (ic i3), .c (.ptr ⟨⟨.loc 4, []⟩, 0, 0⟩), .c (ic n5), .c (bc end6)] ++ rep 18 .deadv ++ [.c (.imm t25), .c (ic t26), .c (ic t27)] ++ rep 44 .deadv ++ [.c (bc t72)] ++ rep 62 .deadv, [(.loc 4, [ic loc4_0, ic loc4_1, ic loc4_2, ic loc4_3]), (.loc 1, [ic loc1_0, ic loc1_1, .imm loc1_2, .imm loc1_3, .imm loc1_4])]⟩ (res16 r) (bx16 r)
  | .h5 i3 n5 end6 t25 t26 t27 t39 loc4_0 loc4_1 loc4_2 loc4_3 loc1_0 loc1_1 loc1_2 loc1_3 loc1_4, r => Fin cx16 Try.f16 (kAt body16 [1, 1, 0, 1, 0, 0, 1, 1, 0, 0, 1, 1, 1, 0, 0, 1, 1, 1, 1, 1, 2] []) ⟨[.deadv, .c (.ptr ⟨⟨.loc 1, []⟩, 0, 0⟩), .deadv, .c (ic i3), .c (.ptr ⟨⟨.loc 4, []⟩, 0, 0⟩), .c (ic n5), .c (bc end6)] ++ rep 18 .deadv ++ [.c (.imm t25), .c (ic t26), .c (ic t27)] ++ rep 11 .deadv ++ [.c (bc t39)] ++ rep 95 .deadv, [(.loc 4, [ic loc4_0, ic loc4_1, ic loc4_2, ic loc4_3]), (.loc 1, [ic loc1_0, ic loc1_1, .imm loc1_2, .imm loc1_3, .imm loc1_4])]⟩ (res16 r) (bx16 r)
  | .h6 n5 t25 t26 t27 t72 loc4_0 loc4_1 loc4_2 loc4_3 loc1_0 loc1_1 loc1_2 loc1_3 loc1_4, r => Fin cx16 Try.f16 (kAt body16 [1, 1, 0, 1, 0, 0, 1, 1, 0, 0, 1, 1, 1, 0, 1, 1, 1, 2] []) ⟨[.deadv, .c (.ptr ⟨⟨.loc 1, []⟩, 0, 0⟩), .deadv, .deadv, .c (.ptr ⟨⟨.loc 4, []⟩, 0, 0⟩), .c (ic n5)] ++ rep 19 .deadv ++ [.c (.imm t25), .c (ic t26), .c (ic t27)] ++ rep 44 .deadv ++ [.c (bc t72)] ++ rep 62 .deadv, [(.loc 4, [ic loc4_0, ic loc4_1, ic loc4_2, ic loc4_3]), (.loc 1, [ic loc1_0, ic loc1_1, .imm loc1_2, .imm loc1_3, .imm loc1_4])]⟩ (res16 r) (bx16 r)
  | .h7 n5 t25 t26 t27 t72 loc4_0 loc4_1 loc4_2 loc4_3 loc1_0 loc1_1 loc1_2 loc1_3 loc1_4, r => Fin cx16 Try.f16 (kAt body16 [1, 1, 0, 1, 0, 0, 1, 1, 0, 0, 1, 1, 1, 0, 1, 1, 0, 1, 1, 1, 2] []) ⟨[.deadv, .c (.ptr ⟨⟨.loc 1, []⟩, 0, 0⟩), .deadv, .deadv, .c (.ptr ⟨⟨.loc 4, []⟩, 0, 0⟩), .c (ic n5)] ++ rep 19 .deadv ++ [.c (.imm t25), .c (ic t26), .c (ic t27)] ++ rep 44 .deadv ++ [.c (bc t72)] ++ rep 62 .deadv, [(.loc 4, [ic loc4_0, ic loc4_1, ic loc4_2, ic loc4_3]), (.loc 1, [ic loc1_0, ic loc1_1, .imm loc1_2, .imm loc1_3, .imm loc1_4])]⟩ (res16 r) (bx16 r)
  | .h8 i3 n5 end6 t25 t26 t27 t39 loc4_0 loc4_1 loc4_2 loc4_3 loc1_0 loc1_1 loc1_2 loc1_3 loc1_4, r => Fin cx16 Try.f16 (kAt body16 [1, 1, 0, 1, 0, 0, 1, 1, 0, 0, 1, 1, 1, 0, 0, 1, 1, 1, 1, 1, 1, 1, 2] []) ⟨[.deadv, .c (.ptr ⟨⟨.loc 1, []⟩, 0, 0⟩), .deadv, .c (ic i3), .c (.ptr ⟨⟨.loc 4, []⟩, 0, 0⟩), .c (ic n5), .c (bc end6)] ++ rep 18 .deadv ++ [.c (.imm t25), .c (ic t26), .c (ic t27)] ++ rep 11 .deadv ++ [.c (bc t39)] ++ rep 95 .deadv, [(.loc 4, [ic loc4_0, ic loc4_1, ic loc4_2, ic loc4_3]), (.loc 1, [ic loc1_0, ic loc1_1, .imm loc1_2, .imm loc1_3, .imm loc1_4])]⟩ (res16 r) (bx16 r)
  | .h9 t25 t26 t27 t116 loc1_0 loc1_1 loc1_2 loc1_3 loc1_4, r => Fin cx16 Try.f16 (kAt body16 [1, 1, 0, 1, 0, 0, 1, 1, 0, 0, 1, 1, 1, 0, 1, 1, 1, 1, 1, 2] []) ⟨[.deadv, .c (.ptr ⟨⟨.loc 1, []⟩, 0, 0⟩)] ++ rep 23 .deadv ++ [.c (.imm t25), .c (ic t26), .c (ic t27)] ++ rep 88 .deadv ++ [.c (bc t116)] ++ rep 18 .deadv, [(.loc 1, [ic loc1_0, ic loc1_1, .imm loc1_2, .imm loc1_3, .imm loc1_4])]⟩ (res16 r) (bx16 r)
  | .h10 n5 t25 t26 t27 t72 loc4_0 loc4_1 loc4_2 loc4_3 loc1_0 loc1_1 loc1_2 loc1_3 loc1_4, r => Fin cx16 Try.f16 (kAt body16 [1, 1, 0, 1, 0, 0, 1, 1, 0, 0, 1, 1, 1, 0, 1, 1, 0, 1, 1, 1, 1, 1, 2] []) ⟨[.deadv, .c (.ptr ⟨⟨.loc 1, []⟩, 0, 0⟩), .deadv, .deadv, .c (.ptr ⟨⟨.loc 4, []⟩, 0, 0⟩), .c (ic n5)] ++ rep 19 .deadv ++ [.c (.imm t25), .c (ic t26), .c (ic t27)] ++ rep 44 .deadv ++ [.c (bc t72)] ++ rep 62 .deadv, [(.loc 4, [ic loc4_0, ic loc4_1, ic loc4_2, ic loc4_3]), (.loc 1, [ic loc1_0, ic loc1_1, .imm loc1_2, .imm loc1_3, .imm loc1_4])]⟩ (res16 r) (bx16 r)
theorem evr16 {c0_0 : Int} {c0_1 : Int} {c0_2 : Rs} {c0_3 : Rs} {c0_4 : Rs} {r : R16} (h : P16 (.e c0_0 c0_1 c0_2 c0_3 c0_4) r) : Ev Try.prog noHand 16 [.ag [ic c0_0, ic c0_1, .imm c0_2, .imm c0_3, .imm c0_4]] [] (res16 r) (bx16 r) := ev_of_fin (fn := Try.f16) (body := body16) (by kernel_rfl) (by kernel_rfl) (by kernel_rfl) rfl h
theorem t16_e_ok (k : Nat) (rec : S16 → Option R16) (ih : ∀ s r, rec s = some r → P16 s r) (c0_0 : Int) (c0_1 : Int) (c0_2 : Rs) (c0_3 : Rs) (c0_4 : Rs) (r : R16) (h : t16_e k rec c0_0 c0_1 c0_2 c0_3 c0_4 = some r) : P16 (.e c0_0 c0_1 c0_2 c0_3 c0_4) r := by
  unfold t16_e at h
  rcases bif_or h with ⟨h1, h⟩ | ⟨h1, h⟩
  ·
    exact mgo_at (nb := 0) hmix (ih _ _ h) (n := 5) (ad := [(some 9, .test true)]) (ps := [_]) (m := bm 135 43556142965880123323311949751266322677757) (ls := []) (by kernel_rfl) ⟨h1, trivial⟩
  ·
    rcases bif_or h with ⟨h2, h⟩ | ⟨h2, h⟩
    ·
      exact mgo_at (nb := 0) hmix (ih _ _ h) (n := 5) (ad := [(some 9, .test false), (some 13, .test true)]) (ps := [_, _]) (m := bm 135 43556142965880123323311949751266322677757) (ls := []) (by kernel_rfl) ⟨h1, h2, trivial⟩
    ·
      exact mgo_at (nb := 0) hmix (ih _ _ h) (n := 5) (ad := [(some 9, .test false), (some 13, .test false)]) (ps := [_, _]) (m := bm 135 43556142965880123323311949751266322677757) (ls := []) (by kernel_rfl) ⟨h1, h2, trivial⟩
theorem t16_h0_ok (k : Nat) (rec : S16 → Option R16) (ih : ∀ s r, rec s = some r → P16 s r) (t23 : Bool) (loc1_0 : Int) (loc1_1 : Int) (loc1_2 : Rs) (loc1_3 : Rs) (loc1_4 : Rs) (r : R16) (h : t16_h0 k rec t23 loc1_0 loc1_1 loc1_2 loc1_3 loc1_4 = some r) : P16 (.h0 t23 loc1_0 loc1_1 loc1_2 loc1_3 loc1_4) r := by
  unfold t16_h0 at h
  rcases bif_or h with ⟨hq, h1'⟩ | ⟨hq, h1'⟩
  · clear h; subst hq; have h := h1'; clear h1'
    rw [← Option.some.inj h]
    exact mgo_fin (nb := 0) hmix (n := 2000) (ad := []) (ps := []) (by kernel_rfl) trivial
  · clear h; subst hq; have h := h1'; clear h1'
    exact mgo_at (nb := 0) hmix (ih _ _ h) (n := 7) (ad := []) (ps := []) (m := bm 135 43556142965880123323311949751266096185341) (ls := []) (by kernel_rfl) trivial
theorem t16_h1_ok (k : Nat) (rec : S16 → Option R16) (ih : ∀ s r, rec s = some r → P16 s r) (t25 : Rs) (t26 : Int) (t27 : Int) (loc1_0 : Int) (loc1_1 : Int) (loc1_2 : Rs) (loc1_3 : Rs) (loc1_4 : Rs) (r : R16) (h : t16_h1 k rec t25 t26 t27 loc1_0 loc1_1 loc1_2 loc1_3 loc1_4 = some r) : P16 (.h1 t25 t26 t27 loc1_0 loc1_1 loc1_2 loc1_3 loc1_4) r := by
  unfold t16_h1 at h
  rcases bif_or h with ⟨h1, h⟩ | ⟨h1, h⟩
  ·
    obtain ⟨w2, h3, h⟩ := ixR_or h
    obtain ⟨op4, dst4, a4, b4, hq, h1'⟩ := un_i4_or h
    clear h; subst hq; have h := h1'; clear h1'
    obtain ⟨v5, h6, h⟩ := bd_or h
    rcases bif_or h with ⟨h7, h⟩ | ⟨h7, h⟩
    ·
      rcases bif_or h with ⟨h8, h⟩ | ⟨h8, h⟩
      ·
        exact mgo_at (nb := 0) hmix (ih _ _ h) (n := 20) (ad := [(some 28, .test true), (some 30, .row [ic op4, ic dst4, ic a4, ic b4]), (some 34, .call (.ret (.c (ic v5))) [] false), (some 38, .test true), (some 44, .test true)]) (ps := [_, _, _, _, _]) (m := bm 135 43556142965880123323311949750716340371333) (ls := []) (by kernel_rfl) ⟨h1, ix_row h3 rfl, (ev31 h6), h7, h8, trivial⟩
      ·
        exact mgo_at (nb := 0) hmix (ih _ _ h) (n := 21) (ad := [(some 28, .test true), (some 30, .row [ic op4, ic dst4, ic a4, ic b4]), (some 34, .call (.ret (.c (ic v5))) [] false), (some 38, .test true), (some 44, .test false)]) (ps := [_, _, _, _, _]) (m := bm 135 43556142965880123323311949750716340371333) (ls := []) (by kernel_rfl) ⟨h1, ix_row h3 rfl, (ev31 h6), h7, h8, trivial⟩
    ·
      rcases bif_or h with ⟨h8, h⟩ | ⟨h8, h⟩
      ·
        exact mgo_at (nb := 0) hmix (ih _ _ h) (n := 20) (ad := [(some 28, .test true), (some 30, .row [ic op4, ic dst4, ic a4, ic b4]), (some 34, .call (.ret (.c (ic v5))) [] false), (some 38, .test false), (some 44, .test true)]) (ps := [_, _, _, _, _]) (m := bm 135 43556142965880123323311949750716340371333) (ls := []) (by kernel_rfl) ⟨h1, ix_row h3 rfl, (ev31 h6), h7, h8, trivial⟩
      ·
        exact mgo_at (nb := 0) hmix (ih _ _ h) (n := 21) (ad := [(some 28, .test true), (some 30, .row [ic op4, ic dst4, ic a4, ic b4]), (some 34, .call (.ret (.c (ic v5))) [] false), (some 38, .test false), (some 44, .test false)]) (ps := [_, _, _, _, _]) (m := bm 135 43556142965880123323311949750716340371333) (ls := []) (by kernel_rfl) ⟨h1, ix_row h3 rfl, (ev31 h6), h7, h8, trivial⟩
  ·
    rw [← Option.some.inj h]
    exact mgo_fin (nb := 0) hmix (n := 2000) (ad := [(some 28, .test false)]) (ps := [_]) (by kernel_rfl) ⟨h1, trivial⟩
theorem t16_h2_ok (k : Nat) (rec : S16 → Option R16) (ih : ∀ s r, rec s = some r → P16 s r) (i3 : Int) (n5 : Int) (end6 : Bool) (t25 : Rs) (t26 : Int) (t27 : Int) (t39 : Bool) (loc4_0 : Int) (loc4_1 : Int) (loc4_2 : Int) (loc4_3 : Int) (loc1_0 : Int) (loc1_1 : Int) (loc1_2 : Rs) (loc1_3 : Rs) (loc1_4 : Rs) (r : R16) (h : t16_h2 k rec i3 n5 end6 t25 t26 t27 t39 loc4_0 loc4_1 loc4_2 loc4_3 loc1_0 loc1_1 loc1_2 loc1_3 loc1_4 = some r) : P16 (.h2 i3 n5 end6 t25 t26 t27 t39 loc4_0 loc4_1 loc4_2 loc4_3 loc1_0 loc1_1 loc1_2 loc1_3 loc1_4) r := by
  unfold t16_h2 at h
  rcases bif_or h with ⟨hq, h1'⟩ | ⟨hq, h1'⟩
  · clear h; subst hq; have h := h1'; clear h1'
    rw [← Option.some.inj h]
    exact mgo_fin (nb := 0) hmix (n := 2000) (ad := []) (ps := []) (by kernel_rfl) trivial
  · clear h; subst hq; have h := h1'; clear h1'
    rcases bif_or h with ⟨h1, h⟩ | ⟨h1, h⟩
    ·
      rcases bif_or h with ⟨h2, h⟩ | ⟨h2, h⟩
      ·
        exact mgo_at (nb := 0) hmix (ih _ _ h) (n := 4) (ad := [(some 74, .test true), (some 79, .test true)]) (ps := [_, _]) (m := bm 135 43556142965880123318589583268396450971525) (ls := []) (by kernel_rfl) ⟨h1, h2, trivial⟩
      ·
        exact mgo_at (nb := 0) hmix (ih _ _ h) (n := 4) (ad := [(some 74, .test true), (some 79, .test false)]) (ps := [_, _]) (m := bm 135 43556142965880123318589583268396450971525) (ls := []) (by kernel_rfl) ⟨h1, h2, trivial⟩
    ·
      exact mgo_at (nb := 0) hmix (ih _ _ h) (n := 4) (ad := [(some 74, .test false)]) (ps := [_]) (m := bm 135 43556142965880123318589583268396450971525) (ls := []) (by kernel_rfl) ⟨h1, trivial⟩
theorem t16_h3_ok (k : Nat) (rec : S16 → Option R16) (ih : ∀ s r, rec s = some r → P16 s r) (i3 : Int) (n5 : Int) (end6 : Bool) (t25 : Rs) (t26 : Int) (t27 : Int) (t39 : Bool) (loc4_0 : Int) (loc4_1 : Int) (loc4_2 : Int) (loc4_3 : Int) (loc1_0 : Int) (loc1_1 : Int) (loc1_2 : Rs) (loc1_3 : Rs) (loc1_4 : Rs) (r : R16) (h : t16_h3 k rec i3 n5 end6 t25 t26 t27 t39 loc4_0 loc4_1 loc4_2 loc4_3 loc1_0 loc1_1 loc1_2 loc1_3 loc1_4 = some r) : P16 (.h3 i3 n5 end6 t25 t26 t27 t39 loc4_0 loc4_1 loc4_2 loc4_3 loc1_0 loc1_1 loc1_2 loc1_3 loc1_4) r := by
  unfold t16_h3 at h
  rcases bif_or h with ⟨hq, h1'⟩ | ⟨hq, h1'⟩
  · clear h; subst hq; have h := h1'; clear h1'
    exact mgo_at (nb := 0) hmix (ih _ _ h) (n := 2) (ad := []) (ps := []) (m := bm 135 43556142965880123323311949750716340371333) (ls := []) (by kernel_rfl) trivial
  · clear h; subst hq; have h := h1'; clear h1'
    rcases bif_or h with ⟨h1, h⟩ | ⟨h1, h⟩
    ·
      exact mgo_at (nb := 0) hmix (ih _ _ h) (n := 3) (ad := [(some 52, .test true)]) (ps := [_]) (m := bm 135 43556142965880123323311949750716340371333) (ls := []) (by kernel_rfl) ⟨h1, trivial⟩
    ·
      exact mgo_at (nb := 0) hmix (ih _ _ h) (n := 3) (ad := [(some 52, .test false)]) (ps := [_]) (m := bm 135 43556142965880123323311949750716340371333) (ls := []) (by kernel_rfl) ⟨h1, trivial⟩
theorem t16_h4_ok (k : Nat) (rec : S16 → Option R16) (ih : ∀ s r, rec s = some r → P16 s r) (i3 : Int) (n5 : Int) (end6 : Bool) (t25 : Rs) (t26 : Int) (t27 : Int) (t72 : Bool) (loc4_0 : Int) (loc4_1 : Int) (loc4_2 : Int) (loc4_3 : Int) (loc1_0 : Int) (loc1_1 : Int) (loc1_2 : Rs) (loc1_3 : Rs) (loc1_4 : Rs) (r : R16) (h : t16_h4 k rec i3 n5 end6 t25 t26 t27 t72 loc4_0 loc4_1 loc4_2 loc4_3 loc1_0 loc1_1 loc1_2 loc1_3 loc1_4 = some r) : P16 (.h4 i3 n5 end6 t25 t26 t27 t72 loc4_0 loc4_1 loc4_2 loc4_3 loc1_0 loc1_1 loc1_2 loc1_3 loc1_4) r := by
  unfold t16_h4 at h
  rcases bif_or h with ⟨hq, h1'⟩ | ⟨hq, h1'⟩
  · clear h; subst hq; have h := h1'; clear h1'
    exact mgo_at (nb := 0) hmix (ih _ _ h) (n := 2) (ad := []) (ps := []) (m := bm 135 43556142965880123318589583268396450971597) (ls := []) (by kernel_rfl) trivial
  · clear h; subst hq; have h := h1'; clear h1'
    rcases bif_or h with ⟨hq, h1'⟩ | ⟨hq, h1'⟩
    · clear h; subst hq; have h := h1'; clear h1'
      exact mgo_at (nb := 0) hmix (ih _ _ h) (n := 3) (ad := []) (ps := []) (m := bm 135 43556142965880123318589583268396450971597) (ls := []) (by kernel_rfl) trivial
    · clear h; subst hq; have h := h1'; clear h1'
      exact mgo_at (nb := 0) hmix (ih _ _ h) (n := 3) (ad := []) (ps := []) (m := bm 135 43556142965880123318589583268396450971597) (ls := []) (by kernel_rfl) trivial
theorem t16_h5_ok (k : Nat) (rec : S16 → Option R16) (ih : ∀ s r, rec s = some r → P16 s r) (i3 : Int) (n5 : Int) (end6 : Bool) (t25 : Rs) (t26 : Int) (t27 : Int) (t39 : Bool) (loc4_0 : Int) (loc4_1 : Int) (loc4_2 : Int) (loc4_3 : Int) (loc1_0 : Int) (loc1_1 : Int) (loc1_2 : Rs) (loc1_3 : Rs) (loc1_4 : Rs) (r : R16) (h : t16_h5 k rec i3 n5 end6 t25 t26 t27 t39 loc4_0 loc4_1 loc4_2 loc4_3 loc1_0 loc1_1 loc1_2 loc1_3 loc1_4 = some r) : P16 (.h5 i3 n5 end6 t25 t26 t27 t39 loc4_0 loc4_1 loc4_2 loc4_3 loc1_0 loc1_1 loc1_2 loc1_3 loc1_4) r := by
  unfold t16_h5 at h
  rcases bif_or h with ⟨hq, h1'⟩ | ⟨hq, h1'⟩
  · clear h; subst hq; have h := h1'; clear h1'
    exact mgo_at (nb := 0) hmix (ih _ _ h) (n := 2) (ad := []) (ps := []) (m := bm 135 43556142965880123323311949750716340371333) (ls := []) (by kernel_rfl) trivial
  · clear h; subst hq; have h := h1'; clear h1'
    rcases bif_or h with ⟨h1, h⟩ | ⟨h1, h⟩
    ·
      exact mgo_at (nb := 0) hmix (ih _ _ h) (n := 3) (ad := [(some 60, .test true)]) (ps := [_]) (m := bm 135 43556142965880123323311949750716340371333) (ls := []) (by kernel_rfl) ⟨h1, trivial⟩
    ·
      exact mgo_at (nb := 0) hmix (ih _ _ h) (n := 3) (ad := [(some 60, .test false)]) (ps := [_]) (m := bm 135 43556142965880123323311949750716340371333) (ls := []) (by kernel_rfl) ⟨h1, trivial⟩
theorem t16_h6_ok (k : Nat) (rec : S16 → Option R16) (ih : ∀ s r, rec s = some r → P16 s r) (n5 : Int) (t25 : Rs) (t26 : Int) (t27 : Int) (t72 : Bool) (loc4_0 : Int) (loc4_1 : Int) (loc4_2 : Int) (loc4_3 : Int) (loc1_0 : Int) (loc1_1 : Int) (loc1_2 : Rs) (loc1_3 : Rs) (loc1_4 : Rs) (r : R16) (h : t16_h6 k rec n5 t25 t26 t27 t72 loc4_0 loc4_1 loc4_2 loc4_3 loc1_0 loc1_1 loc1_2 loc1_3 loc1_4 = some r) : P16 (.h6 n5 t25 t26 t27 t72 loc4_0 loc4_1 loc4_2 loc4_3 loc1_0 loc1_1 loc1_2 loc1_3 loc1_4) r := by
  unfold t16_h6 at h
  rcases bif_or h with ⟨hq, h1'⟩ | ⟨hq, h1'⟩
  · clear h; subst hq; have h := h1'; clear h1'
    rw [← Option.some.inj h]
    exact mgo_fin (nb := 0) hmix (n := 2000) (ad := []) (ps := []) (by kernel_rfl) trivial
  · clear h; subst hq; have h := h1'; clear h1'
    rcases bif_or h with ⟨h1, h⟩ | ⟨h1, h⟩
    ·
      rcases bif_or h with ⟨h2, h⟩ | ⟨h2, h⟩
      ·
        rcases bif_or h with ⟨h3, h⟩ | ⟨h3, h⟩
        ·
          exact mgo_at (nb := 0) hmix (ih _ _ h) (n := 3) (ad := [(some 118, .test true), (some 122, .test true), (some 127, .test true)]) (ps := [_, _, _]) (m := bm 135 43556059889130386766069893263324828663805) (ls := [4]) (by kernel_rfl) ⟨h1, h2, h3, trivial⟩
        ·
          exact mgo_at (nb := 0) hmix (ih _ _ h) (n := 3) (ad := [(some 118, .test true), (some 122, .test true), (some 127, .test false)]) (ps := [_, _, _]) (m := bm 135 43556059889130386766069893263324828663805) (ls := [4]) (by kernel_rfl) ⟨h1, h2, h3, trivial⟩
      ·
        exact mgo_at (nb := 0) hmix (ih _ _ h) (n := 3) (ad := [(some 118, .test true), (some 122, .test false)]) (ps := [_, _]) (m := bm 135 43556059889130386766069893263324828663805) (ls := [4]) (by kernel_rfl) ⟨h1, h2, trivial⟩
    ·
      exact mgo_at (nb := 0) hmix (ih _ _ h) (n := 3) (ad := [(some 118, .test false)]) (ps := [_]) (m := bm 135 43556059889130386766069893263324828663805) (ls := [4]) (by kernel_rfl) ⟨h1, trivial⟩
theorem t16_h7_ok (k : Nat) (rec : S16 → Option R16) (ih : ∀ s r, rec s = some r → P16 s r) (n5 : Int) (t25 : Rs) (t26 : Int) (t27 : Int) (t72 : Bool) (loc4_0 : Int) (loc4_1 : Int) (loc4_2 : Int) (loc4_3 : Int) (loc1_0 : Int) (loc1_1 : Int) (loc1_2 : Rs) (loc1_3 : Rs) (loc1_4 : Rs) (r : R16) (h : t16_h7 k rec n5 t25 t26 t27 t72 loc4_0 loc4_1 loc4_2 loc4_3 loc1_0 loc1_1 loc1_2 loc1_3 loc1_4 = some r) : P16 (.h7 n5 t25 t26 t27 t72 loc4_0 loc4_1 loc4_2 loc4_3 loc1_0 loc1_1 loc1_2 loc1_3 loc1_4) r := by
  unfold t16_h7 at h
  rcases bif_or h with ⟨hq, h1'⟩ | ⟨hq, h1'⟩
  · clear h; subst hq; have h := h1'; clear h1'
    exact mgo_at (nb := 0) hmix (ih _ _ h) (n := 2) (ad := []) (ps := []) (m := bm 135 43556142965880123318589583268396450971597) (ls := []) (by kernel_rfl) trivial
  · clear h; subst hq; have h := h1'; clear h1'
    rcases bif_or h with ⟨h1, h⟩ | ⟨h1, h⟩
    ·
      exact mgo_at (nb := 0) hmix (ih _ _ h) (n := 3) (ad := [(some 96, .test true)]) (ps := [_]) (m := bm 135 43556142965880123318589583268396450971597) (ls := []) (by kernel_rfl) ⟨h1, trivial⟩
    ·
      exact mgo_at (nb := 0) hmix (ih _ _ h) (n := 3) (ad := [(some 96, .test false)]) (ps := [_]) (m := bm 135 43556142965880123318589583268396450971597) (ls := []) (by kernel_rfl) ⟨h1, trivial⟩
theorem t16_h8_ok (k : Nat) (rec : S16 → Option R16) (ih : ∀ s r, rec s = some r → P16 s r) (i3 : Int) (n5 : Int) (end6 : Bool) (t25 : Rs) (t26 : Int) (t27 : Int) (t39 : Bool) (loc4_0 : Int) (loc4_1 : Int) (loc4_2 : Int) (loc4_3 : Int) (loc1_0 : Int) (loc1_1 : Int) (loc1_2 : Rs) (loc1_3 : Rs) (loc1_4 : Rs) (r : R16) (h : t16_h8 k rec i3 n5 end6 t25 t26 t27 t39 loc4_0 loc4_1 loc4_2 loc4_3 loc1_0 loc1_1 loc1_2 loc1_3 loc1_4 = some r) : P16 (.h8 i3 n5 end6 t25 t26 t27 t39 loc4_0 loc4_1 loc4_2 loc4_3 loc1_0 loc1_1 loc1_2 loc1_3 loc1_4) r := by
  unfold t16_h8 at h
  rcases bif_or h with ⟨hq, h1'⟩ | ⟨hq, h1'⟩
  · clear h; subst hq; have h := h1'; clear h1'
    exact mgo_at (nb := 0) hmix (ih _ _ h) (n := 2) (ad := []) (ps := []) (m := bm 135 43556142965880123323311949750716340371333) (ls := []) (by kernel_rfl) trivial
  · clear h; subst hq; have h := h1'; clear h1'
    rcases bif_or h with ⟨h1, h⟩ | ⟨h1, h⟩
    ·
      exact mgo_at (nb := 0) hmix (ih _ _ h) (n := 5) (ad := [(some 68, .test true)]) (ps := [_]) (m := bm 135 43556142965880123323311949750716340371333) (ls := []) (by kernel_rfl) ⟨h1, trivial⟩
    ·
      exact mgo_at (nb := 0) hmix (ih _ _ h) (n := 5) (ad := [(some 68, .test false)]) (ps := [_]) (m := bm 135 43556142965880123323311949750716340371333) (ls := []) (by kernel_rfl) ⟨h1, trivial⟩
theorem t16_h9_ok (k : Nat) (rec : S16 → Option R16) (ih : ∀ s r, rec s = some r → P16 s r) (t25 : Rs) (t26 : Int) (t27 : Int) (t116 : Bool) (loc1_0 : Int) (loc1_1 : Int) (loc1_2 : Rs) (loc1_3 : Rs) (loc1_4 : Rs) (r : R16) (h : t16_h9 k rec t25 t26 t27 t116 loc1_0 loc1_1 loc1_2 loc1_3 loc1_4 = some r) : P16 (.h9 t25 t26 t27 t116 loc1_0 loc1_1 loc1_2 loc1_3 loc1_4) r := by
  unfold t16_h9 at h
  rcases bif_or h with ⟨hq, h1'⟩ | ⟨hq, h1'⟩
  · clear h; subst hq; have h := h1'; clear h1'
    rw [← Option.some.inj h]
    exact mgo_fin (nb := 0) hmix (n := 2000) (ad := []) (ps := []) (by kernel_rfl) trivial
  · clear h; subst hq; have h := h1'; clear h1'
    exact mgo_at (nb := 0) hmix (ih _ _ h) (n := 5) (ad := []) (ps := []) (m := bm 135 43556142965880123323311949751266096185341) (ls := []) (by kernel_rfl) trivial
theorem t16_h10_ok (k : Nat) (rec : S16 → Option R16) (ih : ∀ s r, rec s = some r → P16 s r) (n5 : Int) (t25 : Rs) (t26 : Int) (t27 : Int) (t72 : Bool) (loc4_0 : Int) (loc4_1 : Int) (loc4_2 : Int) (loc4_3 : Int) (loc1_0 : Int) (loc1_1 : Int) (loc1_2 : Rs) (loc1_3 : Rs) (loc1_4 : Rs) (r : R16) (h : t16_h10 k rec n5 t25 t26 t27 t72 loc4_0 loc4_1 loc4_2 loc4_3 loc1_0 loc1_1 loc1_2 loc1_3 loc1_4 = some r) : P16 (.h10 n5 t25 t26 t27 t72 loc4_0 loc4_1 loc4_2 loc4_3 loc1_0 loc1_1 loc1_2 loc1_3 loc1_4) r := by
  unfold t16_h10 at h
  rcases bif_or h with ⟨hq, h1'⟩ | ⟨hq, h1'⟩
  · clear h; subst hq; have h := h1'; clear h1'
    exact mgo_at (nb := 0) hmix (ih _ _ h) (n := 2) (ad := []) (ps := []) (m := bm 135 43556142965880123318589583268396450971597) (ls := []) (by kernel_rfl) trivial
  · clear h; subst hq; have h := h1'; clear h1'
    rcases bif_or h with ⟨h1, h⟩ | ⟨h1, h⟩
    ·
      exact mgo_at (nb := 0) hmix (ih _ _ h) (n := 2) (ad := [(some 107, .test true)]) (ps := [_]) (m := bm 135 43556142965880123318589583268396450971597) (ls := []) (by kernel_rfl) ⟨h1, trivial⟩
    ·
      exact mgo_at (nb := 0) hmix (ih _ _ h) (n := 2) (ad := [(some 107, .test false)]) (ps := [_]) (m := bm 135 43556142965880123318589583268396450971597) (ls := []) (by kernel_rfl) ⟨h1, trivial⟩
theorem ok16 : ∀ k s r, itS step16 k s = some r → P16 s r := itS_ok fun k rec ih s r h => match s, h with
  | .e c0_0 c0_1 c0_2 c0_3 c0_4, h => t16_e_ok k rec ih c0_0 c0_1 c0_2 c0_3 c0_4 r h
  | .h0 t23 loc1_0 loc1_1 loc1_2 loc1_3 loc1_4, h => t16_h0_ok k rec ih t23 loc1_0 loc1_1 loc1_2 loc1_3 loc1_4 r h
  | .h1 t25 t26 t27 loc1_0 loc1_1 loc1_2 loc1_3 loc1_4, h => t16_h1_ok k rec ih t25 t26 t27 loc1_0 loc1_1 loc1_2 loc1_3 loc1_4 r h
  | .h2 i3 n5 end6 t25 t26 t27 t39 loc4_0 loc4_1 loc4_2 loc4_3 loc1_0 loc1_1 loc1_2 loc1_3 loc1_4, h => t16_h2_ok k rec ih i3 n5 end6 t25 t26 t27 t39 loc4_0 loc4_1 loc4_2 loc4_3 loc1_0 loc1_1 loc1_2 loc1_3 loc1_4 r h
  | .h3 i3 n5 end6 t25 t26 t27 t39 loc4_0 loc4_1 loc4_2 loc4_3 loc1_0 loc1_1 loc1_2 loc1_3 loc1_4, h => t16_h3_ok k rec ih i3 n5 end6 t25 t26 t27 t39 loc4_0 loc4_1 loc4_2 loc4_3 loc1_0 loc1_1 loc1_2 loc1_3 loc1_4 r h
  | .h4 i3 n5 end6 t25 t26 t27 t72 loc4_0 loc4_1 loc4_2 loc4_3 loc1_0 loc1_1 loc1_2 loc1_3 loc1_4, h => t16_h4_ok k rec ih i3 n5 end6 t25 t26 t27 t72 loc4_0 loc4_1 loc4_2 loc4_3 loc1_0 loc1_1 loc1_2 loc1_3 loc1_4 r h
  | .h5 i3 n5 end6 t25 t26 t27 t39 loc4_0 loc4_1 loc4_2 loc4_3 loc1_0 loc1_1 loc1_2 loc1_3 loc1_4, h => t16_h5_ok k rec ih i3 n5 end6 t25 t26 t27 t39 loc4_0 loc4_1 loc4_2 loc4_3 loc1_0 loc1_1 loc1_2 loc1_3 loc1_4 r h
  | .h6 n5 t25 t26 t27 t72 loc4_0 loc4_1 loc4_2 loc4_3 loc1_0 loc1_1 loc1_2 loc1_3 loc1_4, h => t16_h6_ok k rec ih n5 t25 t26 t27 t72 loc4_0 loc4_1 loc4_2 loc4_3 loc1_0 loc1_1 loc1_2 loc1_3 loc1_4 r h
  | .h7 n5 t25 t26 t27 t72 loc4_0 loc4_1 loc4_2 loc4_3 loc1_0 loc1_1 loc1_2 loc1_3 loc1_4, h => t16_h7_ok k rec ih n5 t25 t26 t27 t72 loc4_0 loc4_1 loc4_2 loc4_3 loc1_0 loc1_1 loc1_2 loc1_3 loc1_4 r h
  | .h8 i3 n5 end6 t25 t26 t27 t39 loc4_0 loc4_1 loc4_2 loc4_3 loc1_0 loc1_1 loc1_2 loc1_3 loc1_4, h => t16_h8_ok k rec ih i3 n5 end6 t25 t26 t27 t39 loc4_0 loc4_1 loc4_2 loc4_3 loc1_0 loc1_1 loc1_2 loc1_3 loc1_4 r h
  | .h9 t25 t26 t27 t116 loc1_0 loc1_1 loc1_2 loc1_3 loc1_4, h => t16_h9_ok k rec ih t25 t26 t27 t116 loc1_0 loc1_1 loc1_2 loc1_3 loc1_4 r h
  | .h10 n5 t25 t26 t27 t72 loc4_0 loc4_1 loc4_2 loc4_3 loc1_0 loc1_1 loc1_2 loc1_3 loc1_4, h => t16_h10_ok k rec ih n5 t25 t26 t27 t72 loc4_0 loc4_1 loc4_2 loc4_3 loc1_0 loc1_1 loc1_2 loc1_3 loc1_4 r h
theorem ev16 {k : Nat} {c0_0 : Int} {c0_1 : Int} {c0_2 : Rs} {c0_3 : Rs} {c0_4 : Rs} {r : R16} (h : g16 k c0_0 c0_1 c0_2 c0_3 c0_4 = some r) : Ev Try.prog noHand 16 [.ag [ic c0_0, ic c0_1, .imm c0_2, .imm c0_3, .imm c0_4]] [] (res16 r) (bx16 r) := evr16 (ok16 _ _ _ h)
-- auspice/ssa.reads
inductive S34 where
  | e (x0_0 : Int) (x0_1 : Int) (x0_2 : Int) (x0_3 : Int)
  | h0 (t3 : Bool) (loc1_0 : Int) (loc1_1 : Int) (loc1_2 : Int) (loc1_3 : Int)
abbrev R34 := (Rs) ⊕ (Unit)
def res34 : R34 → ARes
  | (.inl r) => .ret (.c (.own 1 r))
  | (.inr ()) => .ret (.c .nil)
def bx34 : R34 → List (List Cell)
  | (.inl r) => []
  | (.inr ()) => []
noncomputable def t34_e (k : Nat) (rec : S34 → Option R34) (x0_0 : Int) (x0_1 : Int) (x0_2 : Int) (x0_3 : Int) : Option R34 :=
  bif x0_0 == 52 then
    rec (.h0 true x0_0 x0_1 x0_2 x0_3)
  else
    (g30 k x0_0).bind fun v2 =>
    rec (.h0 (v2 == 1) x0_0 x0_1 x0_2 x0_3)
noncomputable def t34_h0 (k : Nat) (rec : S34 → Option R34) (t3 : Bool) (loc1_0 : Int) (loc1_1 : Int) (loc1_2 : Int) (loc1_3 : Int) : Option R34 :=
  bif t3 then
    some (.inl [[ic loc1_2]])
  else
    (g30 k loc1_0).bind fun v1 =>
    bif v1 == 2 then
      some (.inl [[ic loc1_2], [ic loc1_3]])
    else
      some (.inr ())
noncomputable def step34 (k : Nat) (rec : S34 → Option R34) : S34 → Option R34
  | .e x0_0 x0_1 x0_2 x0_3 => t34_e k rec x0_0 x0_1 x0_2 x0_3
  | .h0 t3 loc1_0 loc1_1 loc1_2 loc1_3 => t34_h0 k rec t3 loc1_0 loc1_1 loc1_2 loc1_3
noncomputable def g34 (k : Nat) (x0_0 : Int) (x0_1 : Int) (x0_2 : Int) (x0_3 : Int) : Option R34 := itS step34 k (.e x0_0 x0_1 x0_2 x0_3)
noncomputable def P34 : S34 → R34 → Prop
  | .e x0_0 x0_1 x0_2 x0_3, r => Fin cx34 Try.f34 [.code body34] (fr0 Try.f34 [.ag [ic x0_0, ic x0_1, ic x0_2, ic x0_3]] []) (res34 r) (bx34 r)
  | .h0 t3 loc1_0 loc1_1 loc1_2 loc1_3, r => Fin cx34 Try.f34 (kAt body34 [1, 0, 0, 1, 2] []) ⟨[.deadv, .c (.ptr ⟨⟨.loc 1, []⟩, 0, 0⟩), .deadv, .c (bc t3)] ++ rep 22 .deadv, [(.loc 1, [ic loc1_0, ic loc1_1, ic loc1_2, ic loc1_3])]⟩ (res34 r) (bx34 r)
theorem evr34 {x0_0 : Int} {x0_1 : Int} {x0_2 : Int} {x0_3 : Int} {r : R34} (h : P34 (.e x0_0 x0_1 x0_2 x0_3) r) : Ev Try.prog noHand 34 [.ag [ic x0_0, ic x0_1, ic x0_2, ic x0_3]] [] (res34 r) (bx34 r) := ev_of_fin (fn := Try.f34) (body := body34) (by kernel_rfl) (by kernel_rfl) (by kernel_rfl) rfl h
theorem t34_e_ok (k : Nat) (rec : S34 → Option R34) (ih : ∀ s r, rec s = some r → P34 s r) (x0_0 : Int) (x0_1 : Int) (x0_2 : Int) (x0_3 : Int) (r : R34) (h : t34_e k rec x0_0 x0_1 x0_2 x0_3 = some r) : P34 (.e x0_0 x0_1 x0_2 x0_3) r := by
  unfold t34_e at h
  rcases bif_or h with ⟨h1, h⟩ | ⟨h1, h⟩
  ·
    exact mgo_at (nb := 0) hmix (ih _ _ h) (n := 6) (ad := [(some 6, .test true)]) (ps := [_]) (m := bm 26 67108853) (ls := []) (by kernel_rfl) ⟨h1, trivial⟩
  ·
    obtain ⟨v2, h3, h⟩ := bd_or h
    exact mgo_at (nb := 0) hmix (ih _ _ h) (n := 6) (ad := [(some 6, .test false), (some 10, .call (.ret (.c (ic v2))) [] false)]) (ps := [_, _]) (m := bm 26 67108853) (ls := []) (by kernel_rfl) ⟨h1, (ev30 h3), trivial⟩
theorem t34_h0_ok (k : Nat) (rec : S34 → Option R34) (ih : ∀ s r, rec s = some r → P34 s r) (t3 : Bool) (loc1_0 : Int) (loc1_1 : Int) (loc1_2 : Int) (loc1_3 : Int) (r : R34) (h : t34_h0 k rec t3 loc1_0 loc1_1 loc1_2 loc1_3 = some r) : P34 (.h0 t3 loc1_0 loc1_1 loc1_2 loc1_3) r := by
  unfold t34_h0 at h
  rcases bif_or h with ⟨hq, h1'⟩ | ⟨hq, h1'⟩
  · clear h; subst hq; have h := h1'; clear h1'
    rw [← Option.some.inj h]
    exact mgo_fin (nb := 0) hmix (n := 2000) (ad := []) (ps := []) (by kernel_rfl) trivial
  · clear h; subst hq; have h := h1'; clear h1'
    obtain ⟨v1, h2, h⟩ := bd_or h
    rcases bif_or h with ⟨h3, h⟩ | ⟨h3, h⟩
    ·
      rw [← Option.some.inj h]
      exact mgo_fin (nb := 0) hmix (n := 2000) (ad := [(some 19, .call (.ret (.c (ic v1))) [] false), (some 20, .test true)]) (ps := [_, _]) (by kernel_rfl) ⟨(ev30 h2), h3, trivial⟩
    ·
      rw [← Option.some.inj h]
      exact mgo_fin (nb := 0) hmix (n := 2000) (ad := [(some 19, .call (.ret (.c (ic v1))) [] false), (some 20, .test false)]) (ps := [_, _]) (by kernel_rfl) ⟨(ev30 h2), h3, trivial⟩
theorem ok34 : ∀ k s r, itS step34 k s = some r → P34 s r := itS_ok fun k rec ih s r h => match s, h with
  | .e x0_0 x0_1 x0_2 x0_3, h => t34_e_ok k rec ih x0_0 x0_1 x0_2 x0_3 r h
  | .h0 t3 loc1_0 loc1_1 loc1_2 loc1_3, h => t34_h0_ok k rec ih t3 loc1_0 loc1_1 loc1_2 loc1_3 r h
theorem ev34 {k : Nat} {x0_0 : Int} {x0_1 : Int} {x0_2 : Int} {x0_3 : Int} {r : R34} (h : g34 k x0_0 x0_1 x0_2 x0_3 = some r) : Ev Try.prog noHand 34 [.ag [ic x0_0, ic x0_1, ic x0_2, ic x0_3]] [] (res34 r) (bx34 r) := evr34 (ok34 _ _ _ h)
-- auspice/ssa.last
inductive S32 where
  | e (c0_0 : Int) (c0_1 : Int) (c0_2 : Rs) (c0_3 : Rs) (c0_4 : Rs)
  | h0 (l3 : Rs) (t13 : Int) (t14 : Int) (loc1_0 : Int) (loc1_1 : Int) (loc1_2 : Rs) (loc1_3 : Rs) (loc1_4 : Rs)
  | h1 (l3 : Rs) (t13 : Int) (t14 : Int) (loc1_0 : Int) (loc1_1 : Int) (loc1_2 : Rs) (loc1_3 : Rs) (loc1_4 : Rs)
  | h2 (l3 : Rs) (t22 : Rs) (t23 : Int) (t24 : Int)
  | h3 (l3 : Rs) (i5 : Int) (t22 : Rs) (t23 : Int) (t24 : Int) (t30 : Rs) (t31 : Int) (t32 : Int)
  | h4 (l3 : Rs) (i5 : Int) (t22 : Rs) (t23 : Int) (t24 : Int) (t31 : Int) (t32 : Int)
  | h5 (l3 : Rs) (i5 : Int) (t22 : Rs) (t23 : Int) (t24 : Int) (t30 : Rs) (t31 : Int) (t32 : Int)
  | h6 (l3 : Rs) (t22 : Rs) (t23 : Int) (t24 : Int)
abbrev R32 := Rs
def res32 : R32 → ARes
  | r => .ret (.c (.own 1 r))
def bx32 : R32 → List (List Cell)
  | r => []
noncomputable def t32_e (k : Nat) (rec : S32 → Option R32) (c0_0 : Int) (c0_1 : Int) (c0_2 : Rs) (c0_3 : Rs) (c0_4 : Rs) : Option R32 :=
  gd (mkOk c0_0 c0_0 8 1) <|
  rec (.h0 (List.replicate c0_0.toNat [ic 0]) ((List.replicate c0_0.toNat [ic 0]).length : Int) 0 c0_0 c0_1 c0_2 c0_3 c0_4)
noncomputable def t32_h0 (k : Nat) (rec : S32 → Option R32) (l3 : Rs) (t13 : Int) (t14 : Int) (loc1_0 : Int) (loc1_1 : Int) (loc1_2 : Rs) (loc1_3 : Rs) (loc1_4 : Rs) : Option R32 :=
  bif decide (t14 < t13) then
    ixR l3 t14 fun w2 =>
    un_i w2 fun x4 =>
    rec (.h1 (setRow l3 t14.toNat 0 (ic (-1))) t13 t14 loc1_0 loc1_1 loc1_2 loc1_3 loc1_4)
  else
    rec (.h2 l3 loc1_4 (loc1_4.length : Int) 0)
noncomputable def t32_h1 (k : Nat) (rec : S32 → Option R32) (l3 : Rs) (t13 : Int) (t14 : Int) (loc1_0 : Int) (loc1_1 : Int) (loc1_2 : Rs) (loc1_3 : Rs) (loc1_4 : Rs) : Option R32 :=
  rec (.h0 l3 t13 (IntKind.i64.wrap (t14 + 1)) loc1_0 loc1_1 loc1_2 loc1_3 loc1_4)
noncomputable def t32_h2 (k : Nat) (rec : S32 → Option R32) (l3 : Rs) (t22 : Rs) (t23 : Int) (t24 : Int) : Option R32 :=
  bif decide (t24 < t23) then
    ixR t22 t24 fun w2 =>
    un_i4 w2 fun op4 dst4 a4 b4 =>
    (g34 k op4 dst4 a4 b4).bind fun v5 =>
    altC v5 (fun v7 => 
        rec (.h3 l3 t24 t22 t23 t24 v7 (v7.length : Int) 0)) (fun v7 => 
        rec (.h4 l3 t24 t22 t23 t24 0 0))
  else
    some l3
noncomputable def t32_h3 (k : Nat) (rec : S32 → Option R32) (l3 : Rs) (i5 : Int) (t22 : Rs) (t23 : Int) (t24 : Int) (t30 : Rs) (t31 : Int) (t32 : Int) : Option R32 :=
  bif decide (t32 < t31) then
    ixR t30 t32 fun w2 =>
    un_i w2 fun x4 =>
    ixR l3 x4 fun w5 =>
    un_i w5 fun x7 =>
    rec (.h5 (setRow l3 x4.toNat 0 (ic i5)) i5 t22 t23 t24 t30 t31 t32)
  else
    rec (.h6 l3 t22 t23 t24)
noncomputable def t32_h4 (k : Nat) (rec : S32 → Option R32) (l3 : Rs) (i5 : Int) (t22 : Rs) (t23 : Int) (t24 : Int) (t31 : Int) (t32 : Int) : Option R32 :=
  bif decide (t32 < t31) then
    none   -- indexAddr of nil
  else
    rec (.h6 l3 t22 t23 t24)
noncomputable def t32_h5 (k : Nat) (rec : S32 → Option R32) (l3 : Rs) (i5 : Int) (t22 : Rs) (t23 : Int) (t24 : Int) (t30 : Rs) (t31 : Int) (t32 : Int) : Option R32 :=
  rec (.h3 l3 i5 t22 t23 t24 t30 t31 (IntKind.i64.wrap (t32 + 1)))
noncomputable def t32_h6 (k : Nat) (rec : S32 → Option R32) (l3 : Rs) (t22 : Rs) (t23 : Int) (t24 : Int) : Option R32 :=
  rec (.h2 l3 t22 t23 (IntKind.i64.wrap (t24 + 1)))
noncomputable def step32 (k : Nat) (rec : S32 → Option R32) : S32 → Option R32
  | .e c0_0 c0_1 c0_2 c0_3 c0_4 => t32_e k rec c0_0 c0_1 c0_2 c0_3 c0_4
  | .h0 l3 t13 t14 loc1_0 loc1_1 loc1_2 loc1_3 loc1_4 => t32_h0 k rec l3 t13 t14 loc1_0 loc1_1 loc1_2 loc1_3 loc1_4
  | .h1 l3 t13 t14 loc1_0 loc1_1 loc1_2 loc1_3 loc1_4 => t32_h1 k rec l3 t13 t14 loc1_0 loc1_1 loc1_2 loc1_3 loc1_4
  | .h2 l3 t22 t23 t24 => t32_h2 k rec l3 t22 t23 t24
  | .h3 l3 i5 t22 t23 t24 t30 t31 t32 => t32_h3 k rec l3 i5 t22 t23 t24 t30 t31 t32
  | .h4 l3 i5 t22 t23 t24 t31 t32 => t32_h4 k rec l3 i5 t22 t23 t24 t31 t32
  | .h5 l3 i5 t22 t23 t24 t30 t31 t32 => t32_h5 k rec l3 i5 t22 t23 t24 t30 t31 t32
  | .h6 l3 t22 t23 t24 => t32_h6 k rec l3 t22 t23 t24
noncomputable def g32 (k : Nat) (c0_0 : Int) (c0_1 : Int) (c0_2 : Rs) (c0_3 : Rs) (c0_4 : Rs) : Option R32 := itS step32 k (.e c0_0 c0_1 c0_2 c0_3 c0_4)
noncomputable def P32 : S32 → R32 → Prop
  | .e c0_0 c0_1 c0_2 c0_3 c0_4, r => Fin cx32 Try.f32 [.code body32] (fr0 Try.f32 [.ag [ic c0_0, ic c0_1, .imm c0_2, .imm c0_3, .imm c0_4]] []) (res32 r) (bx32 r)
  | .h0 l3 t13 t14 loc1_0 loc1_1 loc1_2 loc1_3 loc1_4, r => Fin cx32 Try.f32 (kAt body32 [1, 1, 0, 1, 0, 4] []) ⟨[.deadv, .c (.ptr ⟨⟨.loc 1, []⟩, 0, 0⟩), .deadv, .c (.own 1 l3)] ++ rep 9 .deadv ++ [.c (ic t13), .c (ic t14)] ++ rep 28 .deadv, [(.loc 1, [ic loc1_0, ic loc1_1, .imm loc1_2, .imm loc1_3, .imm loc1_4])]⟩ (res32 r) (bx32 r)
  | .h1 l3 t13 t14 loc1_0 loc1_1 loc1_2 loc1_3 loc1_4, r => Fin cx32 Try.f32 (kAt body32 [1, 1, 0, 1, 0, 0, 1, 1, 1, 2] []) ⟨[.deadv, .c (.ptr ⟨⟨.loc 1, []⟩, 0, 0⟩), .deadv, .c (.own 1 l3)] ++ rep 9 .deadv ++ [.c (ic t13), .c (ic t14)] ++ rep 28 .deadv, [(.loc 1, [ic loc1_0, ic loc1_1, .imm loc1_2, .imm loc1_3, .imm loc1_4])]⟩ (res32 r) (bx32 r)
  | .h2 l3 t22 t23 t24, r => Fin cx32 Try.f32 (kAt body32 [1, 1, 1, 0, 1, 0, 4] []) ⟨rep 3 .deadv ++ [.c (.own 1 l3)] ++ rep 18 .deadv ++ [.c (.imm t22), .c (ic t23), .c (ic t24)] ++ rep 18 .deadv, []⟩ (res32 r) (bx32 r)
  | .h3 l3 i5 t22 t23 t24 t30 t31 t32, r => Fin cx32 Try.f32 (kAt body32 [1, 1, 1, 0, 1, 0, 0, 1, 1, 0, 0, 1, 1, 0, 4] []) ⟨rep 3 .deadv ++ [.c (.own 1 l3), .deadv, .c (ic i5)] ++ rep 16 .deadv ++ [.c (.imm t22), .c (ic t23), .c (ic t24)] ++ rep 5 .deadv ++ [.c (.own 1 t30), .c (ic t31), .c (ic t32)] ++ rep 10 .deadv, []⟩ (res32 r) (bx32 r)
  | .h4 l3 i5 t22 t23 t24 t31 t32, r => Fin cx32 Try.f32 (kAt body32 [1, 1, 1, 0, 1, 0, 0, 1, 1, 0, 0, 1, 1, 0, 4] []) ⟨rep 3 .deadv ++ [.c (.own 1 l3), .deadv, .c (ic i5)] ++ rep 16 .deadv ++ [.c (.imm t22), .c (ic t23), .c (ic t24)] ++ rep 5 .deadv ++ [.c .nil, .c (ic t31), .c (ic t32)] ++ rep 10 .deadv, []⟩ (res32 r) (bx32 r)
  | .h5 l3 i5 t22 t23 t24 t30 t31 t32, r => Fin cx32 Try.f32 (kAt body32 [1, 1, 1, 0, 1, 0, 0, 1, 1, 0, 0, 1, 1, 0, 0, 1, 1, 1, 2] []) ⟨rep 3 .deadv ++ [.c (.own 1 l3), .deadv, .c (ic i5)] ++ rep 16 .deadv ++ [.c (.imm t22), .c (ic t23), .c (ic t24)] ++ rep 5 .deadv ++ [.c (.own 1 t30), .c (ic t31), .c (ic t32)] ++ rep 10 .deadv, []⟩ (res32 r) (bx32 r)
  | .h6 l3 t22 t23 t24, r => Fin cx32 Try.f32 (kAt body32 [1, 1, 1, 0, 1, 0, 0, 1, 1, 1, 2] []) ⟨rep 3 .deadv ++ [.c (.own 1 l3)] ++ rep 18 .deadv ++ [.c (.imm t22), .c (ic t23), .c (ic t24)] ++ rep 18 .deadv, []⟩ (res32 r) (bx32 r)
theorem evr32 {c0_0 : Int} {c0_1 : Int} {c0_2 : Rs} {c0_3 : Rs} {c0_4 : Rs} {r : R32} (h : P32 (.e c0_0 c0_1 c0_2 c0_3 c0_4) r) : Ev Try.prog noHand 32 [.ag [ic c0_0, ic c0_1, .imm c0_2, .imm c0_3, .imm c0_4]] [] (res32 r) (bx32 r) := ev_of_fin (fn := Try.f32) (body := body32) (by kernel_rfl) (by kernel_rfl) (by kernel_rfl) rfl h
theorem t32_e_ok (k : Nat) (rec : S32 → Option R32) (ih : ∀ s r, rec s = some r → P32 s r) (c0_0 : Int) (c0_1 : Int) (c0_2 : Rs) (c0_3 : Rs) (c0_4 : Rs) (r : R32) (h : t32_e k rec c0_0 c0_1 c0_2 c0_3 c0_4 = some r) : P32 (.e c0_0 c0_1 c0_2 c0_3 c0_4) r := by
  unfold t32_e at h
  obtain ⟨h1, h⟩ := gd_or h
  exact mgo_at (nb := 0) hmix (ih _ _ h) (n := 9) (ad := [(some 11, .ok)]) (ps := [_]) (m := bm 43 8796092997621) (ls := []) (by kernel_rfl) ⟨h1, trivial⟩
theorem t32_h0_ok (k : Nat) (rec : S32 → Option R32) (ih : ∀ s r, rec s = some r → P32 s r) (l3 : Rs) (t13 : Int) (t14 : Int) (loc1_0 : Int) (loc1_1 : Int) (loc1_2 : Rs) (loc1_3 : Rs) (loc1_4 : Rs) (r : R32) (h : t32_h0 k rec l3 t13 t14 loc1_0 loc1_1 loc1_2 loc1_3 loc1_4 = some r) : P32 (.h0 l3 t13 t14 loc1_0 loc1_1 loc1_2 loc1_3 loc1_4) r := by
  unfold t32_h0 at h
  rcases bif_or h with ⟨h1, h⟩ | ⟨h1, h⟩
  ·
    obtain ⟨w2, h3, h⟩ := ixR_or h
    obtain ⟨x4, hq, h1'⟩ := un_i_or h
    clear h; subst hq; have h := h1'; clear h1'
    exact mgo_at (nb := 0) hmix (ih _ _ h) (n := 12) (ad := [(some 15, .test true), (some 19, .bnd), (none, .st)]) (ps := [_, _, _]) (m := bm 43 8796092997621) (ls := []) (by kernel_rfl) ⟨h1, ix_bnd h3, ix_cell (o := 0) h3 rfl, trivial⟩
  ·
    exact mgo_at (nb := 0) hmix (ih _ _ h) (n := 11) (ad := [(some 15, .test false)]) (ps := [_]) (m := bm 43 8796063662071) (ls := [1]) (by kernel_rfl) ⟨h1, trivial⟩
theorem t32_h1_ok (k : Nat) (rec : S32 → Option R32) (ih : ∀ s r, rec s = some r → P32 s r) (l3 : Rs) (t13 : Int) (t14 : Int) (loc1_0 : Int) (loc1_1 : Int) (loc1_2 : Rs) (loc1_3 : Rs) (loc1_4 : Rs) (r : R32) (h : t32_h1 k rec l3 t13 t14 loc1_0 loc1_1 loc1_2 loc1_3 loc1_4 = some r) : P32 (.h1 l3 t13 t14 loc1_0 loc1_1 loc1_2 loc1_3 loc1_4) r := by
  unfold t32_h1 at h
  exact mgo_at (nb := 0) hmix (ih _ _ h) (n := 1) (ad := []) (ps := []) (m := bm 43 8796092997621) (ls := []) (by kernel_rfl) trivial
theorem t32_h2_ok (k : Nat) (rec : S32 → Option R32) (ih : ∀ s r, rec s = some r → P32 s r) (l3 : Rs) (t22 : Rs) (t23 : Int) (t24 : Int) (r : R32) (h : t32_h2 k rec l3 t22 t23 t24 = some r) : P32 (.h2 l3 t22 t23 t24) r := by
  unfold t32_h2 at h
  rcases bif_or h with ⟨h1, h⟩ | ⟨h1, h⟩
  ·
    obtain ⟨w2, h3, h⟩ := ixR_or h
    obtain ⟨op4, dst4, a4, b4, hq, h1'⟩ := un_i4_or h
    clear h; subst hq; have h := h1'; clear h1'
    obtain ⟨v5, h6, h⟩ := bd_or h
    rcases altC_or h with ⟨v7, hq, h1'⟩ | ⟨v7, hq, h1'⟩
    · clear h; subst hq; have h := h1'; clear h1'
      exact mgo_at (nb := 0) hmix (ih _ _ h) (n := 14) (ad := [(some 25, .test true), (some 27, .row [ic op4, ic dst4, ic a4, ic b4]), (some 30, .call (.ret (.c (.own 1 v7))) [] false)]) (ps := [_, _, _]) (m := bm 43 8788547469271) (ls := [6]) (by kernel_rfl) ⟨h1, ix_row h3 rfl, (ev34 h6), trivial⟩
    · clear h; subst hq; have h := h1'; clear h1'
      exact mgo_at (nb := 0) hmix (ih _ _ h) (n := 14) (ad := [(some 25, .test true), (some 27, .row [ic op4, ic dst4, ic a4, ic b4]), (some 30, .call (.ret (.c .nil)) [] false)]) (ps := [_, _, _]) (m := bm 43 8788547469271) (ls := [6]) (by kernel_rfl) ⟨h1, ix_row h3 rfl, (ev34 h6), trivial⟩
  ·
    rw [← Option.some.inj h]
    exact mgo_fin (nb := 0) hmix (n := 2000) (ad := [(some 25, .test false)]) (ps := [_]) (by kernel_rfl) ⟨h1, trivial⟩
theorem t32_h3_ok (k : Nat) (rec : S32 → Option R32) (ih : ∀ s r, rec s = some r → P32 s r) (l3 : Rs) (i5 : Int) (t22 : Rs) (t23 : Int) (t24 : Int) (t30 : Rs) (t31 : Int) (t32 : Int) (r : R32) (h : t32_h3 k rec l3 i5 t22 t23 t24 t30 t31 t32 = some r) : P32 (.h3 l3 i5 t22 t23 t24 t30 t31 t32) r := by
  unfold t32_h3 at h
  rcases bif_or h with ⟨h1, h⟩ | ⟨h1, h⟩
  ·
    obtain ⟨w2, h3, h⟩ := ixR_or h
    obtain ⟨x4, hq, h1'⟩ := un_i_or h
    clear h; subst hq; have h := h1'; clear h1'
    obtain ⟨w5, h6, h⟩ := ixR_or h
    obtain ⟨x7, hq, h1'⟩ := un_i_or h
    clear h; subst hq; have h := h1'; clear h1'
    exact mgo_at (nb := 0) hmix (ih _ _ h) (n := 12) (ad := [(some 33, .test true), (some 34, .bnd), (some 35, .ld [ic x4]), (some 39, .bnd), (none, .st)]) (ps := [_, _, _, _, _]) (m := bm 43 8788547469271) (ls := []) (by kernel_rfl) ⟨h1, ix_bnd h3, h3.2, ix_bnd h6, ix_cell (o := 0) h6 rfl, trivial⟩
  ·
    exact mgo_at (nb := 0) hmix (ih _ _ h) (n := 7) (ad := [(some 33, .test false)]) (ps := [_]) (m := bm 43 8796063662071) (ls := []) (by kernel_rfl) ⟨h1, trivial⟩
theorem t32_h4_ok (k : Nat) (rec : S32 → Option R32) (ih : ∀ s r, rec s = some r → P32 s r) (l3 : Rs) (i5 : Int) (t22 : Rs) (t23 : Int) (t24 : Int) (t31 : Int) (t32 : Int) (r : R32) (h : t32_h4 k rec l3 i5 t22 t23 t24 t31 t32 = some r) : P32 (.h4 l3 i5 t22 t23 t24 t31 t32) r := by
  unfold t32_h4 at h
  rcases bif_or h with ⟨h1, h⟩ | ⟨h1, h⟩
  ·
    cases h
  ·
    exact mgo_at (nb := 0) hmix (ih _ _ h) (n := 7) (ad := [(some 33, .test false)]) (ps := [_]) (m := bm 43 8796063662071) (ls := []) (by kernel_rfl) ⟨h1, trivial⟩
theorem t32_h5_ok (k : Nat) (rec : S32 → Option R32) (ih : ∀ s r, rec s = some r → P32 s r) (l3 : Rs) (i5 : Int) (t22 : Rs) (t23 : Int) (t24 : Int) (t30 : Rs) (t31 : Int) (t32 : Int) (r : R32) (h : t32_h5 k rec l3 i5 t22 t23 t24 t30 t31 t32 = some r) : P32 (.h5 l3 i5 t22 t23 t24 t30 t31 t32) r := by
  unfold t32_h5 at h
  exact mgo_at (nb := 0) hmix (ih _ _ h) (n := 1) (ad := []) (ps := []) (m := bm 43 8788547469271) (ls := []) (by kernel_rfl) trivial
theorem t32_h6_ok (k : Nat) (rec : S32 → Option R32) (ih : ∀ s r, rec s = some r → P32 s r) (l3 : Rs) (t22 : Rs) (t23 : Int) (t24 : Int) (r : R32) (h : t32_h6 k rec l3 t22 t23 t24 = some r) : P32 (.h6 l3 t22 t23 t24) r := by
  unfold t32_h6 at h
  exact mgo_at (nb := 0) hmix (ih _ _ h) (n := 1) (ad := []) (ps := []) (m := bm 43 8796063662071) (ls := []) (by kernel_rfl) trivial
theorem ok32 : ∀ k s r, itS step32 k s = some r → P32 s r := itS_ok fun k rec ih s r h => match s, h with
  | .e c0_0 c0_1 c0_2 c0_3 c0_4, h => t32_e_ok k rec ih c0_0 c0_1 c0_2 c0_3 c0_4 r h
  | .h0 l3 t13 t14 loc1_0 loc1_1 loc1_2 loc1_3 loc1_4, h => t32_h0_ok k rec ih l3 t13 t14 loc1_0 loc1_1 loc1_2 loc1_3 loc1_4 r h
  | .h1 l3 t13 t14 loc1_0 loc1_1 loc1_2 loc1_3 loc1_4, h => t32_h1_ok k rec ih l3 t13 t14 loc1_0 loc1_1 loc1_2 loc1_3 loc1_4 r h
  | .h2 l3 t22 t23 t24, h => t32_h2_ok k rec ih l3 t22 t23 t24 r h
  | .h3 l3 i5 t22 t23 t24 t30 t31 t32, h => t32_h3_ok k rec ih l3 i5 t22 t23 t24 t30 t31 t32 r h
  | .h4 l3 i5 t22 t23 t24 t31 t32, h => t32_h4_ok k rec ih l3 i5 t22 t23 t24 t31 t32 r h
  | .h5 l3 i5 t22 t23 t24 t30 t31 t32, h => t32_h5_ok k rec ih l3 i5 t22 t23 t24 t30 t31 t32 r h
  | .h6 l3 t22 t23 t24, h => t32_h6_ok k rec ih l3 t22 t23 t24 r h
theorem ev32 {k : Nat} {c0_0 : Int} {c0_1 : Int} {c0_2 : Rs} {c0_3 : Rs} {c0_4 : Rs} {r : R32} (h : g32 k c0_0 c0_1 c0_2 c0_3 c0_4 = some r) : Ev Try.prog noHand 32 [.ag [ic c0_0, ic c0_1, .imm c0_2, .imm c0_3, .imm c0_4]] [] (res32 r) (bx32 r) := evr32 (ok32 _ _ _ h)
-- auspice/ssa.Width
inductive S17 where
  | e (c0_0 : Int) (c0_1 : Int) (c0_2 : Rs) (c0_3 : Rs) (c0_4 : Rs)
  | h0 (l3 : Rs) (most4 : Int) (t14 : Int) (t15 : Int)
  | h1 (l3 : Rs) (most4 : Int) (i5 : Int) (n6 : Int) (t14 : Int) (t15 : Int) (t18 : Int) (t19 : Int)
  | h2 (l3 : Rs) (most4 : Int) (i5 : Int) (n6 : Int) (t14 : Int) (t15 : Int) (t18 : Int) (t19 : Int)
abbrev R17 := Int
def res17 : R17 → ARes
  | r => .ret (.c (ic r))
def bx17 : R17 → List (List Cell)
  | r => []
noncomputable def t17_e (k : Nat) (rec : S17 → Option R17) (c0_0 : Int) (c0_1 : Int) (c0_2 : Rs) (c0_3 : Rs) (c0_4 : Rs) : Option R17 :=
  (g15 k c0_0 c0_1 c0_2 c0_3 c0_4).bind fun v1 =>
  bif !v1 then
    some 0
  else
    (g32 k c0_0 c0_1 c0_2 c0_3 c0_4).bind fun v4 =>
    rec (.h0 v4 0 c0_0 0)
noncomputable def t17_h0 (k : Nat) (rec : S17 → Option R17) (l3 : Rs) (most4 : Int) (t14 : Int) (t15 : Int) : Option R17 :=
  bif decide (t15 < t14) then
    rec (.h1 l3 most4 t15 1 t14 t15 t15 0)
  else
    some most4
noncomputable def t17_h1 (k : Nat) (rec : S17 → Option R17) (l3 : Rs) (most4 : Int) (i5 : Int) (n6 : Int) (t14 : Int) (t15 : Int) (t18 : Int) (t19 : Int) : Option R17 :=
  bif decide (t19 < t18) then
    ixR l3 t19 fun w2 =>
    un_i w2 fun x4 =>
    bif decide (x4 > i5) then
      rec (.h2 l3 most4 i5 (IntKind.i64.wrap (n6 + 1)) t14 t15 t18 t19)
    else
      rec (.h2 l3 most4 i5 n6 t14 t15 t18 t19)
  else
    rec (.h0 l3 (if (n6 : Int) > most4 then n6 else most4) t14 (IntKind.i64.wrap (t15 + 1)))
noncomputable def t17_h2 (k : Nat) (rec : S17 → Option R17) (l3 : Rs) (most4 : Int) (i5 : Int) (n6 : Int) (t14 : Int) (t15 : Int) (t18 : Int) (t19 : Int) : Option R17 :=
  rec (.h1 l3 most4 i5 n6 t14 t15 t18 (IntKind.i64.wrap (t19 + 1)))
noncomputable def step17 (k : Nat) (rec : S17 → Option R17) : S17 → Option R17
  | .e c0_0 c0_1 c0_2 c0_3 c0_4 => t17_e k rec c0_0 c0_1 c0_2 c0_3 c0_4
  | .h0 l3 most4 t14 t15 => t17_h0 k rec l3 most4 t14 t15
  | .h1 l3 most4 i5 n6 t14 t15 t18 t19 => t17_h1 k rec l3 most4 i5 n6 t14 t15 t18 t19
  | .h2 l3 most4 i5 n6 t14 t15 t18 t19 => t17_h2 k rec l3 most4 i5 n6 t14 t15 t18 t19
noncomputable def g17 (k : Nat) (c0_0 : Int) (c0_1 : Int) (c0_2 : Rs) (c0_3 : Rs) (c0_4 : Rs) : Option R17 := itS step17 k (.e c0_0 c0_1 c0_2 c0_3 c0_4)
noncomputable def P17 : S17 → R17 → Prop
  | .e c0_0 c0_1 c0_2 c0_3 c0_4, r => Fin cx17 Try.f17 [.code body17] (fr0 Try.f17 [.ag [ic c0_0, ic c0_1, .imm c0_2, .imm c0_3, .imm c0_4]] []) (res17 r) (bx17 r)
  | .h0 l3 most4 t14 t15, r => Fin cx17 Try.f17 (kAt body17 [1, 1, 1, 1, 0, 1, 0, 4] []) ⟨rep 3 .deadv ++ [.c (.own 1 l3), .c (ic most4)] ++ rep 9 .deadv ++ [.c (ic t14), .c (ic t15)] ++ rep 20 .deadv, []⟩ (res17 r) (bx17 r)
  | .h1 l3 most4 i5 n6 t14 t15 t18 t19, r => Fin cx17 Try.f17 (kAt body17 [1, 1, 1, 1, 0, 1, 0, 0, 1, 1, 0, 0, 1, 1, 0, 1, 0, 4] []) ⟨rep 3 .deadv ++ [.c (.own 1 l3), .c (ic most4), .c (ic i5), .c (ic n6)] ++ rep 7 .deadv ++ [.c (ic t14), .c (ic t15), .deadv, .deadv, .c (ic t18), .c (ic t19)] ++ rep 16 .deadv, []⟩ (res17 r) (bx17 r)
  | .h2 l3 most4 i5 n6 t14 t15 t18 t19, r => Fin cx17 Try.f17 (kAt body17 [1, 1, 1, 1, 0, 1, 0, 0, 1, 1, 0, 0, 1, 1, 0, 1, 0, 0, 1, 1, 1, 2] []) ⟨rep 3 .deadv ++ [.c (.own 1 l3), .c (ic most4), .c (ic i5), .c (ic n6)] ++ rep 7 .deadv ++ [.c (ic t14), .c (ic t15), .deadv, .deadv, .c (ic t18), .c (ic t19)] ++ rep 16 .deadv, []⟩ (res17 r) (bx17 r)
theorem evr17 {c0_0 : Int} {c0_1 : Int} {c0_2 : Rs} {c0_3 : Rs} {c0_4 : Rs} {r : R17} (h : P17 (.e c0_0 c0_1 c0_2 c0_3 c0_4) r) : Ev Try.prog noHand 17 [.ag [ic c0_0, ic c0_1, .imm c0_2, .imm c0_3, .imm c0_4]] [] (res17 r) (bx17 r) := ev_of_fin (fn := Try.f17) (body := body17) (by kernel_rfl) (by kernel_rfl) (by kernel_rfl) rfl h
theorem t17_e_ok (k : Nat) (rec : S17 → Option R17) (ih : ∀ s r, rec s = some r → P17 s r) (c0_0 : Int) (c0_1 : Int) (c0_2 : Rs) (c0_3 : Rs) (c0_4 : Rs) (r : R17) (h : t17_e k rec c0_0 c0_1 c0_2 c0_3 c0_4 = some r) : P17 (.e c0_0 c0_1 c0_2 c0_3 c0_4) r := by
  unfold t17_e at h
  obtain ⟨v1, h2, h⟩ := bd_or h
  rcases bif_or h with ⟨h3, h⟩ | ⟨h3, h⟩
  ·
    rw [← Option.some.inj h]
    exact mgo_fin (nb := 0) hmix (n := 2000) (ad := [(some 9, .call (.ret (.c (bc v1))) [] false), (some 10, .test true)]) (ps := [_, _]) (by kernel_rfl) ⟨(ev15 h2), h3, trivial⟩
  ·
    obtain ⟨v4, h5, h⟩ := bd_or h
    exact mgo_at (nb := 0) hmix (ih _ _ h) (n := 16) (ad := [(some 9, .call (.ret (.c (bc v1))) [] false), (some 10, .test false), (some 12, .call (.ret (.c (.own 1 v4))) [] false)]) (ps := [_, _, _]) (m := bm 36 68719427559) (ls := [1]) (by kernel_rfl) ⟨(ev15 h2), h3, (ev32 h5), trivial⟩
theorem t17_h0_ok (k : Nat) (rec : S17 → Option R17) (ih : ∀ s r, rec s = some r → P17 s r) (l3 : Rs) (most4 : Int) (t14 : Int) (t15 : Int) (r : R17) (h : t17_h0 k rec l3 most4 t14 t15 = some r) : P17 (.h0 l3 most4 t14 t15) r := by
  unfold t17_h0 at h
  rcases bif_or h with ⟨h1, h⟩ | ⟨h1, h⟩
  ·
    exact mgo_at (nb := 0) hmix (ih _ _ h) (n := 17) (ad := [(some 16, .test true)]) (ps := [_]) (m := bm 36 68718641031) (ls := []) (by kernel_rfl) ⟨h1, trivial⟩
  ·
    rw [← Option.some.inj h]
    exact mgo_fin (nb := 0) hmix (n := 2000) (ad := [(some 16, .test false)]) (ps := [_]) (by kernel_rfl) ⟨h1, trivial⟩
theorem t17_h1_ok (k : Nat) (rec : S17 → Option R17) (ih : ∀ s r, rec s = some r → P17 s r) (l3 : Rs) (most4 : Int) (i5 : Int) (n6 : Int) (t14 : Int) (t15 : Int) (t18 : Int) (t19 : Int) (r : R17) (h : t17_h1 k rec l3 most4 i5 n6 t14 t15 t18 t19 = some r) : P17 (.h1 l3 most4 i5 n6 t14 t15 t18 t19) r := by
  unfold t17_h1 at h
  rcases bif_or h with ⟨h1, h⟩ | ⟨h1, h⟩
  ·
    obtain ⟨w2, h3, h⟩ := ixR_or h
    obtain ⟨x4, hq, h1'⟩ := un_i_or h
    clear h; subst hq; have h := h1'; clear h1'
    rcases bif_or h with ⟨h5, h⟩ | ⟨h5, h⟩
    ·
      exact mgo_at (nb := 0) hmix (ih _ _ h) (n := 15) (ad := [(some 20, .test true), (some 24, .bnd), (some 25, .ld [ic x4]), (some 27, .test true)]) (ps := [_, _, _, _]) (m := bm 36 68718641031) (ls := []) (by kernel_rfl) ⟨h1, ix_bnd h3, h3.2, h5, trivial⟩
    ·
      exact mgo_at (nb := 0) hmix (ih _ _ h) (n := 15) (ad := [(some 20, .test true), (some 24, .bnd), (some 25, .ld [ic x4]), (some 27, .test false)]) (ps := [_, _, _, _]) (m := bm 36 68718641031) (ls := []) (by kernel_rfl) ⟨h1, ix_bnd h3, h3.2, h5, trivial⟩
  ·
    exact mgo_at (nb := 0) hmix (ih _ _ h) (n := 9) (ad := [(some 20, .test false)]) (ps := [_]) (m := bm 36 68719427559) (ls := []) (by kernel_rfl) ⟨h1, trivial⟩
theorem t17_h2_ok (k : Nat) (rec : S17 → Option R17) (ih : ∀ s r, rec s = some r → P17 s r) (l3 : Rs) (most4 : Int) (i5 : Int) (n6 : Int) (t14 : Int) (t15 : Int) (t18 : Int) (t19 : Int) (r : R17) (h : t17_h2 k rec l3 most4 i5 n6 t14 t15 t18 t19 = some r) : P17 (.h2 l3 most4 i5 n6 t14 t15 t18 t19) r := by
  unfold t17_h2 at h
  exact mgo_at (nb := 0) hmix (ih _ _ h) (n := 1) (ad := []) (ps := []) (m := bm 36 68718641031) (ls := []) (by kernel_rfl) trivial
theorem ok17 : ∀ k s r, itS step17 k s = some r → P17 s r := itS_ok fun k rec ih s r h => match s, h with
  | .e c0_0 c0_1 c0_2 c0_3 c0_4, h => t17_e_ok k rec ih c0_0 c0_1 c0_2 c0_3 c0_4 r h
  | .h0 l3 most4 t14 t15, h => t17_h0_ok k rec ih l3 most4 t14 t15 r h
  | .h1 l3 most4 i5 n6 t14 t15 t18 t19, h => t17_h1_ok k rec ih l3 most4 i5 n6 t14 t15 t18 t19 r h
  | .h2 l3 most4 i5 n6 t14 t15 t18 t19, h => t17_h2_ok k rec ih l3 most4 i5 n6 t14 t15 t18 t19 r h
theorem ev17 {k : Nat} {c0_0 : Int} {c0_1 : Int} {c0_2 : Rs} {c0_3 : Rs} {c0_4 : Rs} {r : R17} (h : g17 k c0_0 c0_1 c0_2 c0_3 c0_4 = some r) : Ev Try.prog noHand 17 [.ag [ic c0_0, ic c0_1, .imm c0_2, .imm c0_3, .imm c0_4]] [] (res17 r) (bx17 r) := evr17 (ok17 _ _ _ h)
-- auspice/auspiceref17.Reads
inductive S33 where
  | e (x0_0 : Int) (x0_1 : Int) (x0_2 : Int) (x0_3 : Int)
abbrev R33 := (Rs) ⊕ (Rs)
def res33 : R33 → ARes
  | (.inl r) => .ret (.c (.own 1 r))
  | (.inr r) => .ret (.c (.imm r))
def bx33 : R33 → List (List Cell)
  | (.inl r) => []
  | (.inr r) => []
noncomputable def t33_e (k : Nat) (rec : S33 → Option R33) (x0_0 : Int) (x0_1 : Int) (x0_2 : Int) (x0_3 : Int) : Option R33 :=
  bif x0_0 == 52 then
    some (.inl [[ic x0_2]])
  else
    (g31 k x0_0).bind fun v2 =>
    gd (slOk 0 v2 [[ic x0_2], [ic x0_3]] 1) <|
    some (.inr (List.drop (Int.toNat 0) (List.take (Int.toNat v2) [[ic x0_2], [ic x0_3]])))
noncomputable def step33 (k : Nat) (rec : S33 → Option R33) : S33 → Option R33
  | .e x0_0 x0_1 x0_2 x0_3 => t33_e k rec x0_0 x0_1 x0_2 x0_3
noncomputable def g33 (k : Nat) (x0_0 : Int) (x0_1 : Int) (x0_2 : Int) (x0_3 : Int) : Option R33 := itS step33 k (.e x0_0 x0_1 x0_2 x0_3)
noncomputable def P33 : S33 → R33 → Prop
  | .e x0_0 x0_1 x0_2 x0_3, r => Fin cx33 Try.f33 [.code body33] (fr0 Try.f33 [.ag [ic x0_0, ic x0_1, ic x0_2, ic x0_3]] []) (res33 r) (bx33 r)
theorem evr33 {x0_0 : Int} {x0_1 : Int} {x0_2 : Int} {x0_3 : Int} {r : R33} (h : P33 (.e x0_0 x0_1 x0_2 x0_3) r) : Ev Try.prog noHand 33 [.ag [ic x0_0, ic x0_1, ic x0_2, ic x0_3]] [] (res33 r) (bx33 r) := ev_of_fin (fn := Try.f33) (body := body33) (by kernel_rfl) (by kernel_rfl) (by kernel_rfl) rfl h
theorem t33_e_ok (k : Nat) (rec : S33 → Option R33) (ih : ∀ s r, rec s = some r → P33 s r) (x0_0 : Int) (x0_1 : Int) (x0_2 : Int) (x0_3 : Int) (r : R33) (h : t33_e k rec x0_0 x0_1 x0_2 x0_3 = some r) : P33 (.e x0_0 x0_1 x0_2 x0_3) r := by
  unfold t33_e at h
  rcases bif_or h with ⟨h1, h⟩ | ⟨h1, h⟩
  ·
    rw [← Option.some.inj h]
    exact mgo_fin (nb := 0) hmix (n := 2000) (ad := [(some 5, .test true)]) (ps := [_]) (by kernel_rfl) ⟨h1, trivial⟩
  ·
    obtain ⟨v2, h3, h⟩ := bd_or h
    obtain ⟨h4, h⟩ := gd_or h
    rw [← Option.some.inj h]
    exact mgo_fin (nb := 0) hmix (n := 2000) (ad := [(some 5, .test false), (some 16, .call (.ret (.c (ic v2))) [] false), (some 17, .ok)]) (ps := [_, _, _]) (by kernel_rfl) ⟨h1, (ev31 h3), of_decide_eq_true h4, trivial⟩
theorem ok33 : ∀ k s r, itS step33 k s = some r → P33 s r := itS_ok fun k rec ih s r h => match s, h with
  | .e x0_0 x0_1 x0_2 x0_3, h => t33_e_ok k rec ih x0_0 x0_1 x0_2 x0_3 r h
theorem ev33 {k : Nat} {x0_0 : Int} {x0_1 : Int} {x0_2 : Int} {x0_3 : Int} {r : R33} (h : g33 k x0_0 x0_1 x0_2 x0_3 = some r) : Ev Try.prog noHand 33 [.ag [ic x0_0, ic x0_1, ic x0_2, ic x0_3]] [] (res33 r) (bx33 r) := evr33 (ok33 _ _ _ h)
-- auspice/auspiceref17.Width
inductive S18 where
  | e (c0_0 : Int) (c0_1 : Int) (c0_2 : Rs) (c0_3 : Rs) (c0_4 : Rs)
  | h0 (most3 : Int) (i4 : Int) (loc1_0 : Int) (loc1_1 : Int) (loc1_2 : Rs) (loc1_3 : Rs) (loc1_4 : Rs)
  | h1 (most3 : Int) (i4 : Int) (n5 : Int) (r6 : Int) (loc1_0 : Int) (loc1_1 : Int) (loc1_2 : Rs) (loc1_3 : Rs) (loc1_4 : Rs)
  | h2 (most3 : Int) (i4 : Int) (n5 : Int) (r6 : Int) (alive7 : Bool) (k8 : Int) (loc1_0 : Int) (loc1_1 : Int) (loc1_2 : Rs) (loc1_3 : Rs) (loc1_4 : Rs)
  | h3 (most3 : Int) (i4 : Int) (n5 : Int) (r6 : Int) (alive7 : Bool) (k8 : Int) (t42 : Rs) (t43 : Int) (t44 : Int) (loc1_0 : Int) (loc1_1 : Int) (loc1_2 : Rs) (loc1_3 : Rs) (loc1_4 : Rs)
  | h4 (most3 : Int) (i4 : Int) (n5 : Int) (r6 : Int) (alive7 : Bool) (k8 : Int) (t42 : Rs) (t43 : Int) (t44 : Int) (loc1_0 : Int) (loc1_1 : Int) (loc1_2 : Rs) (loc1_3 : Rs) (loc1_4 : Rs)
  | h5 (most3 : Int) (i4 : Int) (n5 : Int) (r6 : Int) (loc1_0 : Int) (loc1_1 : Int) (loc1_2 : Rs) (loc1_3 : Rs) (loc1_4 : Rs)
  | h6 (most3 : Int) (i4 : Int) (n5 : Int) (r6 : Int) (alive7 : Bool) (k8 : Int) (t42 : Rs) (t43 : Int) (t44 : Int) (loc1_0 : Int) (loc1_1 : Int) (loc1_2 : Rs) (loc1_3 : Rs) (loc1_4 : Rs)
  | h7 (most3 : Int) (i4 : Int) (n5 : Int) (r6 : Int) (alive7 : Bool) (k8 : Int) (loc1_0 : Int) (loc1_1 : Int) (loc1_2 : Rs) (loc1_3 : Rs) (loc1_4 : Rs)
  | h8 (most3 : Int) (i4 : Int) (n5 : Int) (r6 : Int) (alive7 : Bool) (k8 : Int) (t42 : Rs) (t43 : Int) (t44 : Int) (loc1_0 : Int) (loc1_1 : Int) (loc1_2 : Rs) (loc1_3 : Rs) (loc1_4 : Rs)
abbrev R18 := Int
def res18 : R18 → ARes
  | r => .ret (.c (ic r))
def bx18 : R18 → List (List Cell)
  | r => []
noncomputable def t18_e (k : Nat) (rec : S18 → Option R18) (c0_0 : Int) (c0_1 : Int) (c0_2 : Rs) (c0_3 : Rs) (c0_4 : Rs) : Option R18 :=
  (g16 k c0_0 c0_1 c0_2 c0_3 c0_4).bind fun v1 =>
  bif !v1 then
    some 0
  else
    rec (.h0 0 0 c0_0 c0_1 c0_2 c0_3 c0_4)
noncomputable def t18_h0 (k : Nat) (rec : S18 → Option R18) (most3 : Int) (i4 : Int) (loc1_0 : Int) (loc1_1 : Int) (loc1_2 : Rs) (loc1_3 : Rs) (loc1_4 : Rs) : Option R18 :=
  bif decide (i4 < loc1_0) then
    rec (.h1 most3 i4 0 0 loc1_0 loc1_1 loc1_2 loc1_3 loc1_4)
  else
    some most3
noncomputable def t18_h1 (k : Nat) (rec : S18 → Option R18) (most3 : Int) (i4 : Int) (n5 : Int) (r6 : Int) (loc1_0 : Int) (loc1_1 : Int) (loc1_2 : Rs) (loc1_3 : Rs) (loc1_4 : Rs) : Option R18 :=
  bif decide (r6 ≤ i4) then
    rec (.h2 most3 i4 n5 r6 (r6 == i4) (IntKind.i64.wrap (i4 + 1)) loc1_0 loc1_1 loc1_2 loc1_3 loc1_4)
  else
    rec (.h0 (if (n5 : Int) > most3 then n5 else most3) (IntKind.i64.wrap (i4 + 1)) loc1_0 loc1_1 loc1_2 loc1_3 loc1_4)
noncomputable def t18_h2 (k : Nat) (rec : S18 → Option R18) (most3 : Int) (i4 : Int) (n5 : Int) (r6 : Int) (alive7 : Bool) (k8 : Int) (loc1_0 : Int) (loc1_1 : Int) (loc1_2 : Rs) (loc1_3 : Rs) (loc1_4 : Rs) : Option R18 :=
  bif decide (k8 < (loc1_4.length : Int)) then
    ixR loc1_4 k8 fun w2 =>
    un_i4 w2 fun op4 dst4 a4 b4 =>
    (g33 k op4 dst4 a4 b4).bind fun v5 =>
    altC v5 (fun v7 => 
        rec (.h3 most3 i4 n5 r6 alive7 k8 v7 (v7.length : Int) 0 loc1_0 loc1_1 loc1_2 loc1_3 loc1_4)) (fun v7 => 
        rec (.h4 most3 i4 n5 r6 alive7 k8 v7 (v7.length : Int) 0 loc1_0 loc1_1 loc1_2 loc1_3 loc1_4))
  else
    bif alive7 then
      rec (.h5 most3 i4 (IntKind.i64.wrap (n5 + 1)) r6 loc1_0 loc1_1 loc1_2 loc1_3 loc1_4)
    else
      rec (.h5 most3 i4 n5 r6 loc1_0 loc1_1 loc1_2 loc1_3 loc1_4)
noncomputable def t18_h3 (k : Nat) (rec : S18 → Option R18) (most3 : Int) (i4 : Int) (n5 : Int) (r6 : Int) (alive7 : Bool) (k8 : Int) (t42 : Rs) (t43 : Int) (t44 : Int) (loc1_0 : Int) (loc1_1 : Int) (loc1_2 : Rs) (loc1_3 : Rs) (loc1_4 : Rs) : Option R18 :=
  bif decide (t44 < t43) then
    ixR t42 t44 fun w2 =>
    un_i w2 fun x4 =>
    bif alive7 then
      rec (.h6 most3 i4 n5 r6 true k8 t42 t43 t44 loc1_0 loc1_1 loc1_2 loc1_3 loc1_4)
    else
      rec (.h6 most3 i4 n5 r6 (x4 == r6) k8 t42 t43 t44 loc1_0 loc1_1 loc1_2 loc1_3 loc1_4)
  else
    rec (.h7 most3 i4 n5 r6 alive7 k8 loc1_0 loc1_1 loc1_2 loc1_3 loc1_4)
noncomputable def t18_h4 (k : Nat) (rec : S18 → Option R18) (most3 : Int) (i4 : Int) (n5 : Int) (r6 : Int) (alive7 : Bool) (k8 : Int) (t42 : Rs) (t43 : Int) (t44 : Int) (loc1_0 : Int) (loc1_1 : Int) (loc1_2 : Rs) (loc1_3 : Rs) (loc1_4 : Rs) : Option R18 :=
  bif decide (t44 < t43) then
    ixR t42 t44 fun w2 =>
    un_i w2 fun x4 =>
    bif alive7 then
      rec (.h8 most3 i4 n5 r6 true k8 t42 t43 t44 loc1_0 loc1_1 loc1_2 loc1_3 loc1_4)
    else
      rec (.h8 most3 i4 n5 r6 (x4 == r6) k8 t42 t43 t44 loc1_0 loc1_1 loc1_2 loc1_3 loc1_4)
  else
    rec (.h7 most3 i4 n5 r6 alive7 k8 loc1_0 loc1_1 loc1_2 loc1_3 loc1_4)
noncomputable def t18_h5 (k : Nat) (rec : S18 → Option R18) (most3 : Int) (i4 : Int) (n5 : Int) (r6 : Int) (loc1_0 : Int) (loc1_1 : Int) (loc1_2 : Rs) (loc1_3 : Rs) (loc1_4 : Rs) : Option R18 :=
  rec (.h1 most3 i4 n5 (IntKind.i64.wrap (r6 + 1)) loc1_0 loc1_1 loc1_2 loc1_3 loc1_4)
noncomputable def t18_h6 (k : Nat) (rec : S18 → Option R18) (most3 : Int) (i4 : Int) (n5 : Int) (r6 : Int) (alive7 : Bool) (k8 : Int) (t42 : Rs) (t43 : Int) (t44 : Int) (loc1_0 : Int) (loc1_1 : Int) (loc1_2 : Rs) (loc1_3 : Rs) (loc1_4 : Rs) : Option R18 :=
  rec (.h3 most3 i4 n5 r6 alive7 k8 t42 t43 (IntKind.i64.wrap (t44 + 1)) loc1_0 loc1_1 loc1_2 loc1_3 loc1_4)
noncomputable def t18_h7 (k : Nat) (rec : S18 → Option R18) (most3 : Int) (i4 : Int) (n5 : Int) (r6 : Int) (alive7 : Bool) (k8 : Int) (loc1_0 : Int) (loc1_1 : Int) (loc1_2 : Rs) (loc1_3 : Rs) (loc1_4 : Rs) : Option R18 :=
  rec (.h2 most3 i4 n5 r6 alive7 (IntKind.i64.wrap (k8 + 1)) loc1_0 loc1_1 loc1_2 loc1_3 loc1_4)
noncomputable def t18_h8 (k : Nat) (rec : S18 → Option R18) (most3 : Int) (i4 : Int) (n5 : Int) (r6 : Int) (alive7 : Bool) (k8 : Int) (t42 : Rs) (t43 : Int) (t44 : Int) (loc1_0 : Int) (loc1_1 : Int) (loc1_2 : Rs) (loc1_3 : Rs) (loc1_4 : Rs) : Option R18 :=
  rec (.h4 most3 i4 n5 r6 alive7 k8 t42 t43 (IntKind.i64.wrap (t44 + 1)) loc1_0 loc1_1 loc1_2 loc1_3 loc1_4)
noncomputable def step18 (k : Nat) (rec : S18 → Option R18) : S18 → Option R18
  | .e c0_0 c0_1 c0_2 c0_3 c0_4 => t18_e k rec c0_0 c0_1 c0_2 c0_3 c0_4
  | .h0 most3 i4 loc1_0 loc1_1 loc1_2 loc1_3 loc1_4 => t18_h0 k rec most3 i4 loc1_0 loc1_1 loc1_2 loc1_3 loc1_4
  | .h1 most3 i4 n5 r6 loc1_0 loc1_1 loc1_2 loc1_3 loc1_4 => t18_h1 k rec most3 i4 n5 r6 loc1_0 loc1_1 loc1_2 loc1_3 loc1_4
  | .h2 most3 i4 n5 r6 alive7 k8 loc1_0 loc1_1 loc1_2 loc1_3 loc1_4 => t18_h2 k rec most3 i4 n5 r6 alive7 k8 loc1_0 loc1_1 loc1_2 loc1_3 loc1_4
  | .h3 most3 i4 n5 r6 alive7 k8 t42 t43 t44 loc1_0 loc1_1 loc1_2 loc1_3 loc1_4 => t18_h3 k rec most3 i4 n5 r6 alive7 k8 t42 t43 t44 loc1_0 loc1_1 loc1_2 loc1_3 loc1_4
  | .h4 most3 i4 n5 r6 alive7 k8 t42 t43 t44 loc1_0 loc1_1 loc1_2 loc1_3 loc1_4 => t18_h4 k rec most3 i4 n5 r6 alive7 k8 t42 t43 t44 loc1_0 loc1_1 loc1_2 loc1_3 loc1_4
  | .h5 most3 i4 n5 r6 loc1_0 loc1_1 loc1_2 loc1_3 loc1_4 => t18_h5 k rec most3 i4 n5 r6 loc1_0 loc1_1 loc1_2 loc1_3 loc1_4
  | .h6 most3 i4 n5 r6 alive7 k8 t42 t43 t44 loc1_0 loc1_1 loc1_2 loc1_3 loc1_4 => t18_h6 k rec most3 i4 n5 r6 alive7 k8 t42 t43 t44 loc1_0 loc1_1 loc1_2 loc1_3 loc1_4
  | .h7 most3 i4 n5 r6 alive7 k8 loc1_0 loc1_1 loc1_2 loc1_3 loc1_4 => t18_h7 k rec most3 i4 n5 r6 alive7 k8 loc1_0 loc1_1 loc1_2 loc1_3 loc1_4
  | .h8 most3 i4 n5 r6 alive7 k8 t42 t43 t44 loc1_0 loc1_1 loc1_2 loc1_3 loc1_4 => t18_h8 k rec most3 i4 n5 r6 alive7 k8 t42 t43 t44 loc1_0 loc1_1 loc1_2 loc1_3 loc1_4
noncomputable def g18 (k : Nat) (c0_0 : Int) (c0_1 : Int) (c0_2 : Rs) (c0_3 : Rs) (c0_4 : Rs) : Option R18 := itS step18 k (.e c0_0 c0_1 c0_2 c0_3 c0_4)
noncomputable def P18 : S18 → R18 → Prop
  | .e c0_0 c0_1 c0_2 c0_3 c0_4, r => Fin cx18 Try.f18 [.code body18] (fr0 Try.f18 [.ag [ic c0_0, ic c0_1, .imm c0_2, .imm c0_3, .imm c0_4]] []) (res18 r) (bx18 r)
  | .h0 most3 i4 loc1_0 loc1_1 loc1_2 loc1_3 loc1_4, r => Fin cx18 Try.f18 (kAt body18 [1, 1, 1, 0, 1, 0, 4] []) ⟨[.deadv, .c (.ptr ⟨⟨.loc 1, []⟩, 0, 0⟩), .deadv, .c (ic most3), .c (ic i4)] ++ rep 57 .deadv, [(.loc 1, [ic loc1_0, ic loc1_1, .imm loc1_2, .imm loc1_3, .imm loc1_4])]⟩ (res18 r) (bx18 r)
  | .h1 most3 i4 n5 r6 loc1_0 loc1_1 loc1_2 loc1_3 loc1_4, r => Fin cx18 Try.f18 (kAt body18 [1, 1, 1, 0, 1, 0, 0, 1, 0, 0, 1, 0, 1, 0, 4] []) ⟨[.deadv, .c (.ptr ⟨⟨.loc 1, []⟩, 0, 0⟩), .deadv, .c (ic most3), .c (ic i4), .c (ic n5), .c (ic r6)] ++ rep 55 .deadv, [(.loc 1, [ic loc1_0, ic loc1_1, .imm loc1_2, .imm loc1_3, .imm loc1_4])]⟩ (res18 r) (bx18 r)
  | .h2 most3 i4 n5 r6 alive7 k8 loc1_0 loc1_1 loc1_2 loc1_3 loc1_4, r => Fin cx18 Try.f18 (kAt body18 [1, 1, 1, 0, 1, 0, 0, 1, 0, 0, 1, 0, 1, 0, 0, 1, 0, 0, 1, 0, 1, 0, 4] []) ⟨[.deadv, .c (.ptr ⟨⟨.loc 1, []⟩, 0, 0⟩), .deadv, .c (ic most3), .c (ic i4), .c (ic n5), .c (ic r6), .c (bc alive7), .c (ic k8)] ++ rep 53 .deadv, [(.loc 1, [ic loc1_0, ic loc1_1, .imm loc1_2, .imm loc1_3, .imm loc1_4])]⟩ (res18 r) (bx18 r)
  | .h3 most3 i4 n5 r6 alive7 k8 t42 t43 t44 loc1_0 loc1_1 loc1_2 loc1_3 loc1_4, r => Fin cx18 Try.f18 (kAt body18 [1, 1, 1, 0, 1, 0, 0, 1, 0, 0, 1, 0, 1, 0, 0, 1, 0, 0, 1, 0, 1, 0, 0, 1, 0, 0, 1, 0, 4] []) ⟨[.deadv, .c (.ptr ⟨⟨.loc 1, []⟩, 0, 0⟩), .deadv, .c (ic most3), .c (ic i4), .c (ic n5), .c (ic r6), .c (bc alive7), .c (ic k8)] ++ rep 33 .deadv ++ [.c (.own 1 t42), .c (ic t43), .c (ic t44)] ++ rep 17 .deadv, [(.loc 1, [ic loc1_0, ic loc1_1, .imm loc1_2, .imm loc1_3, .imm loc1_4])]⟩ (res18 r) (bx18 r)
  | .h4 most3 i4 n5 r6 alive7 k8 t42 t43 t44 loc1_0 loc1_1 loc1_2 loc1_3 loc1_4, r => Fin cx18 Try.f18 (kAt body18 [1, 1, 1, 0, 1, 0, 0, 1, 0, 0, 1, 0, 1, 0, 0, 1, 0, 0, 1, 0, 1, 0, 0, 1, 0, 0, 1, 0, 4] []) ⟨[.deadv, .c (.ptr ⟨⟨.loc 1, []⟩, 0, 0⟩), .deadv, .c (ic most3), .c (ic i4), .c (ic n5), .c (ic r6), .c (bc alive7), .c (ic k8)] ++ rep 33 .deadv ++ [.c (.imm t42), .c (ic t43), .c (ic t44)] ++ rep 17 .deadv, [(.loc 1, [ic loc1_0, ic loc1_1, .imm loc1_2, .imm loc1_3, .imm loc1_4])]⟩ (res18 r) (bx18 r)
  | .h5 most3 i4 n5 r6 loc1_0 loc1_1 loc1_2 loc1_3 loc1_4, r => Fin cx18 Try.f18 (kAt body18 [1, 1, 1, 0, 1, 0, 0, 1, 0, 0, 1, 0, 1, 0, 0, 1, 1, 2] []) ⟨[.deadv, .c (.ptr ⟨⟨.loc 1, []⟩, 0, 0⟩), .deadv, .c (ic most3), .c (ic i4), .c (ic n5), .c (ic r6)] ++ rep 55 .deadv, [(.loc 1, [ic loc1_0, ic loc1_1, .imm loc1_2, .imm loc1_3, .imm loc1_4])]⟩ (res18 r) (bx18 r)
  | .h6 most3 i4 n5 r6 alive7 k8 t42 t43 t44 loc1_0 loc1_1 loc1_2 loc1_3 loc1_4, r => Fin cx18 Try.f18 (kAt body18 [1, 1, 1, 0, 1, 0, 0, 1, 0, 0, 1, 0, 1, 0, 0, 1, 0, 0, 1, 0, 1, 0, 0, 1, 0, 0, 1, 0, 0, 1, 1, 1, 2] []) ⟨[.deadv, .c (.ptr ⟨⟨.loc 1, []⟩, 0, 0⟩), .deadv, .c (ic most3), .c (ic i4), .c (ic n5), .c (ic r6), .c (bc alive7), .c (ic k8)] ++ rep 33 .deadv ++ [.c (.own 1 t42), .c (ic t43), .c (ic t44)] ++ rep 17 .deadv, [(.loc 1, [ic loc1_0, ic loc1_1, .imm loc1_2, .imm loc1_3, .imm loc1_4])]⟩ (res18 r) (bx18 r)
  | .h7 most3 i4 n5 r6 alive7 k8 loc1_0 loc1_1 loc1_2 loc1_3 loc1_4, r => Fin cx18 Try.f18 (kAt body18 [1, 1, 1, 0, 1, 0, 0, 1, 0, 0, 1, 0, 1, 0, 0, 1, 0, 0, 1, 0, 1, 0, 0, 1, 1, 2] []) ⟨[.deadv, .c (.ptr ⟨⟨.loc 1, []⟩, 0, 0⟩), .deadv, .c (ic most3), .c (ic i4), .c (ic n5), .c (ic r6), .c (bc alive7), .c (ic k8)] ++ rep 53 .deadv, [(.loc 1, [ic loc1_0, ic loc1_1, .imm loc1_2, .imm loc1_3, .imm loc1_4])]⟩ (res18 r) (bx18 r)
  | .h8 most3 i4 n5 r6 alive7 k8 t42 t43 t44 loc1_0 loc1_1 loc1_2 loc1_3 loc1_4, r => Fin cx18 Try.f18 (kAt body18 [1, 1, 1, 0, 1, 0, 0, 1, 0, 0, 1, 0, 1, 0, 0, 1, 0, 0, 1, 0, 1, 0, 0, 1, 0, 0, 1, 0, 0, 1, 1, 1, 2] []) ⟨[.deadv, .c (.ptr ⟨⟨.loc 1, []⟩, 0, 0⟩), .deadv, .c (ic most3), .c (ic i4), .c (ic n5), .c (ic r6), .c (bc alive7), .c (ic k8)] ++ rep 33 .deadv ++ [.c (.imm t42), .c (ic t43), .c (ic t44)] ++ rep 17 .deadv, [(.loc 1, [ic loc1_0, ic loc1_1, .imm loc1_2, .imm loc1_3, .imm loc1_4])]⟩ (res18 r) (bx18 r)
theorem evr18 {c0_0 : Int} {c0_1 : Int} {c0_2 : Rs} {c0_3 : Rs} {c0_4 : Rs} {r : R18} (h : P18 (.e c0_0 c0_1 c0_2 c0_3 c0_4) r) : Ev Try.prog noHand 18 [.ag [ic c0_0, ic c0_1, .imm c0_2, .imm c0_3, .imm c0_4]] [] (res18 r) (bx18 r) := ev_of_fin (fn := Try.f18) (body := body18) (by kernel_rfl) (by kernel_rfl) (by kernel_rfl) rfl h
theorem t18_e_ok (k : Nat) (rec : S18 → Option R18) (ih : ∀ s r, rec s = some r → P18 s r) (c0_0 : Int) (c0_1 : Int) (c0_2 : Rs) (c0_3 : Rs) (c0_4 : Rs) (r : R18) (h : t18_e k rec c0_0 c0_1 c0_2 c0_3 c0_4 = some r) : P18 (.e c0_0 c0_1 c0_2 c0_3 c0_4) r := by
  unfold t18_e at h
  obtain ⟨v1, h2, h⟩ := bd_or h
  rcases bif_or h with ⟨h3, h⟩ | ⟨h3, h⟩
  ·
    rw [← Option.some.inj h]
    exact mgo_fin (nb := 0) hmix (n := 2000) (ad := [(some 12, .call (.ret (.c (bc v1))) [] false), (some 13, .test true)]) (ps := [_, _]) (by kernel_rfl) ⟨(ev16 h2), h3, trivial⟩
  ·
    exact mgo_at (nb := 0) hmix (ih _ _ h) (n := 14) (ad := [(some 12, .call (.ret (.c (bc v1))) [] false), (some 13, .test false)]) (ps := [_, _]) (m := bm 62 4611686018427387877) (ls := []) (by kernel_rfl) ⟨(ev16 h2), h3, trivial⟩
theorem t18_h0_ok (k : Nat) (rec : S18 → Option R18) (ih : ∀ s r, rec s = some r → P18 s r) (most3 : Int) (i4 : Int) (loc1_0 : Int) (loc1_1 : Int) (loc1_2 : Rs) (loc1_3 : Rs) (loc1_4 : Rs) (r : R18) (h : t18_h0 k rec most3 i4 loc1_0 loc1_1 loc1_2 loc1_3 loc1_4 = some r) : P18 (.h0 most3 i4 loc1_0 loc1_1 loc1_2 loc1_3 loc1_4) r := by
  unfold t18_h0 at h
  rcases bif_or h with ⟨h1, h⟩ | ⟨h1, h⟩
  ·
    exact mgo_at (nb := 0) hmix (ih _ _ h) (n := 15) (ad := [(some 17, .test true)]) (ps := [_]) (m := bm 62 4611686018427387781) (ls := []) (by kernel_rfl) ⟨h1, trivial⟩
  ·
    rw [← Option.some.inj h]
    exact mgo_fin (nb := 0) hmix (n := 2000) (ad := [(some 17, .test false)]) (ps := [_]) (by kernel_rfl) ⟨h1, trivial⟩
theorem t18_h1_ok (k : Nat) (rec : S18 → Option R18) (ih : ∀ s r, rec s = some r → P18 s r) (most3 : Int) (i4 : Int) (n5 : Int) (r6 : Int) (loc1_0 : Int) (loc1_1 : Int) (loc1_2 : Rs) (loc1_3 : Rs) (loc1_4 : Rs) (r : R18) (h : t18_h1 k rec most3 i4 n5 r6 loc1_0 loc1_1 loc1_2 loc1_3 loc1_4 = some r) : P18 (.h1 most3 i4 n5 r6 loc1_0 loc1_1 loc1_2 loc1_3 loc1_4) r := by
  unfold t18_h1 at h
  rcases bif_or h with ⟨h1, h⟩ | ⟨h1, h⟩
  ·
    exact mgo_at (nb := 0) hmix (ih _ _ h) (n := 15) (ad := [(some 22, .test true)]) (ps := [_]) (m := bm 62 4611686018427387397) (ls := []) (by kernel_rfl) ⟨h1, trivial⟩
  ·
    exact mgo_at (nb := 0) hmix (ih _ _ h) (n := 9) (ad := [(some 22, .test false)]) (ps := [_]) (m := bm 62 4611686018427387877) (ls := []) (by kernel_rfl) ⟨h1, trivial⟩
theorem t18_h2_ok (k : Nat) (rec : S18 → Option R18) (ih : ∀ s r, rec s = some r → P18 s r) (most3 : Int) (i4 : Int) (n5 : Int) (r6 : Int) (alive7 : Bool) (k8 : Int) (loc1_0 : Int) (loc1_1 : Int) (loc1_2 : Rs) (loc1_3 : Rs) (loc1_4 : Rs) (r : R18) (h : t18_h2 k rec most3 i4 n5 r6 alive7 k8 loc1_0 loc1_1 loc1_2 loc1_3 loc1_4 = some r) : P18 (.h2 most3 i4 n5 r6 alive7 k8 loc1_0 loc1_1 loc1_2 loc1_3 loc1_4) r := by
  unfold t18_h2 at h
  rcases bif_or h with ⟨h1, h⟩ | ⟨h1, h⟩
  ·
    obtain ⟨w2, h3, h⟩ := ixR_or h
    obtain ⟨op4, dst4, a4, b4, hq, h1'⟩ := un_i4_or h
    clear h; subst hq; have h := h1'; clear h1'
    obtain ⟨v5, h6, h⟩ := bd_or h
    rcases altC_or h with ⟨v7, hq, h1'⟩ | ⟨v7, hq, h1'⟩
    · clear h; subst hq; have h := h1'; clear h1'
      exact mgo_at (nb := 0) hmix (ih _ _ h) (n := 12) (ad := [(some 34, .test true), (some 40, .row [ic op4, ic dst4, ic a4, ic b4]), (some 42, .call (.ret (.c (.own 1 v7))) [] false)]) (ps := [_, _, _]) (m := bm 62 4611655232101809669) (ls := []) (by kernel_rfl) ⟨h1, ix_row h3 rfl, (ev33 h6), trivial⟩
    · clear h; subst hq; have h := h1'; clear h1'
      exact mgo_at (nb := 0) hmix (ih _ _ h) (n := 12) (ad := [(some 34, .test true), (some 40, .row [ic op4, ic dst4, ic a4, ic b4]), (some 42, .call (.ret (.c (.imm v7))) [] false)]) (ps := [_, _, _]) (m := bm 62 4611655232101809669) (ls := []) (by kernel_rfl) ⟨h1, ix_row h3 rfl, (ev33 h6), trivial⟩
  ·
    rcases bif_or h with ⟨hq, h1'⟩ | ⟨hq, h1'⟩
    · clear h; subst hq; have h := h1'; clear h1'
      exact mgo_at (nb := 0) hmix (ih _ _ h) (n := 11) (ad := [(some 34, .test false)]) (ps := [_]) (m := bm 62 4611686018427387781) (ls := []) (by kernel_rfl) ⟨h1, trivial⟩
    · clear h; subst hq; have h := h1'; clear h1'
      exact mgo_at (nb := 0) hmix (ih _ _ h) (n := 11) (ad := [(some 34, .test false)]) (ps := [_]) (m := bm 62 4611686018427387781) (ls := []) (by kernel_rfl) ⟨h1, trivial⟩
theorem t18_h3_ok (k : Nat) (rec : S18 → Option R18) (ih : ∀ s r, rec s = some r → P18 s r) (most3 : Int) (i4 : Int) (n5 : Int) (r6 : Int) (alive7 : Bool) (k8 : Int) (t42 : Rs) (t43 : Int) (t44 : Int) (loc1_0 : Int) (loc1_1 : Int) (loc1_2 : Rs) (loc1_3 : Rs) (loc1_4 : Rs) (r : R18) (h : t18_h3 k rec most3 i4 n5 r6 alive7 k8 t42 t43 t44 loc1_0 loc1_1 loc1_2 loc1_3 loc1_4 = some r) : P18 (.h3 most3 i4 n5 r6 alive7 k8 t42 t43 t44 loc1_0 loc1_1 loc1_2 loc1_3 loc1_4) r := by
  unfold t18_h3 at h
  rcases bif_or h with ⟨h1, h⟩ | ⟨h1, h⟩
  ·
    obtain ⟨w2, h3, h⟩ := ixR_or h
    obtain ⟨x4, hq, h1'⟩ := un_i_or h
    clear h; subst hq; have h := h1'; clear h1'
    rcases bif_or h with ⟨hq, h1'⟩ | ⟨hq, h1'⟩
    · clear h; subst hq; have h := h1'; clear h1'
      exact mgo_at (nb := 0) hmix (ih _ _ h) (n := 12) (ad := [(some 45, .test true), (some 46, .bnd), (some 47, .ld [ic x4])]) (ps := [_, _, _]) (m := bm 62 4611655232101809669) (ls := []) (by kernel_rfl) ⟨h1, ix_bnd h3, h3.2, trivial⟩
    · clear h; subst hq; have h := h1'; clear h1'
      exact mgo_at (nb := 0) hmix (ih _ _ h) (n := 12) (ad := [(some 45, .test true), (some 46, .bnd), (some 47, .ld [ic x4])]) (ps := [_, _, _]) (m := bm 62 4611655232101809669) (ls := []) (by kernel_rfl) ⟨h1, ix_bnd h3, h3.2, trivial⟩
  ·
    exact mgo_at (nb := 0) hmix (ih _ _ h) (n := 7) (ad := [(some 45, .test false)]) (ps := [_]) (m := bm 62 4611686018427387397) (ls := []) (by kernel_rfl) ⟨h1, trivial⟩
theorem t18_h4_ok (k : Nat) (rec : S18 → Option R18) (ih : ∀ s r, rec s = some r → P18 s r) (most3 : Int) (i4 : Int) (n5 : Int) (r6 : Int) (alive7 : Bool) (k8 : Int) (t42 : Rs) (t43 : Int) (t44 : Int) (loc1_0 : Int) (loc1_1 : Int) (loc1_2 : Rs) (loc1_3 : Rs) (loc1_4 : Rs) (r : R18) (h : t18_h4 k rec most3 i4 n5 r6 alive7 k8 t42 t43 t44 loc1_0 loc1_1 loc1_2 loc1_3 loc1_4 = some r) : P18 (.h4 most3 i4 n5 r6 alive7 k8 t42 t43 t44 loc1_0 loc1_1 loc1_2 loc1_3 loc1_4) r := by
  unfold t18_h4 at h
  rcases bif_or h with ⟨h1, h⟩ | ⟨h1, h⟩
  ·
    obtain ⟨w2, h3, h⟩ := ixR_or h
    obtain ⟨x4, hq, h1'⟩ := un_i_or h
    clear h; subst hq; have h := h1'; clear h1'
    rcases bif_or h with ⟨hq, h1'⟩ | ⟨hq, h1'⟩
    · clear h; subst hq; have h := h1'; clear h1'
      exact mgo_at (nb := 0) hmix (ih _ _ h) (n := 12) (ad := [(some 45, .test true), (some 46, .row [ic x4])]) (ps := [_, _]) (m := bm 62 4611655232101809669) (ls := []) (by kernel_rfl) ⟨h1, ix_row h3 rfl, trivial⟩
    · clear h; subst hq; have h := h1'; clear h1'
      exact mgo_at (nb := 0) hmix (ih _ _ h) (n := 12) (ad := [(some 45, .test true), (some 46, .row [ic x4])]) (ps := [_, _]) (m := bm 62 4611655232101809669) (ls := []) (by kernel_rfl) ⟨h1, ix_row h3 rfl, trivial⟩
  ·
    exact mgo_at (nb := 0) hmix (ih _ _ h) (n := 7) (ad := [(some 45, .test false)]) (ps := [_]) (m := bm 62 4611686018427387397) (ls := []) (by kernel_rfl) ⟨h1, trivial⟩
theorem t18_h5_ok (k : Nat) (rec : S18 → Option R18) (ih : ∀ s r, rec s = some r → P18 s r) (most3 : Int) (i4 : Int) (n5 : Int) (r6 : Int) (loc1_0 : Int) (loc1_1 : Int) (loc1_2 : Rs) (loc1_3 : Rs) (loc1_4 : Rs) (r : R18) (h : t18_h5 k rec most3 i4 n5 r6 loc1_0 loc1_1 loc1_2 loc1_3 loc1_4 = some r) : P18 (.h5 most3 i4 n5 r6 loc1_0 loc1_1 loc1_2 loc1_3 loc1_4) r := by
  unfold t18_h5 at h
  exact mgo_at (nb := 0) hmix (ih _ _ h) (n := 1) (ad := []) (ps := []) (m := bm 62 4611686018427387781) (ls := []) (by kernel_rfl) trivial
theorem t18_h6_ok (k : Nat) (rec : S18 → Option R18) (ih : ∀ s r, rec s = some r → P18 s r) (most3 : Int) (i4 : Int) (n5 : Int) (r6 : Int) (alive7 : Bool) (k8 : Int) (t42 : Rs) (t43 : Int) (t44 : Int) (loc1_0 : Int) (loc1_1 : Int) (loc1_2 : Rs) (loc1_3 : Rs) (loc1_4 : Rs) (r : R18) (h : t18_h6 k rec most3 i4 n5 r6 alive7 k8 t42 t43 t44 loc1_0 loc1_1 loc1_2 loc1_3 loc1_4 = some r) : P18 (.h6 most3 i4 n5 r6 alive7 k8 t42 t43 t44 loc1_0 loc1_1 loc1_2 loc1_3 loc1_4) r := by
  unfold t18_h6 at h
  exact mgo_at (nb := 0) hmix (ih _ _ h) (n := 1) (ad := []) (ps := []) (m := bm 62 4611655232101809669) (ls := []) (by kernel_rfl) trivial
theorem t18_h7_ok (k : Nat) (rec : S18 → Option R18) (ih : ∀ s r, rec s = some r → P18 s r) (most3 : Int) (i4 : Int) (n5 : Int) (r6 : Int) (alive7 : Bool) (k8 : Int) (loc1_0 : Int) (loc1_1 : Int) (loc1_2 : Rs) (loc1_3 : Rs) (loc1_4 : Rs) (r : R18) (h : t18_h7 k rec most3 i4 n5 r6 alive7 k8 loc1_0 loc1_1 loc1_2 loc1_3 loc1_4 = some r) : P18 (.h7 most3 i4 n5 r6 alive7 k8 loc1_0 loc1_1 loc1_2 loc1_3 loc1_4) r := by
  unfold t18_h7 at h
  exact mgo_at (nb := 0) hmix (ih _ _ h) (n := 1) (ad := []) (ps := []) (m := bm 62 4611686018427387397) (ls := []) (by kernel_rfl) trivial
theorem t18_h8_ok (k : Nat) (rec : S18 → Option R18) (ih : ∀ s r, rec s = some r → P18 s r) (most3 : Int) (i4 : Int) (n5 : Int) (r6 : Int) (alive7 : Bool) (k8 : Int) (t42 : Rs) (t43 : Int) (t44 : Int) (loc1_0 : Int) (loc1_1 : Int) (loc1_2 : Rs) (loc1_3 : Rs) (loc1_4 : Rs) (r : R18) (h : t18_h8 k rec most3 i4 n5 r6 alive7 k8 t42 t43 t44 loc1_0 loc1_1 loc1_2 loc1_3 loc1_4 = some r) : P18 (.h8 most3 i4 n5 r6 alive7 k8 t42 t43 t44 loc1_0 loc1_1 loc1_2 loc1_3 loc1_4) r := by
  unfold t18_h8 at h
  exact mgo_at (nb := 0) hmix (ih _ _ h) (n := 1) (ad := []) (ps := []) (m := bm 62 4611655232101809669) (ls := []) (by kernel_rfl) trivial
theorem ok18 : ∀ k s r, itS step18 k s = some r → P18 s r := itS_ok fun k rec ih s r h => match s, h with
  | .e c0_0 c0_1 c0_2 c0_3 c0_4, h => t18_e_ok k rec ih c0_0 c0_1 c0_2 c0_3 c0_4 r h
  | .h0 most3 i4 loc1_0 loc1_1 loc1_2 loc1_3 loc1_4, h => t18_h0_ok k rec ih most3 i4 loc1_0 loc1_1 loc1_2 loc1_3 loc1_4 r h
  | .h1 most3 i4 n5 r6 loc1_0 loc1_1 loc1_2 loc1_3 loc1_4, h => t18_h1_ok k rec ih most3 i4 n5 r6 loc1_0 loc1_1 loc1_2 loc1_3 loc1_4 r h
  | .h2 most3 i4 n5 r6 alive7 k8 loc1_0 loc1_1 loc1_2 loc1_3 loc1_4, h => t18_h2_ok k rec ih most3 i4 n5 r6 alive7 k8 loc1_0 loc1_1 loc1_2 loc1_3 loc1_4 r h
  | .h3 most3 i4 n5 r6 alive7 k8 t42 t43 t44 loc1_0 loc1_1 loc1_2 loc1_3 loc1_4, h => t18_h3_ok k rec ih most3 i4 n5 r6 alive7 k8 t42 t43 t44 loc1_0 loc1_1 loc1_2 loc1_3 loc1_4 r h
  | .h4 most3 i4 n5 r6 alive7 k8 t42 t43 t44 loc1_0 loc1_1 loc1_2 loc1_3 loc1_4, h => t18_h4_ok k rec ih most3 i4 n5 r6 alive7 k8 t42 t43 t44 loc1_0 loc1_1 loc1_2 loc1_3 loc1_4 r h
  | .h5 most3 i4 n5 r6 loc1_0 loc1_1 loc1_2 loc1_3 loc1_4, h => t18_h5_ok k rec ih most3 i4 n5 r6 loc1_0 loc1_1 loc1_2 loc1_3 loc1_4 r h
  | .h6 most3 i4 n5 r6 alive7 k8 t42 t43 t44 loc1_0 loc1_1 loc1_2 loc1_3 loc1_4, h => t18_h6_ok k rec ih most3 i4 n5 r6 alive7 k8 t42 t43 t44 loc1_0 loc1_1 loc1_2 loc1_3 loc1_4 r h
  | .h7 most3 i4 n5 r6 alive7 k8 loc1_0 loc1_1 loc1_2 loc1_3 loc1_4, h => t18_h7_ok k rec ih most3 i4 n5 r6 alive7 k8 loc1_0 loc1_1 loc1_2 loc1_3 loc1_4 r h
  | .h8 most3 i4 n5 r6 alive7 k8 t42 t43 t44 loc1_0 loc1_1 loc1_2 loc1_3 loc1_4, h => t18_h8_ok k rec ih most3 i4 n5 r6 alive7 k8 t42 t43 t44 loc1_0 loc1_1 loc1_2 loc1_3 loc1_4 r h
theorem ev18 {k : Nat} {c0_0 : Int} {c0_1 : Int} {c0_2 : Rs} {c0_3 : Rs} {c0_4 : Rs} {r : R18} (h : g18 k c0_0 c0_1 c0_2 c0_3 c0_4 = some r) : Ev Try.prog noHand 18 [.ag [ic c0_0, ic c0_1, .imm c0_2, .imm c0_3, .imm c0_4]] [] (res18 r) (bx18 r) := evr18 (ok18 _ _ _ h)
-- auspice/auspicelaw17.SsaTells
inductive S4 where
  | e (c0_0 : Int) (c0_1 : Int) (c0_2 : Rs) (c0_3 : Rs) (c0_4 : Rs)
abbrev R4 := Bool
def res4 : R4 → ARes
  | r => .ret (.c (bc r))
def bx4 : R4 → List (List Cell)
  | r => []
noncomputable def t4_e (k : Nat) (rec : S4 → Option R4) (c0_0 : Int) (c0_1 : Int) (c0_2 : Rs) (c0_3 : Rs) (c0_4 : Rs) : Option R4 :=
  bif decide ((c0_4.length : Int) > 120) then
    some true
  else
    (g15 k c0_0 c0_1 c0_2 c0_3 c0_4).bind fun v2 =>
    (g16 k c0_0 c0_1 c0_2 c0_3 c0_4).bind fun v4 =>
    bif v2 == v4 then
      (g17 k c0_0 c0_1 c0_2 c0_3 c0_4).bind fun v7 =>
      (g18 k c0_0 c0_1 c0_2 c0_3 c0_4).bind fun v9 =>
      some (v7 == v9)
    else
      some false
noncomputable def step4 (k : Nat) (rec : S4 → Option R4) : S4 → Option R4
  | .e c0_0 c0_1 c0_2 c0_3 c0_4 => t4_e k rec c0_0 c0_1 c0_2 c0_3 c0_4
noncomputable def g4 (k : Nat) (c0_0 : Int) (c0_1 : Int) (c0_2 : Rs) (c0_3 : Rs) (c0_4 : Rs) : Option R4 := itS step4 k (.e c0_0 c0_1 c0_2 c0_3 c0_4)
noncomputable def P4 : S4 → R4 → Prop
  | .e c0_0 c0_1 c0_2 c0_3 c0_4, r => Fin cx4 Try.f4 [.code body4] (fr0 Try.f4 [.ag [ic c0_0, ic c0_1, .imm c0_2, .imm c0_3, .imm c0_4]] []) (res4 r) (bx4 r)
theorem evr4 {c0_0 : Int} {c0_1 : Int} {c0_2 : Rs} {c0_3 : Rs} {c0_4 : Rs} {r : R4} (h : P4 (.e c0_0 c0_1 c0_2 c0_3 c0_4) r) : Ev Try.prog noHand 4 [.ag [ic c0_0, ic c0_1, .imm c0_2, .imm c0_3, .imm c0_4]] [] (res4 r) (bx4 r) := ev_of_fin (fn := Try.f4) (body := body4) (by kernel_rfl) (by kernel_rfl) (by kernel_rfl) rfl h
theorem t4_e_ok (k : Nat) (rec : S4 → Option R4) (ih : ∀ s r, rec s = some r → P4 s r) (c0_0 : Int) (c0_1 : Int) (c0_2 : Rs) (c0_3 : Rs) (c0_4 : Rs) (r : R4) (h : t4_e k rec c0_0 c0_1 c0_2 c0_3 c0_4 = some r) : P4 (.e c0_0 c0_1 c0_2 c0_3 c0_4) r := by
  unfold t4_e at h
  rcases bif_or h with ⟨h1, h⟩ | ⟨h1, h⟩
  ·
    rw [← Option.some.inj h]
    exact mgo_fin (nb := 0) hmix (n := 2000) (ad := [(some 6, .test true), (some 7, .call (.ret (.c (bc true))) [] false)]) (ps := [_, _]) (by kernel_rfl) ⟨h1, clA_89, trivial⟩
  ·
    obtain ⟨v2, h3, h⟩ := bd_or h
    obtain ⟨v4, h5, h⟩ := bd_or h
    rcases bif_or h with ⟨h6, h⟩ | ⟨h6, h⟩
    ·
      obtain ⟨v7, h8, h⟩ := bd_or h
      obtain ⟨v9, h10, h⟩ := bd_or h
      rw [← Option.some.inj h]
      exact mgo_fin (nb := 0) hmix (n := 2000) (ad := [(some 6, .test false), (some 8, .call (.ret (.c (bc true))) [] false), (some 11, .call (.ret (.c (bc v2))) [] false), (some 13, .call (.ret (.c (bc v4))) [] false), (some 14, .test true), (some 18, .call (.ret (.c (ic v7))) [] false), (some 20, .call (.ret (.c (ic v9))) [] false)]) (ps := [_, _, _, _, _, _, _]) (by kernel_rfl) ⟨h1, clA_89, (ev15 h3), (ev16 h5), h6, (ev17 h8), (ev18 h10), trivial⟩
    ·
      rw [← Option.some.inj h]
      exact mgo_fin (nb := 0) hmix (n := 2000) (ad := [(some 6, .test false), (some 8, .call (.ret (.c (bc true))) [] false), (some 11, .call (.ret (.c (bc v2))) [] false), (some 13, .call (.ret (.c (bc v4))) [] false), (some 14, .test false)]) (ps := [_, _, _, _, _]) (by kernel_rfl) ⟨h1, clA_89, (ev15 h3), (ev16 h5), h6, trivial⟩
theorem ok4 : ∀ k s r, itS step4 k s = some r → P4 s r := itS_ok fun k rec ih s r h => match s, h with
  | .e c0_0 c0_1 c0_2 c0_3 c0_4, h => t4_e_ok k rec ih c0_0 c0_1 c0_2 c0_3 c0_4 r h
theorem ev4 {k : Nat} {c0_0 : Int} {c0_1 : Int} {c0_2 : Rs} {c0_3 : Rs} {c0_4 : Rs} {r : R4} (h : g4 k c0_0 c0_1 c0_2 c0_3 c0_4 = some r) : Ev Try.prog noHand 4 [.ag [ic c0_0, ic c0_1, .imm c0_2, .imm c0_3, .imm c0_4]] [] (res4 r) (bx4 r) := evr4 (ok4 _ _ _ h)
end Ab
end Go.Proofs.Ytebmcaceklbopaa
