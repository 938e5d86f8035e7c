/-
  Functions' ways, printed by a program: what each computes, and that this is what the interpreter computes.
-/
import Derived.Test.YtebmcaceklbopaaF3
import Derived.KernelRfl
set_option linter.unusedVariables false
set_option linter.unusedSimpArgs false
namespace Go.Proofs.Ytebmcaceklbopaa
namespace Ab
-- auspice/auspiceref17.constant
inductive S38c where
  | e (v1_0 : Int) (v1_1 : Int) (b0_0 : Int) (b0_1 : Int) (b0_2 : Rs) (b0_3 : Rs) (b0_4 : Rs)
  | h0 (t11 : Int) (t12 : Int) (loc3_0 : Int) (loc3_1 : Int) (par0_0 : Int) (par0_1 : Int) (par0_2 : Rs) (par0_3 : Rs) (par0_4 : Rs)
abbrev R38c := Int × Int × Int × Rs × Rs × Rs
def res38c : R38c → ARes
  | (r, r_b0_0, r_b0_1, r_b0_2, r_b0_3, r_b0_4) => .ret (.c (ic r))
def bx38c : R38c → List (List Cell)
  | (r, r_b0_0, r_b0_1, r_b0_2, r_b0_3, r_b0_4) => [[ic r_b0_0, ic r_b0_1, .own 4 r_b0_2, .own 2 r_b0_3, .own 4 r_b0_4]]
noncomputable def t38c_e (k : Nat) (rec : S38c → Option R38c) (v1_0 : Int) (v1_1 : Int) (b0_0 : Int) (b0_1 : Int) (b0_2 : Rs) (b0_3 : Rs) (b0_4 : Rs) : Option R38c :=
  rec (.h0 (b0_3.length : Int) 0 v1_0 v1_1 b0_0 b0_1 b0_2 b0_3 b0_4)
noncomputable def t38c_h0 (k : Nat) (rec : S38c → Option R38c) (t11 : Int) (t12 : Int) (loc3_0 : Int) (loc3_1 : Int) (par0_0 : Int) (par0_1 : Int) (par0_2 : Rs) (par0_3 : Rs) (par0_4 : Rs) : Option R38c :=
  bif decide (t12 < t11) then
    ixR par0_3 t12 fun w_x2 =>
    un_iu w_x2 fun kind_x4 bits_x4 =>
    bif (loc3_0 == kind_x4 && (loc3_1 == bits_x4 && true)) then
      some (t12, par0_0, par0_1, par0_2, par0_3, par0_4)
    else
      rec (.h0 t11 (IntKind.i64.wrap (t12 + 1)) loc3_0 loc3_1 par0_0 par0_1 par0_2 par0_3 par0_4)
  else
    gd (apOk 16 2 par0_3 [[ic loc3_0, .val (.int .u64 loc3_1)]]) <|
    some (IntKind.i64.wrap (((par0_3 ++ [[ic loc3_0, .val (.int .u64 loc3_1)]]).length : Int) - 1), par0_0, par0_1, par0_2, par0_3 ++ [[ic loc3_0, .val (.int .u64 loc3_1)]], par0_4)
noncomputable def step38c (k : Nat) (rec : S38c → Option R38c) : S38c → Option R38c
  | .e v1_0 v1_1 b0_0 b0_1 b0_2 b0_3 b0_4 => t38c_e k rec v1_0 v1_1 b0_0 b0_1 b0_2 b0_3 b0_4
  | .h0 t11 t12 loc3_0 loc3_1 par0_0 par0_1 par0_2 par0_3 par0_4 => t38c_h0 k rec t11 t12 loc3_0 loc3_1 par0_0 par0_1 par0_2 par0_3 par0_4
noncomputable def g38c (k : Nat) (v1_0 : Int) (v1_1 : Int) (b0_0 : Int) (b0_1 : Int) (b0_2 : Rs) (b0_3 : Rs) (b0_4 : Rs) : Option R38c := itS step38c k (.e v1_0 v1_1 b0_0 b0_1 b0_2 b0_3 b0_4)
noncomputable def P38c : S38c → R38c → Prop
  | .e v1_0 v1_1 b0_0 b0_1 b0_2 b0_3 b0_4, r => Fin cx38 Try.f38 [.code body38] (fr0 Try.f38 [.c (.ptr ⟨⟨.par 0, []⟩, 0, 0⟩), .ag [ic v1_0, .val (.int .u64 v1_1)]] [[ic b0_0, ic b0_1, .own 4 b0_2, .own 2 b0_3, .own 4 b0_4]]) (res38c r) (bx38c r)
  | .h0 t11 t12 loc3_0 loc3_1 par0_0 par0_1 par0_2 par0_3 par0_4, r => Fin cx38 Try.f38 (kAt body38 [1, 0, 1, 0, 4] []) ⟨[.c (.ptr ⟨⟨.par 0, []⟩, 0, 0⟩), .deadv, .deadv, .c (.ptr ⟨⟨.loc 3, []⟩, 0, 0⟩)] ++ rep 6 .deadv ++ [.c (.ref ⟨⟨.par 0, []⟩, 0, 3⟩), .c (ic t11), .c (ic t12)] ++ rep 25 .deadv, [(.loc 3, [ic loc3_0, .val (.int .u64 loc3_1)]), (.par 0, [ic par0_0, ic par0_1, .own 4 par0_2, .own 2 par0_3, .own 4 par0_4])]⟩ (res38c r) (bx38c r)
theorem evr38c {v1_0 : Int} {v1_1 : Int} {b0_0 : Int} {b0_1 : Int} {b0_2 : Rs} {b0_3 : Rs} {b0_4 : Rs} {r : R38c} (h : P38c (.e v1_0 v1_1 b0_0 b0_1 b0_2 b0_3 b0_4) r) : Ev Try.prog noHand 38 [.c (.ptr ⟨⟨.par 0, []⟩, 0, 0⟩), .ag [ic v1_0, .val (.int .u64 v1_1)]] [[ic b0_0, ic b0_1, .own 4 b0_2, .own 2 b0_3, .own 4 b0_4]] (res38c r) (bx38c r) := ev_of_fin (fn := Try.f38) (body := body38) (by kernel_rfl) (by kernel_rfl) (by kernel_rfl) rfl h
theorem t38c_e_ok (k : Nat) (rec : S38c → Option R38c) (ih : ∀ s r, rec s = some r → P38c s r) (v1_0 : Int) (v1_1 : Int) (b0_0 : Int) (b0_1 : Int) (b0_2 : Rs) (b0_3 : Rs) (b0_4 : Rs) (r : R38c) (h : t38c_e k rec v1_0 v1_1 b0_0 b0_1 b0_2 b0_3 b0_4 = some r) : P38c (.e v1_0 v1_1 b0_0 b0_1 b0_2 b0_3 b0_4) r := by
  unfold t38c_e at h
  exact mgo_at (nb := 1) hmix (ih _ _ h) (n := 7) (ad := []) (ps := []) (m := bm 38 274877899766) (ls := []) (cs := []) (by kernel_rfl) trivial
theorem t38c_h0_ok (k : Nat) (rec : S38c → Option R38c) (ih : ∀ s r, rec s = some r → P38c s r) (t11 : Int) (t12 : Int) (loc3_0 : Int) (loc3_1 : Int) (par0_0 : Int) (par0_1 : Int) (par0_2 : Rs) (par0_3 : Rs) (par0_4 : Rs) (r : R38c) (h : t38c_h0 k rec t11 t12 loc3_0 loc3_1 par0_0 par0_1 par0_2 par0_3 par0_4 = some r) : P38c (.h0 t11 t12 loc3_0 loc3_1 par0_0 par0_1 par0_2 par0_3 par0_4) r := by
  unfold t38c_h0 at h
  rcases bif_or h with ⟨h_x1, h⟩ | ⟨h_x1, h⟩
  ·
    obtain ⟨w_x2, h_x3, h⟩ := ixR_or h
    obtain ⟨kind_x4, bits_x4, hq, h1'⟩ := un_iu_or h
    clear h; subst hq; have h := h1'; clear h1'
    rcases bif_or h with ⟨h_x5, h⟩ | ⟨h_x5, h⟩
    ·
      rw [← Option.some.inj h]
      exact mgo_fin (nb := 1) hmix (n := 2000) (ad := [(some 13, .test true), (some 15, .bnd), (some 16, .ld [ic kind_x4, .val (.int .u64 bits_x4)]), (some 19, .test true)]) (ps := [_, _, _, _]) (by kernel_rfl) ⟨h_x1, ix_bnd h_x3, h_x3.2, h_x5, trivial⟩
    ·
      exact mgo_at (nb := 1) hmix (ih _ _ h) (n := 16) (ad := [(some 13, .test true), (some 15, .bnd), (some 16, .ld [ic kind_x4, .val (.int .u64 bits_x4)]), (some 19, .test false)]) (ps := [_, _, _, _]) (m := bm 38 274877899766) (ls := [6]) (cs := []) (by kernel_rfl) ⟨h_x1, ix_bnd h_x3, h_x3.2, h_x5, trivial⟩
  ·
    obtain ⟨h_x2, h⟩ := gd_or h
    rw [← Option.some.inj h]
    exact mgo_fin (nb := 1) hmix (n := 2000) (ad := [(some 13, .test false), (some 29, .okE false)]) (ps := [_, _]) (by kernel_rfl) ⟨h_x1, okF [[ic loc3_0, .val (.int .u64 loc3_1)]] h_x2, trivial⟩
theorem ok38c : ∀ k s r, itS step38c k s = some r → P38c s r := itS_ok fun k rec ih s r h => match s, h with
  | .e v1_0 v1_1 b0_0 b0_1 b0_2 b0_3 b0_4, h => t38c_e_ok k rec ih v1_0 v1_1 b0_0 b0_1 b0_2 b0_3 b0_4 r h
  | .h0 t11 t12 loc3_0 loc3_1 par0_0 par0_1 par0_2 par0_3 par0_4, h => t38c_h0_ok k rec ih t11 t12 loc3_0 loc3_1 par0_0 par0_1 par0_2 par0_3 par0_4 r h
theorem ev38c {k : Nat} {v1_0 : Int} {v1_1 : Int} {b0_0 : Int} {b0_1 : Int} {b0_2 : Rs} {b0_3 : Rs} {b0_4 : Rs} {r : R38c} (h : g38c k v1_0 v1_1 b0_0 b0_1 b0_2 b0_3 b0_4 = some r) : Ev Try.prog noHand 38 [.c (.ptr ⟨⟨.par 0, []⟩, 0, 0⟩), .ag [ic v1_0, .val (.int .u64 v1_1)]] [[ic b0_0, ic b0_1, .own 4 b0_2, .own 2 b0_3, .own 4 b0_4]] (res38c r) (bx38c r) := evr38c (ok38c _ _ _ h)
-- auspice/auspiceref17.input
inductive S37c where
  | e (x1_0 : Int) (x1_1 : Int) (x1_2 : Int) (x1_3 : Int) (b0_0 : Int) (b0_1 : Int) (b0_2 : Rs) (b0_3 : Rs) (b0_4 : Rs)
  | h0 (t11 : Int) (t12 : Int) (loc3_0 : Int) (loc3_1 : Int) (loc3_2 : Int) (loc3_3 : Int) (par0_0 : Int) (par0_1 : Int) (par0_2 : Rs) (par0_3 : Rs) (par0_4 : Rs)
abbrev R37c := Int × Int × Int × Rs × Rs × Rs
def res37c : R37c → ARes
  | (r, r_b0_0, r_b0_1, r_b0_2, r_b0_3, r_b0_4) => .ret (.c (ic r))
def bx37c : R37c → List (List Cell)
  | (r, r_b0_0, r_b0_1, r_b0_2, r_b0_3, r_b0_4) => [[ic r_b0_0, ic r_b0_1, .own 4 r_b0_2, .own 2 r_b0_3, .own 4 r_b0_4]]
noncomputable def t37c_e (k : Nat) (rec : S37c → Option R37c) (x1_0 : Int) (x1_1 : Int) (x1_2 : Int) (x1_3 : Int) (b0_0 : Int) (b0_1 : Int) (b0_2 : Rs) (b0_3 : Rs) (b0_4 : Rs) : Option R37c :=
  rec (.h0 (b0_2.length : Int) 0 x1_0 x1_1 x1_2 x1_3 b0_0 b0_1 b0_2 b0_3 b0_4)
noncomputable def t37c_h0 (k : Nat) (rec : S37c → Option R37c) (t11 : Int) (t12 : Int) (loc3_0 : Int) (loc3_1 : Int) (loc3_2 : Int) (loc3_3 : Int) (par0_0 : Int) (par0_1 : Int) (par0_2 : Rs) (par0_3 : Rs) (par0_4 : Rs) : Option R37c :=
  bif decide (t12 < t11) then
    ixR par0_2 t12 fun w_x2 =>
    un_i4 w_x2 fun op_x4 kind_x4 pos_x4 attr_x4 =>
    bif (loc3_0 == op_x4 && (loc3_1 == kind_x4 && (loc3_2 == pos_x4 && (loc3_3 == attr_x4 && true)))) then
      some (t12, par0_0, par0_1, par0_2, par0_3, par0_4)
    else
      rec (.h0 t11 (IntKind.i64.wrap (t12 + 1)) loc3_0 loc3_1 loc3_2 loc3_3 par0_0 par0_1 par0_2 par0_3 par0_4)
  else
    gd (apOk 32 4 par0_2 [[ic loc3_0, ic loc3_1, ic loc3_2, ic loc3_3]]) <|
    some (IntKind.i64.wrap (((par0_2 ++ [[ic loc3_0, ic loc3_1, ic loc3_2, ic loc3_3]]).length : Int) - 1), par0_0, par0_1, par0_2 ++ [[ic loc3_0, ic loc3_1, ic loc3_2, ic loc3_3]], par0_3, par0_4)
noncomputable def step37c (k : Nat) (rec : S37c → Option R37c) : S37c → Option R37c
  | .e x1_0 x1_1 x1_2 x1_3 b0_0 b0_1 b0_2 b0_3 b0_4 => t37c_e k rec x1_0 x1_1 x1_2 x1_3 b0_0 b0_1 b0_2 b0_3 b0_4
  | .h0 t11 t12 loc3_0 loc3_1 loc3_2 loc3_3 par0_0 par0_1 par0_2 par0_3 par0_4 => t37c_h0 k rec t11 t12 loc3_0 loc3_1 loc3_2 loc3_3 par0_0 par0_1 par0_2 par0_3 par0_4
noncomputable def g37c (k : Nat) (x1_0 : Int) (x1_1 : Int) (x1_2 : Int) (x1_3 : Int) (b0_0 : Int) (b0_1 : Int) (b0_2 : Rs) (b0_3 : Rs) (b0_4 : Rs) : Option R37c := itS step37c k (.e x1_0 x1_1 x1_2 x1_3 b0_0 b0_1 b0_2 b0_3 b0_4)
noncomputable def P37c : S37c → R37c → Prop
  | .e x1_0 x1_1 x1_2 x1_3 b0_0 b0_1 b0_2 b0_3 b0_4, r => Fin cx37 Try.f37 [.code body37] (fr0 Try.f37 [.c (.ptr ⟨⟨.par 0, []⟩, 0, 0⟩), .ag [ic x1_0, ic x1_1, ic x1_2, ic x1_3]] [[ic b0_0, ic b0_1, .own 4 b0_2, .own 2 b0_3, .own 4 b0_4]]) (res37c r) (bx37c r)
  | .h0 t11 t12 loc3_0 loc3_1 loc3_2 loc3_3 par0_0 par0_1 par0_2 par0_3 par0_4, r => Fin cx37 Try.f37 (kAt body37 [1, 0, 1, 0, 4] []) ⟨[.c (.ptr ⟨⟨.par 0, []⟩, 0, 0⟩), .deadv, .deadv, .c (.ptr ⟨⟨.loc 3, []⟩, 0, 0⟩)] ++ rep 6 .deadv ++ [.c (.ref ⟨⟨.par 0, []⟩, 0, 2⟩), .c (ic t11), .c (ic t12)] ++ rep 25 .deadv, [(.loc 3, [ic loc3_0, ic loc3_1, ic loc3_2, ic loc3_3]), (.par 0, [ic par0_0, ic par0_1, .own 4 par0_2, .own 2 par0_3, .own 4 par0_4])]⟩ (res37c r) (bx37c r)
theorem evr37c {x1_0 : Int} {x1_1 : Int} {x1_2 : Int} {x1_3 : Int} {b0_0 : Int} {b0_1 : Int} {b0_2 : Rs} {b0_3 : Rs} {b0_4 : Rs} {r : R37c} (h : P37c (.e x1_0 x1_1 x1_2 x1_3 b0_0 b0_1 b0_2 b0_3 b0_4) r) : Ev Try.prog noHand 37 [.c (.ptr ⟨⟨.par 0, []⟩, 0, 0⟩), .ag [ic x1_0, ic x1_1, ic x1_2, ic x1_3]] [[ic b0_0, ic b0_1, .own 4 b0_2, .own 2 b0_3, .own 4 b0_4]] (res37c r) (bx37c r) := ev_of_fin (fn := Try.f37) (body := body37) (by kernel_rfl) (by kernel_rfl) (by kernel_rfl) rfl h
theorem t37c_e_ok (k : Nat) (rec : S37c → Option R37c) (ih : ∀ s r, rec s = some r → P37c s r) (x1_0 : Int) (x1_1 : Int) (x1_2 : Int) (x1_3 : Int) (b0_0 : Int) (b0_1 : Int) (b0_2 : Rs) (b0_3 : Rs) (b0_4 : Rs) (r : R37c) (h : t37c_e k rec x1_0 x1_1 x1_2 x1_3 b0_0 b0_1 b0_2 b0_3 b0_4 = some r) : P37c (.e x1_0 x1_1 x1_2 x1_3 b0_0 b0_1 b0_2 b0_3 b0_4) r := by
  unfold t37c_e at h
  exact mgo_at (nb := 1) hmix (ih _ _ h) (n := 7) (ad := []) (ps := []) (m := bm 38 274877899766) (ls := []) (cs := []) (by kernel_rfl) trivial
theorem t37c_h0_ok (k : Nat) (rec : S37c → Option R37c) (ih : ∀ s r, rec s = some r → P37c s r) (t11 : Int) (t12 : Int) (loc3_0 : Int) (loc3_1 : Int) (loc3_2 : Int) (loc3_3 : Int) (par0_0 : Int) (par0_1 : Int) (par0_2 : Rs) (par0_3 : Rs) (par0_4 : Rs) (r : R37c) (h : t37c_h0 k rec t11 t12 loc3_0 loc3_1 loc3_2 loc3_3 par0_0 par0_1 par0_2 par0_3 par0_4 = some r) : P37c (.h0 t11 t12 loc3_0 loc3_1 loc3_2 loc3_3 par0_0 par0_1 par0_2 par0_3 par0_4) r := by
  unfold t37c_h0 at h
  rcases bif_or h with ⟨h_x1, h⟩ | ⟨h_x1, h⟩
  ·
    obtain ⟨w_x2, h_x3, h⟩ := ixR_or h
    obtain ⟨op_x4, kind_x4, pos_x4, attr_x4, hq, h1'⟩ := un_i4_or h
    clear h; subst hq; have h := h1'; clear h1'
    rcases bif_or h with ⟨h_x5, h⟩ | ⟨h_x5, h⟩
    ·
      rw [← Option.some.inj h]
      exact mgo_fin (nb := 1) hmix (n := 2000) (ad := [(some 13, .test true), (some 15, .bnd), (some 16, .ld [ic op_x4, ic kind_x4, ic pos_x4, ic attr_x4]), (some 19, .test true)]) (ps := [_, _, _, _]) (by kernel_rfl) ⟨h_x1, ix_bnd h_x3, h_x3.2, h_x5, trivial⟩
    ·
      exact mgo_at (nb := 1) hmix (ih _ _ h) (n := 16) (ad := [(some 13, .test true), (some 15, .bnd), (some 16, .ld [ic op_x4, ic kind_x4, ic pos_x4, ic attr_x4]), (some 19, .test false)]) (ps := [_, _, _, _]) (m := bm 38 274877899766) (ls := [6]) (cs := []) (by kernel_rfl) ⟨h_x1, ix_bnd h_x3, h_x3.2, h_x5, trivial⟩
  ·
    obtain ⟨h_x2, h⟩ := gd_or h
    rw [← Option.some.inj h]
    exact mgo_fin (nb := 1) hmix (n := 2000) (ad := [(some 13, .test false), (some 29, .okE false)]) (ps := [_, _]) (by kernel_rfl) ⟨h_x1, okF [[ic loc3_0, ic loc3_1, ic loc3_2, ic loc3_3]] h_x2, trivial⟩
theorem ok37c : ∀ k s r, itS step37c k s = some r → P37c s r := itS_ok fun k rec ih s r h => match s, h with
  | .e x1_0 x1_1 x1_2 x1_3 b0_0 b0_1 b0_2 b0_3 b0_4, h => t37c_e_ok k rec ih x1_0 x1_1 x1_2 x1_3 b0_0 b0_1 b0_2 b0_3 b0_4 r h
  | .h0 t11 t12 loc3_0 loc3_1 loc3_2 loc3_3 par0_0 par0_1 par0_2 par0_3 par0_4, h => t37c_h0_ok k rec ih t11 t12 loc3_0 loc3_1 loc3_2 loc3_3 par0_0 par0_1 par0_2 par0_3 par0_4 r h
theorem ev37c {k : Nat} {x1_0 : Int} {x1_1 : Int} {x1_2 : Int} {x1_3 : Int} {b0_0 : Int} {b0_1 : Int} {b0_2 : Rs} {b0_3 : Rs} {b0_4 : Rs} {r : R37c} (h : g37c k x1_0 x1_1 x1_2 x1_3 b0_0 b0_1 b0_2 b0_3 b0_4 = some r) : Ev Try.prog noHand 37 [.c (.ptr ⟨⟨.par 0, []⟩, 0, 0⟩), .ag [ic x1_0, ic x1_1, ic x1_2, ic x1_3]] [[ic b0_0, ic b0_1, .own 4 b0_2, .own 2 b0_3, .own 4 b0_4]] (res37c r) (bx37c r) := evr37c (ok37c _ _ _ h)
-- auspice/auspiceref17.node
inductive S28c where
  | e (share1 : Bool) (n2_0 : Int) (n2_1 : Int) (n2_2 : Rs) (n2_3 : Int) (n2_4 : Int) (n2_5 : Int) (n2_6 : Int) (b0_0 : Int) (b0_1 : Int) (b0_2 : Rs) (b0_3 : Rs) (b0_4 : Rs)
  | h0 (share1 : Bool) (a7 : Int) (b8 : Int) (loc5_0 : Int) (loc5_1 : Int) (loc5_2 : Rs) (loc5_3 : Int) (loc5_4 : Int) (loc5_5 : Int) (loc5_6 : Int) (par0_0 : Int) (par0_1 : Int) (par0_2 : Rs) (par0_3 : Rs) (par0_4 : Rs)
abbrev R28c := Int × Int × Int × Rs × Rs × Rs
def res28c : R28c → ARes
  | (r, r_b0_0, r_b0_1, r_b0_2, r_b0_3, r_b0_4) => .ret (.c (ic r))
def bx28c : R28c → List (List Cell)
  | (r, r_b0_0, r_b0_1, r_b0_2, r_b0_3, r_b0_4) => [[ic r_b0_0, ic r_b0_1, .own 4 r_b0_2, .own 2 r_b0_3, .own 4 r_b0_4]]
noncomputable def t28c_e (k : Nat) (rec : S28c → Option R28c) (share1 : Bool) (n2_0 : Int) (n2_1 : Int) (n2_2 : Rs) (n2_3 : Int) (n2_4 : Int) (n2_5 : Int) (n2_6 : Int) (b0_0 : Int) (b0_1 : Int) (b0_2 : Rs) (b0_3 : Rs) (b0_4 : Rs) : Option R28c :=
  bif decide ((b0_4.length : Int) > 3000) then
    some (0, b0_0, b0_1, b0_2, b0_3, b0_4)
  else
    bif n2_0 == 40 then
      (g38c k n2_3 n2_4 b0_0 b0_1 b0_2 b0_3 b0_4).bind fun v_x3 =>
      tup6 v_x3 fun r_x5 rb00_x5 rb01_x5 rb02_x5 rb03_x5 rb04_x5 =>
      (g29d k share1 51 r_x5 0 rb00_x5 rb01_x5 rb02_x5 rb03_x5 rb04_x5).bind fun v_x6 =>
      tup6 v_x6 fun r_x8 rb00_x8 rb01_x8 rb02_x8 rb03_x8 rb04_x8 =>
      some (r_x8, rb00_x8, rb01_x8, rb02_x8, rb03_x8, rb04_x8)
    else
      bif (n2_2.length : Int) == 0 then
        (g37c k n2_0 n2_1 n2_5 n2_6 b0_0 b0_1 b0_2 b0_3 b0_4).bind fun v_x4 =>
        tup6 v_x4 fun r_x6 rb00_x6 rb01_x6 rb02_x6 rb03_x6 rb04_x6 =>
        (g29d k share1 50 r_x6 0 rb00_x6 rb01_x6 rb02_x6 rb03_x6 rb04_x6).bind fun v_x7 =>
        tup6 v_x7 fun r_x9 rb00_x9 rb01_x9 rb02_x9 rb03_x9 rb04_x9 =>
        some (r_x9, rb00_x9, rb01_x9, rb02_x9, rb03_x9, rb04_x9)
      else
        ixR n2_2 0 fun w_x4 =>
        un_iimiuii w_x4 fun op_x6 kind_x6 args_x6 valueKind_x6 valueBits_x6 pos_x6 attr_x6 =>
        (rec (.e share1 op_x6 kind_x6 args_x6 valueKind_x6 valueBits_x6 pos_x6 attr_x6 b0_0 b0_1 b0_2 b0_3 b0_4)).bind fun v_x7 =>
        tup6 v_x7 fun r_x9 rb00_x9 rb01_x9 rb02_x9 rb03_x9 rb04_x9 =>
        bif (n2_2.length : Int) == 2 then
          ixR n2_2 1 fun w_x11 =>
          un_iimiuii w_x11 fun op_x13 kind_x13 args_x13 valueKind_x13 valueBits_x13 pos_x13 attr_x13 =>
          (rec (.e share1 op_x13 kind_x13 args_x13 valueKind_x13 valueBits_x13 pos_x13 attr_x13 rb00_x9 rb01_x9 rb02_x9 rb03_x9 rb04_x9)).bind fun v_x14 =>
          tup6 v_x14 fun r_x16 rb00_x16 rb01_x16 rb02_x16 rb03_x16 rb04_x16 =>
          rec (.h0 share1 r_x9 r_x16 n2_0 n2_1 n2_2 n2_3 n2_4 n2_5 n2_6 rb00_x16 rb01_x16 rb02_x16 rb03_x16 rb04_x16)
        else
          rec (.h0 share1 r_x9 0 n2_0 n2_1 n2_2 n2_3 n2_4 n2_5 n2_6 rb00_x9 rb01_x9 rb02_x9 rb03_x9 rb04_x9)
noncomputable def t28c_h0 (k : Nat) (rec : S28c → Option R28c) (share1 : Bool) (a7 : Int) (b8 : Int) (loc5_0 : Int) (loc5_1 : Int) (loc5_2 : Rs) (loc5_3 : Int) (loc5_4 : Int) (loc5_5 : Int) (loc5_6 : Int) (par0_0 : Int) (par0_1 : Int) (par0_2 : Rs) (par0_3 : Rs) (par0_4 : Rs) : Option R28c :=
  (g29d k share1 loc5_0 a7 b8 par0_0 par0_1 par0_2 par0_3 par0_4).bind fun v_x1 =>
  tup6 v_x1 fun r_x3 rb00_x3 rb01_x3 rb02_x3 rb03_x3 rb04_x3 =>
  some (r_x3, rb00_x3, rb01_x3, rb02_x3, rb03_x3, rb04_x3)
noncomputable def step28c (k : Nat) (rec : S28c → Option R28c) : S28c → Option R28c
  | .e share1 n2_0 n2_1 n2_2 n2_3 n2_4 n2_5 n2_6 b0_0 b0_1 b0_2 b0_3 b0_4 => t28c_e k rec share1 n2_0 n2_1 n2_2 n2_3 n2_4 n2_5 n2_6 b0_0 b0_1 b0_2 b0_3 b0_4
  | .h0 share1 a7 b8 loc5_0 loc5_1 loc5_2 loc5_3 loc5_4 loc5_5 loc5_6 par0_0 par0_1 par0_2 par0_3 par0_4 => t28c_h0 k rec share1 a7 b8 loc5_0 loc5_1 loc5_2 loc5_3 loc5_4 loc5_5 loc5_6 par0_0 par0_1 par0_2 par0_3 par0_4
noncomputable def g28c (k : Nat) (share1 : Bool) (n2_0 : Int) (n2_1 : Int) (n2_2 : Rs) (n2_3 : Int) (n2_4 : Int) (n2_5 : Int) (n2_6 : Int) (b0_0 : Int) (b0_1 : Int) (b0_2 : Rs) (b0_3 : Rs) (b0_4 : Rs) : Option R28c := itS step28c k (.e share1 n2_0 n2_1 n2_2 n2_3 n2_4 n2_5 n2_6 b0_0 b0_1 b0_2 b0_3 b0_4)
noncomputable def P28c : S28c → R28c → Prop
  | .e share1 n2_0 n2_1 n2_2 n2_3 n2_4 n2_5 n2_6 b0_0 b0_1 b0_2 b0_3 b0_4, r => Fin cx28 Try.f28 [.code body28] (fr0 Try.f28 [.c (.ptr ⟨⟨.par 0, []⟩, 0, 0⟩), .c (bc share1), .ag [ic n2_0, ic n2_1, .imm n2_2, ic n2_3, .val (.int .u64 n2_4), ic n2_5, ic n2_6]] [[ic b0_0, ic b0_1, .own 4 b0_2, .own 2 b0_3, .own 4 b0_4]]) (res28c r) (bx28c r)
  | .h0 share1 a7 b8 loc5_0 loc5_1 loc5_2 loc5_3 loc5_4 loc5_5 loc5_6 par0_0 par0_1 par0_2 par0_3 par0_4, r => Fin cx28 Try.f28 (kAt body28 [1, 1, 1, 1, 1, 1, 1, 2] []) ⟨[.c (.ptr ⟨⟨.par 0, []⟩, 0, 0⟩), .c (bc share1)] ++ rep 3 .deadv ++ [.c (.ptr ⟨⟨.loc 5, []⟩, 0, 0⟩), .deadv, .c (ic a7), .c (ic b8)] ++ rep 59 .deadv, [(.loc 5, [ic loc5_0, ic loc5_1, .imm loc5_2, ic loc5_3, .val (.int .u64 loc5_4), ic loc5_5, ic loc5_6]), (.par 0, [ic par0_0, ic par0_1, .own 4 par0_2, .own 2 par0_3, .own 4 par0_4])]⟩ (res28c r) (bx28c r)
theorem evr28c {share1 : Bool} {n2_0 : Int} {n2_1 : Int} {n2_2 : Rs} {n2_3 : Int} {n2_4 : Int} {n2_5 : Int} {n2_6 : Int} {b0_0 : Int} {b0_1 : Int} {b0_2 : Rs} {b0_3 : Rs} {b0_4 : Rs} {r : R28c} (h : P28c (.e share1 n2_0 n2_1 n2_2 n2_3 n2_4 n2_5 n2_6 b0_0 b0_1 b0_2 b0_3 b0_4) r) : Ev Try.prog noHand 28 [.c (.ptr ⟨⟨.par 0, []⟩, 0, 0⟩), .c (bc share1), .ag [ic n2_0, ic n2_1, .imm n2_2, ic n2_3, .val (.int .u64 n2_4), ic n2_5, ic n2_6]] [[ic b0_0, ic b0_1, .own 4 b0_2, .own 2 b0_3, .own 4 b0_4]] (res28c r) (bx28c r) := ev_of_fin (fn := Try.f28) (body := body28) (by kernel_rfl) (by kernel_rfl) (by kernel_rfl) rfl h
theorem t28c_e_ok (k : Nat) (rec : S28c → Option R28c) (ih : ∀ s r, rec s = some r → P28c s r) (share1 : Bool) (n2_0 : Int) (n2_1 : Int) (n2_2 : Rs) (n2_3 : Int) (n2_4 : Int) (n2_5 : Int) (n2_6 : Int) (b0_0 : Int) (b0_1 : Int) (b0_2 : Rs) (b0_3 : Rs) (b0_4 : Rs) (r : R28c) (h : t28c_e k rec share1 n2_0 n2_1 n2_2 n2_3 n2_4 n2_5 n2_6 b0_0 b0_1 b0_2 b0_3 b0_4 = some r) : P28c (.e share1 n2_0 n2_1 n2_2 n2_3 n2_4 n2_5 n2_6 b0_0 b0_1 b0_2 b0_3 b0_4) r := by
  unfold t28c_e at h
  rcases bif_or h with ⟨h_x1, h⟩ | ⟨h_x1, h⟩
  ·
    rw [← Option.some.inj h]
    exact mgo_fin (nb := 1) hmix (n := 2000) (ad := [(some 14, .test true)]) (ps := [_]) (by kernel_rfl) ⟨h_x1, trivial⟩
  ·
    rcases bif_or h with ⟨h_x2, h⟩ | ⟨h_x2, h⟩
    ·
      obtain ⟨v_x3, h_x4, h⟩ := bd_or h
      obtain ⟨r_x5, rb00_x5, rb01_x5, rb02_x5, rb03_x5, rb04_x5, hq, h1'⟩ := tup6_or h
      clear h; subst hq; have h := h1'; clear h1'
      obtain ⟨v_x6, h_x7, h⟩ := bd_or h
      obtain ⟨r_x8, rb00_x8, rb01_x8, rb02_x8, rb03_x8, rb04_x8, hq, h1'⟩ := tup6_or h
      clear h; subst hq; have h := h1'; clear h1'
      rw [← Option.some.inj h]
      exact mgo_fin (nb := 1) hmix (n := 2000) (ad := [(some 14, .test false), (some 17, .test true), (some 23, .call (.ret (.c (ic r_x5))) [[ic rb00_x5, ic rb01_x5, .own 4 rb02_x5, .own 2 rb03_x5, .own 4 rb04_x5]] false), (some 24, .call (.ret (.c (ic r_x8))) [[ic rb00_x8, ic rb01_x8, .own 4 rb02_x8, .own 2 rb03_x8, .own 4 rb04_x8]] false)]) (ps := [_, _, _, _]) (by kernel_rfl) ⟨h_x1, h_x2, (ev38c h_x4), (ev29d h_x7), trivial⟩
    ·
      rcases bif_or h with ⟨h_x3, h⟩ | ⟨h_x3, h⟩
      ·
        obtain ⟨v_x4, h_x5, h⟩ := bd_or h
        obtain ⟨r_x6, rb00_x6, rb01_x6, rb02_x6, rb03_x6, rb04_x6, hq, h1'⟩ := tup6_or h
        clear h; subst hq; have h := h1'; clear h1'
        obtain ⟨v_x7, h_x8, h⟩ := bd_or h
        obtain ⟨r_x9, rb00_x9, rb01_x9, rb02_x9, rb03_x9, rb04_x9, hq, h1'⟩ := tup6_or h
        clear h; subst hq; have h := h1'; clear h1'
        rw [← Option.some.inj h]
        exact mgo_fin (nb := 1) hmix (n := 2000) (ad := [(some 14, .test false), (some 17, .test false), (some 28, .test true), (some 41, .call (.ret (.c (ic r_x6))) [[ic rb00_x6, ic rb01_x6, .own 4 rb02_x6, .own 2 rb03_x6, .own 4 rb04_x6]] false), (some 42, .call (.ret (.c (ic r_x9))) [[ic rb00_x9, ic rb01_x9, .own 4 rb02_x9, .own 2 rb03_x9, .own 4 rb04_x9]] false)]) (ps := [_, _, _, _, _]) (by kernel_rfl) ⟨h_x1, h_x2, h_x3, (ev37c h_x5), (ev29d h_x8), trivial⟩
      ·
        obtain ⟨w_x4, h_x5, h⟩ := ixR_or h
        obtain ⟨op_x6, kind_x6, args_x6, valueKind_x6, valueBits_x6, pos_x6, attr_x6, hq, h1'⟩ := un_iimiuii_or h
        clear h; subst hq; have h := h1'; clear h1'
        obtain ⟨v_x7, h_x8, h⟩ := bd_or h
        obtain ⟨r_x9, rb00_x9, rb01_x9, rb02_x9, rb03_x9, rb04_x9, hq, h1'⟩ := tup6_or h
        clear h; subst hq; have h := h1'; clear h1'
        rcases bif_or h with ⟨h_x10, h⟩ | ⟨h_x10, h⟩
        ·
          obtain ⟨w_x11, h_x12, h⟩ := ixR_or h
          obtain ⟨op_x13, kind_x13, args_x13, valueKind_x13, valueBits_x13, pos_x13, attr_x13, hq, h1'⟩ := un_iimiuii_or h
          clear h; subst hq; have h := h1'; clear h1'
          obtain ⟨v_x14, h_x15, h⟩ := bd_or h
          obtain ⟨r_x16, rb00_x16, rb01_x16, rb02_x16, rb03_x16, rb04_x16, hq, h1'⟩ := tup6_or h
          clear h; subst hq; have h := h1'; clear h1'
          exact mgo_at (nb := 1) hmix (ih _ _ h) (n := 26) (ad := [(some 14, .test false), (some 17, .test false), (some 28, .test false), (some 47, .row [ic op_x6, ic kind_x6, .imm args_x6, ic valueKind_x6, .val (.int .u64 valueBits_x6), ic pos_x6, ic attr_x6]), (some 49, .call (.ret (.c (ic r_x9))) [[ic rb00_x9, ic rb01_x9, .own 4 rb02_x9, .own 2 rb03_x9, .own 4 rb04_x9]] false), (some 53, .test true), (some 58, .row [ic op_x13, ic kind_x13, .imm args_x13, ic valueKind_x13, .val (.int .u64 valueBits_x13), ic pos_x13, ic attr_x13]), (some 60, .call (.ret (.c (ic r_x16))) [[ic rb00_x16, ic rb01_x16, .own 4 rb02_x16, .own 2 rb03_x16, .own 4 rb04_x16]] false)]) (ps := [_, _, _, _, _, _, _, _]) (m := bm 68 295147905179352825436) (ls := []) (cs := []) (by kernel_rfl) ⟨h_x1, h_x2, h_x3, ix_row h_x5 rfl, (evr28c (ih _ _ h_x8)), h_x10, ix_row h_x12 rfl, (evr28c (ih _ _ h_x15)), trivial⟩
        ·
          exact mgo_at (nb := 1) hmix (ih _ _ h) (n := 26) (ad := [(some 14, .test false), (some 17, .test false), (some 28, .test false), (some 47, .row [ic op_x6, ic kind_x6, .imm args_x6, ic valueKind_x6, .val (.int .u64 valueBits_x6), ic pos_x6, ic attr_x6]), (some 49, .call (.ret (.c (ic r_x9))) [[ic rb00_x9, ic rb01_x9, .own 4 rb02_x9, .own 2 rb03_x9, .own 4 rb04_x9]] false), (some 53, .test false)]) (ps := [_, _, _, _, _, _]) (m := bm 68 295147905179352825436) (ls := []) (cs := []) (by kernel_rfl) ⟨h_x1, h_x2, h_x3, ix_row h_x5 rfl, (evr28c (ih _ _ h_x8)), h_x10, trivial⟩
theorem t28c_h0_ok (k : Nat) (rec : S28c → Option R28c) (ih : ∀ s r, rec s = some r → P28c s r) (share1 : Bool) (a7 : Int) (b8 : Int) (loc5_0 : Int) (loc5_1 : Int) (loc5_2 : Rs) (loc5_3 : Int) (loc5_4 : Int) (loc5_5 : Int) (loc5_6 : Int) (par0_0 : Int) (par0_1 : Int) (par0_2 : Rs) (par0_3 : Rs) (par0_4 : Rs) (r : R28c) (h : t28c_h0 k rec share1 a7 b8 loc5_0 loc5_1 loc5_2 loc5_3 loc5_4 loc5_5 loc5_6 par0_0 par0_1 par0_2 par0_3 par0_4 = some r) : P28c (.h0 share1 a7 b8 loc5_0 loc5_1 loc5_2 loc5_3 loc5_4 loc5_5 loc5_6 par0_0 par0_1 par0_2 par0_3 par0_4) r := by
  unfold t28c_h0 at h
  obtain ⟨v_x1, h_x2, h⟩ := bd_or h
  obtain ⟨r_x3, rb00_x3, rb01_x3, rb02_x3, rb03_x3, rb04_x3, hq, h1'⟩ := tup6_or h
  clear h; subst hq; have h := h1'; clear h1'
  rw [← Option.some.inj h]
  exact mgo_fin (nb := 1) hmix (n := 2000) (ad := [(some 67, .call (.ret (.c (ic r_x3))) [[ic rb00_x3, ic rb01_x3, .own 4 rb02_x3, .own 2 rb03_x3, .own 4 rb04_x3]] false)]) (ps := [_]) (by kernel_rfl) ⟨(ev29d h_x2), trivial⟩
theorem ok28c : ∀ k s r, itS step28c k s = some r → P28c s r := itS_ok fun k rec ih s r h => match s, h with
  | .e share1 n2_0 n2_1 n2_2 n2_3 n2_4 n2_5 n2_6 b0_0 b0_1 b0_2 b0_3 b0_4, h => t28c_e_ok k rec ih share1 n2_0 n2_1 n2_2 n2_3 n2_4 n2_5 n2_6 b0_0 b0_1 b0_2 b0_3 b0_4 r h
  | .h0 share1 a7 b8 loc5_0 loc5_1 loc5_2 loc5_3 loc5_4 loc5_5 loc5_6 par0_0 par0_1 par0_2 par0_3 par0_4, h => t28c_h0_ok k rec ih share1 a7 b8 loc5_0 loc5_1 loc5_2 loc5_3 loc5_4 loc5_5 loc5_6 par0_0 par0_1 par0_2 par0_3 par0_4 r h
theorem ev28c {k : Nat} {share1 : Bool} {n2_0 : Int} {n2_1 : Int} {n2_2 : Rs} {n2_3 : Int} {n2_4 : Int} {n2_5 : Int} {n2_6 : Int} {b0_0 : Int} {b0_1 : Int} {b0_2 : Rs} {b0_3 : Rs} {b0_4 : Rs} {r : R28c} (h : g28c k share1 n2_0 n2_1 n2_2 n2_3 n2_4 n2_5 n2_6 b0_0 b0_1 b0_2 b0_3 b0_4 = some r) : Ev Try.prog noHand 28 [.c (.ptr ⟨⟨.par 0, []⟩, 0, 0⟩), .c (bc share1), .ag [ic n2_0, ic n2_1, .imm n2_2, ic n2_3, .val (.int .u64 n2_4), ic n2_5, ic n2_6]] [[ic b0_0, ic b0_1, .own 4 b0_2, .own 2 b0_3, .own 4 b0_4]] (res28c r) (bx28c r) := evr28c (ok28c _ _ _ h)
-- auspice/auspiceref17.Make
inductive S12 where
  | e (l0 : Rs) (share1 : Bool)
  | h0 (l0 : Rs) (share1 : Bool) (ok6 : Bool) (t16 : Int) (t17 : Int) (loc4_0 : Int) (loc4_1 : Int)
  | h1 (l0 : Rs) (share1 : Bool) (ok6 : Bool) (t16 : Int) (t17 : Int) (loc4_0 : Int) (loc4_1 : Int)
  | h2 (t5 : Int) (loc4_0 : Int) (loc4_1 : Int) (loc4_2 : Rs) (loc4_3 : Rs) (loc4_4 : Rs)
  | h3 (l0 : Rs) (share1 : Bool) (loc33_0 : Int) (loc33_1 : Int) (loc33_2 : Rs) (loc33_3 : Rs) (loc33_4 : Rs) (loc4_0 : Int) (loc4_1 : Int)
  | h4 (l0 : Rs) (share1 : Bool) (told9 : Int) (i10 : Int) (loc33_0 : Int) (loc33_1 : Int) (loc33_2 : Rs) (loc33_3 : Rs) (loc33_4 : Rs) (loc4_0 : Int) (loc4_1 : Int)
  | h5 (t5 : Int) (loc4_0 : Int) (loc4_1 : Int) (loc4_2 : Rs) (loc4_3 : Rs) (loc4_4 : Rs)
  | h6 (t5 : Int) (loc4_0 : Int) (loc4_1 : Int) (loc4_2 : Rs) (loc4_3 : Rs) (loc4_4 : Rs)
abbrev R12 := Int × Int × Rs × Rs × Rs × Int
def res12 : R12 → ARes
  | (r_00, r_01, r_02, r_03, r_04, r_10) => .ret ⟨.tup [true, false], [[ic r_00, ic r_01, .imm r_02, .imm r_03, .imm r_04], [ic r_10]]⟩
def bx12 : R12 → List (List Cell)
  | (r_00, r_01, r_02, r_03, r_04, r_10) => []
noncomputable def t12_e (k : Nat) (rec : S12 → Option R12) (l0 : Rs) (share1 : Bool) : Option R12 :=
  rec (.h0 l0 share1 (decide ((l0.length : Int) > 0)) (l0.length : Int) 0 0 0)
noncomputable def t12_h0 (k : Nat) (rec : S12 → Option R12) (l0 : Rs) (share1 : Bool) (ok6 : Bool) (t16 : Int) (t17 : Int) (loc4_0 : Int) (loc4_1 : Int) : Option R12 :=
  bif decide (t17 < t16) then
    bif ok6 then
      ixR l0 t17 fun w_x2 =>
      un_iimiuii w_x2 fun op_x4 kind_x4 args_x4 valueKind_x4 valueBits_x4 pos_x4 attr_x4 =>
      (g27 k op_x4 kind_x4 args_x4 valueKind_x4 valueBits_x4 pos_x4 attr_x4).bind fun v_x5 =>
      rec (.h1 l0 share1 v_x5 t16 t17 loc4_0 loc4_1)
    else
      rec (.h1 l0 share1 false t16 t17 loc4_0 loc4_1)
  else
    bif !ok6 then
      rec (.h2 1 0 0 [] [] [])
    else
      rec (.h3 l0 share1 0 0 [] [] [] loc4_0 loc4_1)
noncomputable def t12_h1 (k : Nat) (rec : S12 → Option R12) (l0 : Rs) (share1 : Bool) (ok6 : Bool) (t16 : Int) (t17 : Int) (loc4_0 : Int) (loc4_1 : Int) : Option R12 :=
  rec (.h0 l0 share1 ok6 t16 (IntKind.i64.wrap (t17 + 1)) loc4_0 loc4_1)
noncomputable def t12_h2 (k : Nat) (rec : S12 → Option R12) (t5 : Int) (loc4_0 : Int) (loc4_1 : Int) (loc4_2 : Rs) (loc4_3 : Rs) (loc4_4 : Rs) : Option R12 :=
  some (loc4_0, loc4_1, loc4_2, loc4_3, loc4_4, t5)
noncomputable def t12_h3 (k : Nat) (rec : S12 → Option R12) (l0 : Rs) (share1 : Bool) (loc33_0 : Int) (loc33_1 : Int) (loc33_2 : Rs) (loc33_3 : Rs) (loc33_4 : Rs) (loc4_0 : Int) (loc4_1 : Int) : Option R12 :=
  ixR l0 0 fun w_x1 =>
  un_iimiuii w_x1 fun op_x3 kind_x3 args_x3 valueKind_x3 valueBits_x3 pos_x3 attr_x3 =>
  (g28c k share1 op_x3 kind_x3 args_x3 valueKind_x3 valueBits_x3 pos_x3 attr_x3 loc33_0 loc33_1 loc33_2 loc33_3 loc33_4).bind fun v_x4 =>
  tup6 v_x4 fun r_x6 rb00_x6 rb01_x6 rb02_x6 rb03_x6 rb04_x6 =>
  rec (.h4 l0 share1 r_x6 1 rb00_x6 rb01_x6 rb02_x6 rb03_x6 rb04_x6 loc4_0 loc4_1)
noncomputable def t12_h4 (k : Nat) (rec : S12 → Option R12) (l0 : Rs) (share1 : Bool) (told9 : Int) (i10 : Int) (loc33_0 : Int) (loc33_1 : Int) (loc33_2 : Rs) (loc33_3 : Rs) (loc33_4 : Rs) (loc4_0 : Int) (loc4_1 : Int) : Option R12 :=
  bif decide (i10 < (l0.length : Int)) then
    ixR l0 i10 fun w_x2 =>
    un_iimiuii w_x2 fun op_x4 kind_x4 args_x4 valueKind_x4 valueBits_x4 pos_x4 attr_x4 =>
    (g28c k share1 op_x4 kind_x4 args_x4 valueKind_x4 valueBits_x4 pos_x4 attr_x4 loc33_0 loc33_1 loc33_2 loc33_3 loc33_4).bind fun v_x5 =>
    tup6 v_x5 fun r_x7 rb00_x7 rb01_x7 rb02_x7 rb03_x7 rb04_x7 =>
    (g29d k share1 13 told9 r_x7 rb00_x7 rb01_x7 rb02_x7 rb03_x7 rb04_x7).bind fun v_x8 =>
    tup6 v_x8 fun r_x10 rb00_x10 rb01_x10 rb02_x10 rb03_x10 rb04_x10 =>
    rec (.h4 l0 share1 r_x10 (IntKind.i64.wrap (i10 + 1)) rb00_x10 rb01_x10 rb02_x10 rb03_x10 rb04_x10 loc4_0 loc4_1)
  else
    gd (apOk 32 4 loc33_4 [[ic 52, ic 0, ic told9, ic 0]]) <|
    bif decide (((loc33_4 ++ [[ic 52, ic 0, ic told9, ic 0]]).length : Int) > 1024) then
      rec (.h5 2 0 0 [] [] [])
    else
      rec (.h6 0 (loc33_4.length : Int) loc33_1 (immRs loc33_2) (immRs loc33_3) (immRs (loc33_4 ++ [[ic 52, ic 0, ic told9, ic 0]])))
noncomputable def t12_h5 (k : Nat) (rec : S12 → Option R12) (t5 : Int) (loc4_0 : Int) (loc4_1 : Int) (loc4_2 : Rs) (loc4_3 : Rs) (loc4_4 : Rs) : Option R12 :=
  some (loc4_0, loc4_1, loc4_2, loc4_3, loc4_4, t5)
noncomputable def t12_h6 (k : Nat) (rec : S12 → Option R12) (t5 : Int) (loc4_0 : Int) (loc4_1 : Int) (loc4_2 : Rs) (loc4_3 : Rs) (loc4_4 : Rs) : Option R12 :=
  some (loc4_0, loc4_1, loc4_2, loc4_3, loc4_4, t5)
noncomputable def step12 (k : Nat) (rec : S12 → Option R12) : S12 → Option R12
  | .e l0 share1 => t12_e k rec l0 share1
  | .h0 l0 share1 ok6 t16 t17 loc4_0 loc4_1 => t12_h0 k rec l0 share1 ok6 t16 t17 loc4_0 loc4_1
  | .h1 l0 share1 ok6 t16 t17 loc4_0 loc4_1 => t12_h1 k rec l0 share1 ok6 t16 t17 loc4_0 loc4_1
  | .h2 t5 loc4_0 loc4_1 loc4_2 loc4_3 loc4_4 => t12_h2 k rec t5 loc4_0 loc4_1 loc4_2 loc4_3 loc4_4
  | .h3 l0 share1 loc33_0 loc33_1 loc33_2 loc33_3 loc33_4 loc4_0 loc4_1 => t12_h3 k rec l0 share1 loc33_0 loc33_1 loc33_2 loc33_3 loc33_4 loc4_0 loc4_1
  | .h4 l0 share1 told9 i10 loc33_0 loc33_1 loc33_2 loc33_3 loc33_4 loc4_0 loc4_1 => t12_h4 k rec l0 share1 told9 i10 loc33_0 loc33_1 loc33_2 loc33_3 loc33_4 loc4_0 loc4_1
  | .h5 t5 loc4_0 loc4_1 loc4_2 loc4_3 loc4_4 => t12_h5 k rec t5 loc4_0 loc4_1 loc4_2 loc4_3 loc4_4
  | .h6 t5 loc4_0 loc4_1 loc4_2 loc4_3 loc4_4 => t12_h6 k rec t5 loc4_0 loc4_1 loc4_2 loc4_3 loc4_4
noncomputable def g12 (k : Nat) (l0 : Rs) (share1 : Bool) : Option R12 := itS step12 k (.e l0 share1)
noncomputable def P12 : S12 → R12 → Prop
  | .e l0 share1, r => Fin cx12 Try.f12 [.code body12] (fr0 Try.f12 [.c (.imm l0), .c (bc share1)] []) (res12 r) (bx12 r)
  | .h0 l0 share1 ok6 t16 t17 loc4_0 loc4_1, r => Fin cx12 Try.f12 (kAt body12 [1, 1, 0, 1, 0, 4] []) ⟨[.c (.imm l0), .c (bc share1), .deadv, .deadv, .c (.ptr ⟨⟨.loc 4, []⟩, 0, 0⟩), .deadv, .c (bc ok6)] ++ rep 9 .deadv ++ [.c (ic t16), .c (ic t17)] ++ rep 69 .deadv, [(.loc 4, [ic loc4_0, ic loc4_1, .nil, .nil, .nil])]⟩ (res12 r) (bx12 r)
  | .h1 l0 share1 ok6 t16 t17 loc4_0 loc4_1, r => Fin cx12 Try.f12 (kAt body12 [1, 1, 0, 1, 0, 0, 1, 1, 1, 2] []) ⟨[.c (.imm l0), .c (bc share1), .deadv, .deadv, .c (.ptr ⟨⟨.loc 4, []⟩, 0, 0⟩), .deadv, .c (bc ok6)] ++ rep 9 .deadv ++ [.c (ic t16), .c (ic t17)] ++ rep 69 .deadv, [(.loc 4, [ic loc4_0, ic loc4_1, .nil, .nil, .nil])]⟩ (res12 r) (bx12 r)
  | .h2 t5 loc4_0 loc4_1 loc4_2 loc4_3 loc4_4, r => Fin cx12 Try.f12 (kAt body12 [1, 1, 1, 0, 1, 0, 1, 2] []) ⟨rep 4 .deadv ++ [.c (.ptr ⟨⟨.loc 4, []⟩, 0, 0⟩), .c (ic t5)] ++ rep 81 .deadv, [(.loc 4, [ic loc4_0, ic loc4_1, .imm loc4_2, .imm loc4_3, .imm loc4_4])]⟩ (res12 r) (bx12 r)
  | .h3 l0 share1 loc33_0 loc33_1 loc33_2 loc33_3 loc33_4 loc4_0 loc4_1, r => Fin cx12 Try.f12 (kAt body12 [1, 1, 1, 1, 1, 0, 2] []) ⟨[.c (.imm l0), .c (bc share1), .deadv, .deadv, .c (.ptr ⟨⟨.loc 4, []⟩, 0, 0⟩)] ++ rep 3 .deadv ++ [.c (.ptr ⟨⟨.loc 33, []⟩, 0, 0⟩)] ++ rep 78 .deadv, [(.loc 33, [ic loc33_0, ic loc33_1, .own 4 loc33_2, .own 2 loc33_3, .own 4 loc33_4]), (.loc 4, [ic loc4_0, ic loc4_1, .nil, .nil, .nil])]⟩ (res12 r) (bx12 r)
  | .h4 l0 share1 told9 i10 loc33_0 loc33_1 loc33_2 loc33_3 loc33_4 loc4_0 loc4_1, r => Fin cx12 Try.f12 (kAt body12 [1, 1, 1, 1, 1, 1, 0, 1, 0, 4] []) ⟨[.c (.imm l0), .c (bc share1), .deadv, .deadv, .c (.ptr ⟨⟨.loc 4, []⟩, 0, 0⟩)] ++ rep 3 .deadv ++ [.c (.ptr ⟨⟨.loc 33, []⟩, 0, 0⟩), .c (ic told9), .c (ic i10)] ++ rep 76 .deadv, [(.loc 33, [ic loc33_0, ic loc33_1, .own 4 loc33_2, .own 2 loc33_3, .own 4 loc33_4]), (.loc 4, [ic loc4_0, ic loc4_1, .nil, .nil, .nil])]⟩ (res12 r) (bx12 r)
  | .h5 t5 loc4_0 loc4_1 loc4_2 loc4_3 loc4_4, r => Fin cx12 Try.f12 (kAt body12 [1, 1, 1, 1, 1, 1, 1, 1, 1, 0, 1, 0, 1, 2] []) ⟨rep 4 .deadv ++ [.c (.ptr ⟨⟨.loc 4, []⟩, 0, 0⟩), .c (ic t5)] ++ rep 81 .deadv, [(.loc 4, [ic loc4_0, ic loc4_1, .imm loc4_2, .imm loc4_3, .imm loc4_4])]⟩ (res12 r) (bx12 r)
  | .h6 t5 loc4_0 loc4_1 loc4_2 loc4_3 loc4_4, r => Fin cx12 Try.f12 (kAt body12 [1, 1, 1, 1, 1, 1, 1, 1, 1, 1, 1, 2] []) ⟨rep 4 .deadv ++ [.c (.ptr ⟨⟨.loc 4, []⟩, 0, 0⟩), .c (ic t5)] ++ rep 81 .deadv, [(.loc 4, [ic loc4_0, ic loc4_1, .imm loc4_2, .imm loc4_3, .imm loc4_4])]⟩ (res12 r) (bx12 r)
theorem evr12 {l0 : Rs} {share1 : Bool} {r : R12} (h : P12 (.e l0 share1) r) : Ev Try.prog noHand 12 [.c (.imm l0), .c (bc share1)] [] (res12 r) (bx12 r) := ev_of_fin (fn := Try.f12) (body := body12) (by kernel_rfl) (by kernel_rfl) (by kernel_rfl) rfl h
theorem t12_e_ok (k : Nat) (rec : S12 → Option R12) (ih : ∀ s r, rec s = some r → P12 s r) (l0 : Rs) (share1 : Bool) (r : R12) (h : t12_e k rec l0 share1 = some r) : P12 (.e l0 share1) r := by
  unfold t12_e at h
  exact mgo_at (nb := 0) hmix (ih _ _ h) (n := 9) (ad := []) (ps := []) (m := bm 87 154742504910672534362193836) (ls := []) (cs := []) (by kernel_rfl) trivial
theorem t12_h0_ok (k : Nat) (rec : S12 → Option R12) (ih : ∀ s r, rec s = some r → P12 s r) (l0 : Rs) (share1 : Bool) (ok6 : Bool) (t16 : Int) (t17 : Int) (loc4_0 : Int) (loc4_1 : Int) (r : R12) (h : t12_h0 k rec l0 share1 ok6 t16 t17 loc4_0 loc4_1 = some r) : P12 (.h0 l0 share1 ok6 t16 t17 loc4_0 loc4_1) r := by
  unfold t12_h0 at h
  rcases bif_or h with ⟨h_x1, h⟩ | ⟨h_x1, h⟩
  ·
    rcases bif_or h with ⟨hq, h1'⟩ | ⟨hq, h1'⟩
    · clear h; subst hq; have h := h1'; clear h1'
      obtain ⟨w_x2, h_x3, h⟩ := ixR_or h
      obtain ⟨op_x4, kind_x4, args_x4, valueKind_x4, valueBits_x4, pos_x4, attr_x4, hq, h1'⟩ := un_iimiuii_or h
      clear h; subst hq; have h := h1'; clear h1'
      obtain ⟨v_x5, h_x6, h⟩ := bd_or h
      exact mgo_at (nb := 0) hmix (ih _ _ h) (n := 12) (ad := [(some 18, .test true), (some 24, .row [ic op_x4, ic kind_x4, .imm args_x4, ic valueKind_x4, .val (.int .u64 valueBits_x4), ic pos_x4, ic attr_x4]), (some 26, .call (.ret (.c (bc v_x5))) [] false)]) (ps := [_, _, _]) (m := bm 87 154742504910672534362193836) (ls := []) (cs := []) (by kernel_rfl) ⟨h_x1, ix_row h_x3 rfl, (ev27 h_x6), trivial⟩
    · clear h; subst hq; have h := h1'; clear h1'
      exact mgo_at (nb := 0) hmix (ih _ _ h) (n := 12) (ad := [(some 18, .test true)]) (ps := [_]) (m := bm 87 154742504910672534362193836) (ls := []) (cs := []) (by kernel_rfl) ⟨h_x1, trivial⟩
  ·
    rcases bif_or h with ⟨h_x2, h⟩ | ⟨h_x2, h⟩
    ·
      exact mgo_at (nb := 0) hmix (ih _ _ h) (n := 12) (ad := [(some 18, .test false), (some 30, .test true)]) (ps := [_, _]) (m := bm 87 154742504910672534362390479) (ls := []) (cs := [(⟨⟨.loc 4, []⟩, 0, 2⟩, none), (⟨⟨.loc 4, []⟩, 0, 3⟩, none), (⟨⟨.loc 4, []⟩, 0, 4⟩, none)]) (by kernel_rfl) ⟨h_x1, h_x2, trivial⟩
    ·
      exact mgo_at (nb := 0) hmix (ih _ _ h) (n := 14) (ad := [(some 18, .test false), (some 30, .test false)]) (ps := [_, _]) (m := bm 87 154742504910672534362390252) (ls := []) (cs := [(⟨⟨.loc 33, []⟩, 0, 2⟩, some 4), (⟨⟨.loc 33, []⟩, 0, 3⟩, some 2), (⟨⟨.loc 33, []⟩, 0, 4⟩, some 4)]) (by kernel_rfl) ⟨h_x1, h_x2, trivial⟩
theorem t12_h1_ok (k : Nat) (rec : S12 → Option R12) (ih : ∀ s r, rec s = some r → P12 s r) (l0 : Rs) (share1 : Bool) (ok6 : Bool) (t16 : Int) (t17 : Int) (loc4_0 : Int) (loc4_1 : Int) (r : R12) (h : t12_h1 k rec l0 share1 ok6 t16 t17 loc4_0 loc4_1 = some r) : P12 (.h1 l0 share1 ok6 t16 t17 loc4_0 loc4_1) r := by
  unfold t12_h1 at h
  exact mgo_at (nb := 0) hmix (ih _ _ h) (n := 1) (ad := []) (ps := []) (m := bm 87 154742504910672534362193836) (ls := []) (cs := []) (by kernel_rfl) trivial
theorem t12_h2_ok (k : Nat) (rec : S12 → Option R12) (ih : ∀ s r, rec s = some r → P12 s r) (t5 : Int) (loc4_0 : Int) (loc4_1 : Int) (loc4_2 : Rs) (loc4_3 : Rs) (loc4_4 : Rs) (r : R12) (h : t12_h2 k rec t5 loc4_0 loc4_1 loc4_2 loc4_3 loc4_4 = some r) : P12 (.h2 t5 loc4_0 loc4_1 loc4_2 loc4_3 loc4_4) r := by
  unfold t12_h2 at h
  rw [← Option.some.inj h]
  exact mgo_fin (nb := 0) hmix (n := 2000) (ad := []) (ps := []) (by kernel_rfl) trivial
theorem t12_h3_ok (k : Nat) (rec : S12 → Option R12) (ih : ∀ s r, rec s = some r → P12 s r) (l0 : Rs) (share1 : Bool) (loc33_0 : Int) (loc33_1 : Int) (loc33_2 : Rs) (loc33_3 : Rs) (loc33_4 : Rs) (loc4_0 : Int) (loc4_1 : Int) (r : R12) (h : t12_h3 k rec l0 share1 loc33_0 loc33_1 loc33_2 loc33_3 loc33_4 loc4_0 loc4_1 = some r) : P12 (.h3 l0 share1 loc33_0 loc33_1 loc33_2 loc33_3 loc33_4 loc4_0 loc4_1) r := by
  unfold t12_h3 at h
  obtain ⟨w_x1, h_x2, h⟩ := ixR_or h
  obtain ⟨op_x3, kind_x3, args_x3, valueKind_x3, valueBits_x3, pos_x3, attr_x3, hq, h1'⟩ := un_iimiuii_or h
  clear h; subst hq; have h := h1'; clear h1'
  obtain ⟨v_x4, h_x5, h⟩ := bd_or h
  obtain ⟨r_x6, rb00_x6, rb01_x6, rb02_x6, rb03_x6, rb04_x6, hq, h1'⟩ := tup6_or h
  clear h; subst hq; have h := h1'; clear h1'
  exact mgo_at (nb := 0) hmix (ih _ _ h) (n := 6) (ad := [(some 37, .row [ic op_x3, ic kind_x3, .imm args_x3, ic valueKind_x3, .val (.int .u64 valueBits_x3), ic pos_x3, ic attr_x3]), (some 39, .call (.ret (.c (ic r_x6))) [[ic rb00_x6, ic rb01_x6, .own 4 rb02_x6, .own 2 rb03_x6, .own 4 rb04_x6]] false)]) (ps := [_, _]) (m := bm 87 154742504910672534362388716) (ls := []) (cs := []) (by kernel_rfl) ⟨ix_row h_x2 rfl, (ev28c h_x5), trivial⟩
theorem t12_h4_ok (k : Nat) (rec : S12 → Option R12) (ih : ∀ s r, rec s = some r → P12 s r) (l0 : Rs) (share1 : Bool) (told9 : Int) (i10 : Int) (loc33_0 : Int) (loc33_1 : Int) (loc33_2 : Rs) (loc33_3 : Rs) (loc33_4 : Rs) (loc4_0 : Int) (loc4_1 : Int) (r : R12) (h : t12_h4 k rec l0 share1 told9 i10 loc33_0 loc33_1 loc33_2 loc33_3 loc33_4 loc4_0 loc4_1 = some r) : P12 (.h4 l0 share1 told9 i10 loc33_0 loc33_1 loc33_2 loc33_3 loc33_4 loc4_0 loc4_1) r := by
  unfold t12_h4 at h
  rcases bif_or h with ⟨h_x1, h⟩ | ⟨h_x1, h⟩
  ·
    obtain ⟨w_x2, h_x3, h⟩ := ixR_or h
    obtain ⟨op_x4, kind_x4, args_x4, valueKind_x4, valueBits_x4, pos_x4, attr_x4, hq, h1'⟩ := un_iimiuii_or h
    clear h; subst hq; have h := h1'; clear h1'
    obtain ⟨v_x5, h_x6, h⟩ := bd_or h
    obtain ⟨r_x7, rb00_x7, rb01_x7, rb02_x7, rb03_x7, rb04_x7, hq, h1'⟩ := tup6_or h
    clear h; subst hq; have h := h1'; clear h1'
    obtain ⟨v_x8, h_x9, h⟩ := bd_or h
    obtain ⟨r_x10, rb00_x10, rb01_x10, rb02_x10, rb03_x10, rb04_x10, hq, h1'⟩ := tup6_or h
    clear h; subst hq; have h := h1'; clear h1'
    exact mgo_at (nb := 0) hmix (ih _ _ h) (n := 13) (ad := [(some 43, .test true), (some 50, .row [ic op_x4, ic kind_x4, .imm args_x4, ic valueKind_x4, .val (.int .u64 valueBits_x4), ic pos_x4, ic attr_x4]), (some 52, .call (.ret (.c (ic r_x7))) [[ic rb00_x7, ic rb01_x7, .own 4 rb02_x7, .own 2 rb03_x7, .own 4 rb04_x7]] false), (some 57, .call (.ret (.c (ic r_x10))) [[ic rb00_x10, ic rb01_x10, .own 4 rb02_x10, .own 2 rb03_x10, .own 4 rb04_x10]] false)]) (ps := [_, _, _, _]) (m := bm 87 154742504910672534362388716) (ls := []) (cs := []) (by kernel_rfl) ⟨h_x1, ix_row h_x3 rfl, (ev28c h_x6), (ev29d h_x9), trivial⟩
  ·
    obtain ⟨h_x2, h⟩ := gd_or h
    rcases bif_or h with ⟨h_x3, h⟩ | ⟨h_x3, h⟩
    ·
      exact mgo_at (nb := 0) hmix (ih _ _ h) (n := 16) (ad := [(some 43, .test false), (some 74, .okE false), (some 82, .test true)]) (ps := [_, _, _]) (m := bm 87 154742504910672534362390479) (ls := [33]) (cs := [(⟨⟨.loc 4, []⟩, 0, 2⟩, none), (⟨⟨.loc 4, []⟩, 0, 3⟩, none), (⟨⟨.loc 4, []⟩, 0, 4⟩, none)]) (by kernel_rfl) ⟨h_x1, okF [[ic 52, ic 0, ic told9, ic 0]] h_x2, h_x3, trivial⟩
    ·
      exact mgo_at (nb := 0) hmix (ih _ _ h) (n := 17) (ad := [(some 43, .test false), (some 74, .okE false), (some 82, .test false)]) (ps := [_, _, _]) (m := bm 87 154742504910672534362390479) (ls := [33]) (cs := []) (by kernel_rfl) ⟨h_x1, okF [[ic 52, ic 0, ic told9, ic 0]] h_x2, h_x3, trivial⟩
theorem t12_h5_ok (k : Nat) (rec : S12 → Option R12) (ih : ∀ s r, rec s = some r → P12 s r) (t5 : Int) (loc4_0 : Int) (loc4_1 : Int) (loc4_2 : Rs) (loc4_3 : Rs) (loc4_4 : Rs) (r : R12) (h : t12_h5 k rec t5 loc4_0 loc4_1 loc4_2 loc4_3 loc4_4 = some r) : P12 (.h5 t5 loc4_0 loc4_1 loc4_2 loc4_3 loc4_4) r := by
  unfold t12_h5 at h
  rw [← Option.some.inj h]
  exact mgo_fin (nb := 0) hmix (n := 2000) (ad := []) (ps := []) (by kernel_rfl) trivial
theorem t12_h6_ok (k : Nat) (rec : S12 → Option R12) (ih : ∀ s r, rec s = some r → P12 s r) (t5 : Int) (loc4_0 : Int) (loc4_1 : Int) (loc4_2 : Rs) (loc4_3 : Rs) (loc4_4 : Rs) (r : R12) (h : t12_h6 k rec t5 loc4_0 loc4_1 loc4_2 loc4_3 loc4_4 = some r) : P12 (.h6 t5 loc4_0 loc4_1 loc4_2 loc4_3 loc4_4) r := by
  unfold t12_h6 at h
  rw [← Option.some.inj h]
  exact mgo_fin (nb := 0) hmix (n := 2000) (ad := []) (ps := []) (by kernel_rfl) trivial
theorem ok12 : ∀ k s r, itS step12 k s = some r → P12 s r := itS_ok fun k rec ih s r h => match s, h with
  | .e l0 share1, h => t12_e_ok k rec ih l0 share1 r h
  | .h0 l0 share1 ok6 t16 t17 loc4_0 loc4_1, h => t12_h0_ok k rec ih l0 share1 ok6 t16 t17 loc4_0 loc4_1 r h
  | .h1 l0 share1 ok6 t16 t17 loc4_0 loc4_1, h => t12_h1_ok k rec ih l0 share1 ok6 t16 t17 loc4_0 loc4_1 r h
  | .h2 t5 loc4_0 loc4_1 loc4_2 loc4_3 loc4_4, h => t12_h2_ok k rec ih t5 loc4_0 loc4_1 loc4_2 loc4_3 loc4_4 r h
  | .h3 l0 share1 loc33_0 loc33_1 loc33_2 loc33_3 loc33_4 loc4_0 loc4_1, h => t12_h3_ok k rec ih l0 share1 loc33_0 loc33_1 loc33_2 loc33_3 loc33_4 loc4_0 loc4_1 r h
  | .h4 l0 share1 told9 i10 loc33_0 loc33_1 loc33_2 loc33_3 loc33_4 loc4_0 loc4_1, h => t12_h4_ok k rec ih l0 share1 told9 i10 loc33_0 loc33_1 loc33_2 loc33_3 loc33_4 loc4_0 loc4_1 r h
  | .h5 t5 loc4_0 loc4_1 loc4_2 loc4_3 loc4_4, h => t12_h5_ok k rec ih t5 loc4_0 loc4_1 loc4_2 loc4_3 loc4_4 r h
  | .h6 t5 loc4_0 loc4_1 loc4_2 loc4_3 loc4_4, h => t12_h6_ok k rec ih t5 loc4_0 loc4_1 loc4_2 loc4_3 loc4_4 r h
theorem ev12 {k : Nat} {l0 : Rs} {share1 : Bool} {r : R12} (h : g12 k l0 share1 = some r) : Ev Try.prog noHand 12 [.c (.imm l0), .c (bc share1)] [] (res12 r) (bx12 r) := evr12 (ok12 _ _ _ h)
-- auspice/auspiceref17.Same
inductive S13 where
  | e (a0_0 : Int) (a0_1 : Int) (a0_2 : Rs) (a0_3 : Rs) (a0_4 : Rs) (b1_0 : Int) (b1_1 : Int) (b1_2 : Rs) (b1_3 : Rs) (b1_4 : Rs)
  | h0 (t46 : Bool) (loc3_0 : Int) (loc3_1 : Int) (loc3_2 : Rs) (loc3_3 : Rs) (loc3_4 : Rs) (loc2_0 : Int) (loc2_1 : Int) (loc2_2 : Rs) (loc2_3 : Rs) (loc2_4 : Rs)
  | h1 (t49 : Int) (t50 : Int) (loc3_0 : Int) (loc3_1 : Int) (loc3_2 : Rs) (loc3_3 : Rs) (loc3_4 : Rs) (loc2_0 : Int) (loc2_1 : Int) (loc2_2 : Rs) (loc2_3 : Rs) (loc2_4 : Rs)
  | h2 (t67 : Int) (t68 : Int) (loc3_0 : Int) (loc3_1 : Int) (loc3_2 : Rs) (loc3_3 : Rs) (loc3_4 : Rs) (loc2_0 : Int) (loc2_1 : Int) (loc2_2 : Rs) (loc2_3 : Rs) (loc2_4 : Rs)
  | h3 (t85 : Int) (t86 : Int) (loc3_0 : Int) (loc3_1 : Int) (loc3_2 : Rs) (loc3_3 : Rs) (loc3_4 : Rs) (loc2_0 : Int) (loc2_1 : Int) (loc2_2 : Rs) (loc2_3 : Rs) (loc2_4 : Rs)
abbrev R13 := Bool
def res13 : R13 → ARes
  | r => .ret (.c (bc r))
def bx13 : R13 → List (List Cell)
  | r => []
noncomputable def t13_e (k : Nat) (rec : S13 → Option R13) (a0_0 : Int) (a0_1 : Int) (a0_2 : Rs) (a0_3 : Rs) (a0_4 : Rs) (b1_0 : Int) (b1_1 : Int) (b1_2 : Rs) (b1_3 : Rs) (b1_4 : Rs) : Option R13 :=
  bif a0_0 != b1_0 then
    rec (.h0 true b1_0 b1_1 b1_2 b1_3 b1_4 a0_0 a0_1 a0_2 a0_3 a0_4)
  else
    bif a0_1 != b1_1 then
      rec (.h0 true b1_0 b1_1 b1_2 b1_3 b1_4 a0_0 a0_1 a0_2 a0_3 a0_4)
    else
      bif (a0_2.length : Int) != (b1_2.length : Int) then
        rec (.h0 true b1_0 b1_1 b1_2 b1_3 b1_4 a0_0 a0_1 a0_2 a0_3 a0_4)
      else
        bif (a0_3.length : Int) != (b1_3.length : Int) then
          rec (.h0 true b1_0 b1_1 b1_2 b1_3 b1_4 a0_0 a0_1 a0_2 a0_3 a0_4)
        else
          rec (.h0 ((a0_4.length : Int) != (b1_4.length : Int)) b1_0 b1_1 b1_2 b1_3 b1_4 a0_0 a0_1 a0_2 a0_3 a0_4)
noncomputable def t13_h0 (k : Nat) (rec : S13 → Option R13) (t46 : Bool) (loc3_0 : Int) (loc3_1 : Int) (loc3_2 : Rs) (loc3_3 : Rs) (loc3_4 : Rs) (loc2_0 : Int) (loc2_1 : Int) (loc2_2 : Rs) (loc2_3 : Rs) (loc2_4 : Rs) : Option R13 :=
  bif t46 then
    some false
  else
    rec (.h1 (loc2_2.length : Int) 0 loc3_0 loc3_1 loc3_2 loc3_3 loc3_4 loc2_0 loc2_1 loc2_2 loc2_3 loc2_4)
noncomputable def t13_h1 (k : Nat) (rec : S13 → Option R13) (t49 : Int) (t50 : Int) (loc3_0 : Int) (loc3_1 : Int) (loc3_2 : Rs) (loc3_3 : Rs) (loc3_4 : Rs) (loc2_0 : Int) (loc2_1 : Int) (loc2_2 : Rs) (loc2_3 : Rs) (loc2_4 : Rs) : Option R13 :=
  bif decide (t50 < t49) then
    ixR loc2_2 t50 fun w_x2 =>
    un_i4 w_x2 fun op_x4 kind_x4 pos_x4 attr_x4 =>
    ixR loc3_2 t50 fun w_x5 =>
    un_i4 w_x5 fun op_x7 kind_x7 pos_x7 attr_x7 =>
    bif !(op_x4 == op_x7 && (kind_x4 == kind_x7 && (pos_x4 == pos_x7 && (attr_x4 == attr_x7 && true)))) then
      some false
    else
      rec (.h1 t49 (IntKind.i64.wrap (t50 + 1)) loc3_0 loc3_1 loc3_2 loc3_3 loc3_4 loc2_0 loc2_1 loc2_2 loc2_3 loc2_4)
  else
    rec (.h2 (loc2_3.length : Int) 0 loc3_0 loc3_1 loc3_2 loc3_3 loc3_4 loc2_0 loc2_1 loc2_2 loc2_3 loc2_4)
noncomputable def t13_h2 (k : Nat) (rec : S13 → Option R13) (t67 : Int) (t68 : Int) (loc3_0 : Int) (loc3_1 : Int) (loc3_2 : Rs) (loc3_3 : Rs) (loc3_4 : Rs) (loc2_0 : Int) (loc2_1 : Int) (loc2_2 : Rs) (loc2_3 : Rs) (loc2_4 : Rs) : Option R13 :=
  bif decide (t68 < t67) then
    ixR loc2_3 t68 fun w_x2 =>
    un_iu w_x2 fun kind_x4 bits_x4 =>
    ixR loc3_3 t68 fun w_x5 =>
    un_iu w_x5 fun kind_x7 bits_x7 =>
    bif !(kind_x4 == kind_x7 && (bits_x4 == bits_x7 && true)) then
      some false
    else
      rec (.h2 t67 (IntKind.i64.wrap (t68 + 1)) loc3_0 loc3_1 loc3_2 loc3_3 loc3_4 loc2_0 loc2_1 loc2_2 loc2_3 loc2_4)
  else
    rec (.h3 (loc2_4.length : Int) 0 loc3_0 loc3_1 loc3_2 loc3_3 loc3_4 loc2_0 loc2_1 loc2_2 loc2_3 loc2_4)
noncomputable def t13_h3 (k : Nat) (rec : S13 → Option R13) (t85 : Int) (t86 : Int) (loc3_0 : Int) (loc3_1 : Int) (loc3_2 : Rs) (loc3_3 : Rs) (loc3_4 : Rs) (loc2_0 : Int) (loc2_1 : Int) (loc2_2 : Rs) (loc2_3 : Rs) (loc2_4 : Rs) : Option R13 :=
  bif decide (t86 < t85) then
    ixR loc2_4 t86 fun w_x2 =>
    un_i4 w_x2 fun op_x4 dst_x4 a_x4 b_x4 =>
    ixR loc3_4 t86 fun w_x5 =>
    un_i4 w_x5 fun op_x7 dst_x7 a_x7 b_x7 =>
    bif !(op_x4 == op_x7 && (dst_x4 == dst_x7 && (a_x4 == a_x7 && (b_x4 == b_x7 && true)))) then
      some false
    else
      rec (.h3 t85 (IntKind.i64.wrap (t86 + 1)) loc3_0 loc3_1 loc3_2 loc3_3 loc3_4 loc2_0 loc2_1 loc2_2 loc2_3 loc2_4)
  else
    some true
noncomputable def step13 (k : Nat) (rec : S13 → Option R13) : S13 → Option R13
  | .e a0_0 a0_1 a0_2 a0_3 a0_4 b1_0 b1_1 b1_2 b1_3 b1_4 => t13_e k rec a0_0 a0_1 a0_2 a0_3 a0_4 b1_0 b1_1 b1_2 b1_3 b1_4
  | .h0 t46 loc3_0 loc3_1 loc3_2 loc3_3 loc3_4 loc2_0 loc2_1 loc2_2 loc2_3 loc2_4 => t13_h0 k rec t46 loc3_0 loc3_1 loc3_2 loc3_3 loc3_4 loc2_0 loc2_1 loc2_2 loc2_3 loc2_4
  | .h1 t49 t50 loc3_0 loc3_1 loc3_2 loc3_3 loc3_4 loc2_0 loc2_1 loc2_2 loc2_3 loc2_4 => t13_h1 k rec t49 t50 loc3_0 loc3_1 loc3_2 loc3_3 loc3_4 loc2_0 loc2_1 loc2_2 loc2_3 loc2_4
  | .h2 t67 t68 loc3_0 loc3_1 loc3_2 loc3_3 loc3_4 loc2_0 loc2_1 loc2_2 loc2_3 loc2_4 => t13_h2 k rec t67 t68 loc3_0 loc3_1 loc3_2 loc3_3 loc3_4 loc2_0 loc2_1 loc2_2 loc2_3 loc2_4
  | .h3 t85 t86 loc3_0 loc3_1 loc3_2 loc3_3 loc3_4 loc2_0 loc2_1 loc2_2 loc2_3 loc2_4 => t13_h3 k rec t85 t86 loc3_0 loc3_1 loc3_2 loc3_3 loc3_4 loc2_0 loc2_1 loc2_2 loc2_3 loc2_4
noncomputable def g13 (k : Nat) (a0_0 : Int) (a0_1 : Int) (a0_2 : Rs) (a0_3 : Rs) (a0_4 : Rs) (b1_0 : Int) (b1_1 : Int) (b1_2 : Rs) (b1_3 : Rs) (b1_4 : Rs) : Option R13 := itS step13 k (.e a0_0 a0_1 a0_2 a0_3 a0_4 b1_0 b1_1 b1_2 b1_3 b1_4)
noncomputable def P13 : S13 → R13 → Prop
  | .e a0_0 a0_1 a0_2 a0_3 a0_4 b1_0 b1_1 b1_2 b1_3 b1_4, r => Fin cx13 Try.f13 [.code body13] (fr0 Try.f13 [.ag [ic a0_0, ic a0_1, .imm a0_2, .imm a0_3, .imm a0_4], .ag [ic b1_0, ic b1_1, .imm b1_2, .imm b1_3, .imm b1_4]] []) (res13 r) (bx13 r)
  | .h0 t46 loc3_0 loc3_1 loc3_2 loc3_3 loc3_4 loc2_0 loc2_1 loc2_2 loc2_3 loc2_4, r => Fin cx13 Try.f13 (kAt body13 [1, 0, 1, 2] []) ⟨[.deadv, .deadv, .c (.ptr ⟨⟨.loc 2, []⟩, 0, 0⟩), .c (.ptr ⟨⟨.loc 3, []⟩, 0, 0⟩)] ++ rep 42 .deadv ++ [.c (bc t46)] ++ rep 54 .deadv, [(.loc 3, [ic loc3_0, ic loc3_1, .imm loc3_2, .imm loc3_3, .imm loc3_4]), (.loc 2, [ic loc2_0, ic loc2_1, .imm loc2_2, .imm loc2_3, .imm loc2_4])]⟩ (res13 r) (bx13 r)
  | .h1 t49 t50 loc3_0 loc3_1 loc3_2 loc3_3 loc3_4 loc2_0 loc2_1 loc2_2 loc2_3 loc2_4, r => Fin cx13 Try.f13 (kAt body13 [1, 1, 0, 1, 0, 4] []) ⟨[.deadv, .deadv, .c (.ptr ⟨⟨.loc 2, []⟩, 0, 0⟩), .c (.ptr ⟨⟨.loc 3, []⟩, 0, 0⟩)] ++ rep 45 .deadv ++ [.c (ic t49), .c (ic t50)] ++ rep 50 .deadv, [(.loc 3, [ic loc3_0, ic loc3_1, .imm loc3_2, .imm loc3_3, .imm loc3_4]), (.loc 2, [ic loc2_0, ic loc2_1, .imm loc2_2, .imm loc2_3, .imm loc2_4])]⟩ (res13 r) (bx13 r)
  | .h2 t67 t68 loc3_0 loc3_1 loc3_2 loc3_3 loc3_4 loc2_0 loc2_1 loc2_2 loc2_3 loc2_4, r => Fin cx13 Try.f13 (kAt body13 [1, 1, 1, 0, 1, 0, 4] []) ⟨[.deadv, .deadv, .c (.ptr ⟨⟨.loc 2, []⟩, 0, 0⟩), .c (.ptr ⟨⟨.loc 3, []⟩, 0, 0⟩)] ++ rep 63 .deadv ++ [.c (ic t67), .c (ic t68)] ++ rep 32 .deadv, [(.loc 3, [ic loc3_0, ic loc3_1, .imm loc3_2, .imm loc3_3, .imm loc3_4]), (.loc 2, [ic loc2_0, ic loc2_1, .imm loc2_2, .imm loc2_3, .imm loc2_4])]⟩ (res13 r) (bx13 r)
  | .h3 t85 t86 loc3_0 loc3_1 loc3_2 loc3_3 loc3_4 loc2_0 loc2_1 loc2_2 loc2_3 loc2_4, r => Fin cx13 Try.f13 (kAt body13 [1, 1, 1, 1, 0, 1, 0, 4] []) ⟨[.deadv, .deadv, .c (.ptr ⟨⟨.loc 2, []⟩, 0, 0⟩), .c (.ptr ⟨⟨.loc 3, []⟩, 0, 0⟩)] ++ rep 81 .deadv ++ [.c (ic t85), .c (ic t86)] ++ rep 14 .deadv, [(.loc 3, [ic loc3_0, ic loc3_1, .imm loc3_2, .imm loc3_3, .imm loc3_4]), (.loc 2, [ic loc2_0, ic loc2_1, .imm loc2_2, .imm loc2_3, .imm loc2_4])]⟩ (res13 r) (bx13 r)
theorem evr13 {a0_0 : Int} {a0_1 : Int} {a0_2 : Rs} {a0_3 : Rs} {a0_4 : Rs} {b1_0 : Int} {b1_1 : Int} {b1_2 : Rs} {b1_3 : Rs} {b1_4 : Rs} {r : R13} (h : P13 (.e a0_0 a0_1 a0_2 a0_3 a0_4 b1_0 b1_1 b1_2 b1_3 b1_4) r) : Ev Try.prog noHand 13 [.ag [ic a0_0, ic a0_1, .imm a0_2, .imm a0_3, .imm a0_4], .ag [ic b1_0, ic b1_1, .imm b1_2, .imm b1_3, .imm b1_4]] [] (res13 r) (bx13 r) := ev_of_fin (fn := Try.f13) (body := body13) (by kernel_rfl) (by kernel_rfl) (by kernel_rfl) rfl h
theorem t13_e_ok (k : Nat) (rec : S13 → Option R13) (ih : ∀ s r, rec s = some r → P13 s r) (a0_0 : Int) (a0_1 : Int) (a0_2 : Rs) (a0_3 : Rs) (a0_4 : Rs) (b1_0 : Int) (b1_1 : Int) (b1_2 : Rs) (b1_3 : Rs) (b1_4 : Rs) (r : R13) (h : t13_e k rec a0_0 a0_1 a0_2 a0_3 a0_4 b1_0 b1_1 b1_2 b1_3 b1_4 = some r) : P13 (.e a0_0 a0_1 a0_2 a0_3 a0_4 b1_0 b1_1 b1_2 b1_3 b1_4) r := by
  unfold t13_e at h
  rcases bif_or h with ⟨h_x1, h⟩ | ⟨h_x1, h⟩
  ·
    exact mgo_at (nb := 0) hmix (ih _ _ h) (n := 5) (ad := [(some 12, .test true)]) (ps := [_]) (m := bm 101 2535301200456458732624662233075) (ls := []) (cs := []) (by kernel_rfl) ⟨h_x1, trivial⟩
  ·
    rcases bif_or h with ⟨h_x2, h⟩ | ⟨h_x2, h⟩
    ·
      exact mgo_at (nb := 0) hmix (ih _ _ h) (n := 5) (ad := [(some 12, .test false), (some 18, .test true)]) (ps := [_, _]) (m := bm 101 2535301200456458732624662233075) (ls := []) (cs := []) (by kernel_rfl) ⟨h_x1, h_x2, trivial⟩
    ·
      rcases bif_or h with ⟨h_x3, h⟩ | ⟨h_x3, h⟩
      ·
        exact mgo_at (nb := 0) hmix (ih _ _ h) (n := 5) (ad := [(some 12, .test false), (some 18, .test false), (some 27, .test true)]) (ps := [_, _, _]) (m := bm 101 2535301200456458732624662233075) (ls := []) (cs := []) (by kernel_rfl) ⟨h_x1, h_x2, h_x3, trivial⟩
      ·
        rcases bif_or h with ⟨h_x4, h⟩ | ⟨h_x4, h⟩
        ·
          exact mgo_at (nb := 0) hmix (ih _ _ h) (n := 5) (ad := [(some 12, .test false), (some 18, .test false), (some 27, .test false), (some 36, .test true)]) (ps := [_, _, _, _]) (m := bm 101 2535301200456458732624662233075) (ls := []) (cs := []) (by kernel_rfl) ⟨h_x1, h_x2, h_x3, h_x4, trivial⟩
        ·
          exact mgo_at (nb := 0) hmix (ih _ _ h) (n := 5) (ad := [(some 12, .test false), (some 18, .test false), (some 27, .test false), (some 36, .test false)]) (ps := [_, _, _, _]) (m := bm 101 2535301200456458732624662233075) (ls := []) (cs := []) (by kernel_rfl) ⟨h_x1, h_x2, h_x3, h_x4, trivial⟩
theorem t13_h0_ok (k : Nat) (rec : S13 → Option R13) (ih : ∀ s r, rec s = some r → P13 s r) (t46 : Bool) (loc3_0 : Int) (loc3_1 : Int) (loc3_2 : Rs) (loc3_3 : Rs) (loc3_4 : Rs) (loc2_0 : Int) (loc2_1 : Int) (loc2_2 : Rs) (loc2_3 : Rs) (loc2_4 : Rs) (r : R13) (h : t13_h0 k rec t46 loc3_0 loc3_1 loc3_2 loc3_3 loc3_4 loc2_0 loc2_1 loc2_2 loc2_3 loc2_4 = some r) : P13 (.h0 t46 loc3_0 loc3_1 loc3_2 loc3_3 loc3_4 loc2_0 loc2_1 loc2_2 loc2_3 loc2_4) r := by
  unfold t13_h0 at h
  rcases bif_or h with ⟨hq, h1'⟩ | ⟨hq, h1'⟩
  · clear h; subst hq; have h := h1'; clear h1'
    rw [← Option.some.inj h]
    exact mgo_fin (nb := 0) hmix (n := 2000) (ad := []) (ps := []) (by kernel_rfl) trivial
  · clear h; subst hq; have h := h1'; clear h1'
    exact mgo_at (nb := 0) hmix (ih _ _ h) (n := 7) (ad := []) (ps := []) (m := bm 101 2535301200456457114143546146803) (ls := []) (cs := []) (by kernel_rfl) trivial
theorem t13_h1_ok (k : Nat) (rec : S13 → Option R13) (ih : ∀ s r, rec s = some r → P13 s r) (t49 : Int) (t50 : Int) (loc3_0 : Int) (loc3_1 : Int) (loc3_2 : Rs) (loc3_3 : Rs) (loc3_4 : Rs) (loc2_0 : Int) (loc2_1 : Int) (loc2_2 : Rs) (loc2_3 : Rs) (loc2_4 : Rs) (r : R13) (h : t13_h1 k rec t49 t50 loc3_0 loc3_1 loc3_2 loc3_3 loc3_4 loc2_0 loc2_1 loc2_2 loc2_3 loc2_4 = some r) : P13 (.h1 t49 t50 loc3_0 loc3_1 loc3_2 loc3_3 loc3_4 loc2_0 loc2_1 loc2_2 loc2_3 loc2_4) r := by
  unfold t13_h1 at h
  rcases bif_or h with ⟨h_x1, h⟩ | ⟨h_x1, h⟩
  ·
    obtain ⟨w_x2, h_x3, h⟩ := ixR_or h
    obtain ⟨op_x4, kind_x4, pos_x4, attr_x4, hq, h1'⟩ := un_i4_or h
    clear h; subst hq; have h := h1'; clear h1'
    obtain ⟨w_x5, h_x6, h⟩ := ixR_or h
    obtain ⟨op_x7, kind_x7, pos_x7, attr_x7, hq, h1'⟩ := un_i4_or h
    clear h; subst hq; have h := h1'; clear h1'
    rcases bif_or h with ⟨h_x8, h⟩ | ⟨h_x8, h⟩
    ·
      rw [← Option.some.inj h]
      exact mgo_fin (nb := 0) hmix (n := 2000) (ad := [(some 51, .test true), (some 56, .row [ic op_x4, ic kind_x4, ic pos_x4, ic attr_x4]), (some 61, .row [ic op_x7, ic kind_x7, ic pos_x7, ic attr_x7]), (some 63, .test true)]) (ps := [_, _, _, _]) (by kernel_rfl) ⟨h_x1, ix_row h_x3 rfl, ix_row h_x6 rfl, h_x8, trivial⟩
    ·
      exact mgo_at (nb := 0) hmix (ih _ _ h) (n := 16) (ad := [(some 51, .test true), (some 56, .row [ic op_x4, ic kind_x4, ic pos_x4, ic attr_x4]), (some 61, .row [ic op_x7, ic kind_x7, ic pos_x7, ic attr_x7]), (some 63, .test false)]) (ps := [_, _, _, _]) (m := bm 101 2535301200456457114143546146803) (ls := []) (cs := []) (by kernel_rfl) ⟨h_x1, ix_row h_x3 rfl, ix_row h_x6 rfl, h_x8, trivial⟩
  ·
    exact mgo_at (nb := 0) hmix (ih _ _ h) (n := 11) (ad := [(some 51, .test false)]) (ps := [_]) (m := bm 101 2535301200013736945224377171955) (ls := []) (cs := []) (by kernel_rfl) ⟨h_x1, trivial⟩
theorem t13_h2_ok (k : Nat) (rec : S13 → Option R13) (ih : ∀ s r, rec s = some r → P13 s r) (t67 : Int) (t68 : Int) (loc3_0 : Int) (loc3_1 : Int) (loc3_2 : Rs) (loc3_3 : Rs) (loc3_4 : Rs) (loc2_0 : Int) (loc2_1 : Int) (loc2_2 : Rs) (loc2_3 : Rs) (loc2_4 : Rs) (r : R13) (h : t13_h2 k rec t67 t68 loc3_0 loc3_1 loc3_2 loc3_3 loc3_4 loc2_0 loc2_1 loc2_2 loc2_3 loc2_4 = some r) : P13 (.h2 t67 t68 loc3_0 loc3_1 loc3_2 loc3_3 loc3_4 loc2_0 loc2_1 loc2_2 loc2_3 loc2_4) r := by
  unfold t13_h2 at h
  rcases bif_or h with ⟨h_x1, h⟩ | ⟨h_x1, h⟩
  ·
    obtain ⟨w_x2, h_x3, h⟩ := ixR_or h
    obtain ⟨kind_x4, bits_x4, hq, h1'⟩ := un_iu_or h
    clear h; subst hq; have h := h1'; clear h1'
    obtain ⟨w_x5, h_x6, h⟩ := ixR_or h
    obtain ⟨kind_x7, bits_x7, hq, h1'⟩ := un_iu_or h
    clear h; subst hq; have h := h1'; clear h1'
    rcases bif_or h with ⟨h_x8, h⟩ | ⟨h_x8, h⟩
    ·
      rw [← Option.some.inj h]
      exact mgo_fin (nb := 0) hmix (n := 2000) (ad := [(some 69, .test true), (some 74, .row [ic kind_x4, .val (.int .u64 bits_x4)]), (some 79, .row [ic kind_x7, .val (.int .u64 bits_x7)]), (some 81, .test true)]) (ps := [_, _, _, _]) (by kernel_rfl) ⟨h_x1, ix_row h_x3 rfl, ix_row h_x6 rfl, h_x8, trivial⟩
    ·
      exact mgo_at (nb := 0) hmix (ih _ _ h) (n := 16) (ad := [(some 69, .test true), (some 74, .row [ic kind_x4, .val (.int .u64 bits_x4)]), (some 79, .row [ic kind_x7, .val (.int .u64 bits_x7)]), (some 81, .test false)]) (ps := [_, _, _, _]) (m := bm 101 2535301200013736945224377171955) (ls := []) (cs := []) (by kernel_rfl) ⟨h_x1, ix_row h_x3 rfl, ix_row h_x6 rfl, h_x8, trivial⟩
  ·
    exact mgo_at (nb := 0) hmix (ih _ _ h) (n := 11) (ad := [(some 69, .test false)]) (ps := [_]) (m := bm 101 2535185143577775798592634617843) (ls := []) (cs := []) (by kernel_rfl) ⟨h_x1, trivial⟩
theorem t13_h3_ok (k : Nat) (rec : S13 → Option R13) (ih : ∀ s r, rec s = some r → P13 s r) (t85 : Int) (t86 : Int) (loc3_0 : Int) (loc3_1 : Int) (loc3_2 : Rs) (loc3_3 : Rs) (loc3_4 : Rs) (loc2_0 : Int) (loc2_1 : Int) (loc2_2 : Rs) (loc2_3 : Rs) (loc2_4 : Rs) (r : R13) (h : t13_h3 k rec t85 t86 loc3_0 loc3_1 loc3_2 loc3_3 loc3_4 loc2_0 loc2_1 loc2_2 loc2_3 loc2_4 = some r) : P13 (.h3 t85 t86 loc3_0 loc3_1 loc3_2 loc3_3 loc3_4 loc2_0 loc2_1 loc2_2 loc2_3 loc2_4) r := by
  unfold t13_h3 at h
  rcases bif_or h with ⟨h_x1, h⟩ | ⟨h_x1, h⟩
  ·
    obtain ⟨w_x2, h_x3, h⟩ := ixR_or h
    obtain ⟨op_x4, dst_x4, a_x4, b_x4, hq, h1'⟩ := un_i4_or h
    clear h; subst hq; have h := h1'; clear h1'
    obtain ⟨w_x5, h_x6, h⟩ := ixR_or h
    obtain ⟨op_x7, dst_x7, a_x7, b_x7, hq, h1'⟩ := un_i4_or h
    clear h; subst hq; have h := h1'; clear h1'
    rcases bif_or h with ⟨h_x8, h⟩ | ⟨h_x8, h⟩
    ·
      rw [← Option.some.inj h]
      exact mgo_fin (nb := 0) hmix (n := 2000) (ad := [(some 87, .test true), (some 92, .row [ic op_x4, ic dst_x4, ic a_x4, ic b_x4]), (some 97, .row [ic op_x7, ic dst_x7, ic a_x7, ic b_x7]), (some 99, .test true)]) (ps := [_, _, _, _]) (by kernel_rfl) ⟨h_x1, ix_row h_x3 rfl, ix_row h_x6 rfl, h_x8, trivial⟩
    ·
      exact mgo_at (nb := 0) hmix (ih _ _ h) (n := 16) (ad := [(some 87, .test true), (some 92, .row [ic op_x4, ic dst_x4, ic a_x4, ic b_x4]), (some 97, .row [ic op_x7, ic dst_x7, ic a_x7, ic b_x7]), (some 99, .test false)]) (ps := [_, _, _, _]) (m := bm 101 2535185143577775798592634617843) (ls := []) (cs := []) (by kernel_rfl) ⟨h_x1, ix_row h_x3 rfl, ix_row h_x6 rfl, h_x8, trivial⟩
  ·
    rw [← Option.some.inj h]
    exact mgo_fin (nb := 0) hmix (n := 2000) (ad := [(some 87, .test false)]) (ps := [_]) (by kernel_rfl) ⟨h_x1, trivial⟩
theorem ok13 : ∀ k s r, itS step13 k s = some r → P13 s r := itS_ok fun k rec ih s r h => match s, h with
  | .e a0_0 a0_1 a0_2 a0_3 a0_4 b1_0 b1_1 b1_2 b1_3 b1_4, h => t13_e_ok k rec ih a0_0 a0_1 a0_2 a0_3 a0_4 b1_0 b1_1 b1_2 b1_3 b1_4 r h
  | .h0 t46 loc3_0 loc3_1 loc3_2 loc3_3 loc3_4 loc2_0 loc2_1 loc2_2 loc2_3 loc2_4, h => t13_h0_ok k rec ih t46 loc3_0 loc3_1 loc3_2 loc3_3 loc3_4 loc2_0 loc2_1 loc2_2 loc2_3 loc2_4 r h
  | .h1 t49 t50 loc3_0 loc3_1 loc3_2 loc3_3 loc3_4 loc2_0 loc2_1 loc2_2 loc2_3 loc2_4, h => t13_h1_ok k rec ih t49 t50 loc3_0 loc3_1 loc3_2 loc3_3 loc3_4 loc2_0 loc2_1 loc2_2 loc2_3 loc2_4 r h
  | .h2 t67 t68 loc3_0 loc3_1 loc3_2 loc3_3 loc3_4 loc2_0 loc2_1 loc2_2 loc2_3 loc2_4, h => t13_h2_ok k rec ih t67 t68 loc3_0 loc3_1 loc3_2 loc3_3 loc3_4 loc2_0 loc2_1 loc2_2 loc2_3 loc2_4 r h
  | .h3 t85 t86 loc3_0 loc3_1 loc3_2 loc3_3 loc3_4 loc2_0 loc2_1 loc2_2 loc2_3 loc2_4, h => t13_h3_ok k rec ih t85 t86 loc3_0 loc3_1 loc3_2 loc3_3 loc3_4 loc2_0 loc2_1 loc2_2 loc2_3 loc2_4 r h
theorem ev13 {k : Nat} {a0_0 : Int} {a0_1 : Int} {a0_2 : Rs} {a0_3 : Rs} {a0_4 : Rs} {b1_0 : Int} {b1_1 : Int} {b1_2 : Rs} {b1_3 : Rs} {b1_4 : Rs} {r : R13} (h : g13 k a0_0 a0_1 a0_2 a0_3 a0_4 b1_0 b1_1 b1_2 b1_3 b1_4 = some r) : Ev Try.prog noHand 13 [.ag [ic a0_0, ic a0_1, .imm a0_2, .imm a0_3, .imm a0_4], .ag [ic b1_0, ic b1_1, .imm b1_2, .imm b1_3, .imm b1_4]] [] (res13 r) (bx13 r) := evr13 (ok13 _ _ _ h)
-- auspice/auspiceref08.SameNodes
inductive S14 where
  | e (a0 : Rs) (b1 : Rs)
  | h0 (a0 : Rs) (b1 : Rs) (t14 : Int) (t15 : Int)
  | h1 (a0 : Rs) (b1 : Rs) (t14 : Int) (t15 : Int) (t66 : Bool)
abbrev R14 := Bool
def res14 : R14 → ARes
  | r => .ret (.c (bc r))
def bx14 : R14 → List (List Cell)
  | r => []
noncomputable def t14_e (k : Nat) (rec : S14 → Option R14) (a0 : Rs) (b1 : Rs) : Option R14 :=
  bif (a0.length : Int) != (b1.length : Int) then
    some false
  else
    rec (.h0 a0 b1 (a0.length : Int) 0)
noncomputable def t14_h0 (k : Nat) (rec : S14 → Option R14) (a0 : Rs) (b1 : Rs) (t14 : Int) (t15 : Int) : Option R14 :=
  bif decide (t15 < t14) then
    ixR a0 t15 fun w_x2 =>
    un_iimiuii w_x2 fun op_x4 kind_x4 args_x4 valueKind_x4 valueBits_x4 pos_x4 attr_x4 =>
    ixR b1 t15 fun w_x5 =>
    un_iimiuii w_x5 fun op_x7 kind_x7 args_x7 valueKind_x7 valueBits_x7 pos_x7 attr_x7 =>
    bif op_x4 != op_x7 then
      rec (.h1 a0 b1 t14 t15 true)
    else
      bif kind_x4 != kind_x7 then
        rec (.h1 a0 b1 t14 t15 true)
      else
        bif !(valueKind_x4 == valueKind_x7 && (valueBits_x4 == valueBits_x7 && true)) then
          rec (.h1 a0 b1 t14 t15 true)
        else
          bif pos_x4 != pos_x7 then
            rec (.h1 a0 b1 t14 t15 true)
          else
            bif attr_x4 != attr_x7 then
              rec (.h1 a0 b1 t14 t15 true)
            else
              (rec (.e args_x4 args_x7)).bind fun v_x13 =>
              rec (.h1 a0 b1 t14 t15 (!v_x13))
  else
    some true
noncomputable def t14_h1 (k : Nat) (rec : S14 → Option R14) (a0 : Rs) (b1 : Rs) (t14 : Int) (t15 : Int) (t66 : Bool) : Option R14 :=
  bif t66 then
    some false
  else
    rec (.h0 a0 b1 t14 (IntKind.i64.wrap (t15 + 1)))
noncomputable def step14 (k : Nat) (rec : S14 → Option R14) : S14 → Option R14
  | .e a0 b1 => t14_e k rec a0 b1
  | .h0 a0 b1 t14 t15 => t14_h0 k rec a0 b1 t14 t15
  | .h1 a0 b1 t14 t15 t66 => t14_h1 k rec a0 b1 t14 t15 t66
noncomputable def g14 (k : Nat) (a0 : Rs) (b1 : Rs) : Option R14 := itS step14 k (.e a0 b1)
noncomputable def P14 : S14 → R14 → Prop
  | .e a0 b1, r => Fin cx14 Try.f14 [.code body14] (fr0 Try.f14 [.c (.imm a0), .c (.imm b1)] []) (res14 r) (bx14 r)
  | .h0 a0 b1 t14 t15, r => Fin cx14 Try.f14 (kAt body14 [1, 1, 0, 1, 0, 4] []) ⟨[.c (.imm a0), .c (.imm b1)] ++ rep 12 .deadv ++ [.c (ic t14), .c (ic t15)] ++ rep 52 .deadv, []⟩ (res14 r) (bx14 r)
  | .h1 a0 b1 t14 t15 t66, r => Fin cx14 Try.f14 (kAt body14 [1, 1, 0, 1, 0, 0, 1, 1, 0, 0, 1, 1, 1, 2] []) ⟨[.c (.imm a0), .c (.imm b1)] ++ rep 12 .deadv ++ [.c (ic t14), .c (ic t15)] ++ rep 50 .deadv ++ [.c (bc t66), .deadv], []⟩ (res14 r) (bx14 r)
theorem evr14 {a0 : Rs} {b1 : Rs} {r : R14} (h : P14 (.e a0 b1) r) : Ev Try.prog noHand 14 [.c (.imm a0), .c (.imm b1)] [] (res14 r) (bx14 r) := ev_of_fin (fn := Try.f14) (body := body14) (by kernel_rfl) (by kernel_rfl) (by kernel_rfl) rfl h
theorem t14_e_ok (k : Nat) (rec : S14 → Option R14) (ih : ∀ s r, rec s = some r → P14 s r) (a0 : Rs) (b1 : Rs) (r : R14) (h : t14_e k rec a0 b1 = some r) : P14 (.e a0 b1) r := by
  unfold t14_e at h
  rcases bif_or h with ⟨h_x1, h⟩ | ⟨h_x1, h⟩
  ·
    rw [← Option.some.inj h]
    exact mgo_fin (nb := 0) hmix (n := 2000) (ad := [(some 12, .test true)]) (ps := [_]) (by kernel_rfl) ⟨h_x1, trivial⟩
  ·
    exact mgo_at (nb := 0) hmix (ih _ _ h) (n := 12) (ad := [(some 12, .test false)]) (ps := [_]) (m := bm 68 295147905179352776700) (ls := []) (cs := []) (by kernel_rfl) ⟨h_x1, trivial⟩
theorem t14_h0_ok (k : Nat) (rec : S14 → Option R14) (ih : ∀ s r, rec s = some r → P14 s r) (a0 : Rs) (b1 : Rs) (t14 : Int) (t15 : Int) (r : R14) (h : t14_h0 k rec a0 b1 t14 t15 = some r) : P14 (.h0 a0 b1 t14 t15) r := by
  unfold t14_h0 at h
  rcases bif_or h with ⟨h_x1, h⟩ | ⟨h_x1, h⟩
  ·
    obtain ⟨w_x2, h_x3, h⟩ := ixR_or h
    obtain ⟨op_x4, kind_x4, args_x4, valueKind_x4, valueBits_x4, pos_x4, attr_x4, hq, h1'⟩ := un_iimiuii_or h
    clear h; subst hq; have h := h1'; clear h1'
    obtain ⟨w_x5, h_x6, h⟩ := ixR_or h
    obtain ⟨op_x7, kind_x7, args_x7, valueKind_x7, valueBits_x7, pos_x7, attr_x7, hq, h1'⟩ := un_iimiuii_or h
    clear h; subst hq; have h := h1'; clear h1'
    rcases bif_or h with ⟨h_x8, h⟩ | ⟨h_x8, h⟩
    ·
      exact mgo_at (nb := 0) hmix (ih _ _ h) (n := 14) (ad := [(some 16, .test true), (some 20, .row [ic op_x4, ic kind_x4, .imm args_x4, ic valueKind_x4, .val (.int .u64 valueBits_x4), ic pos_x4, ic attr_x4]), (some 24, .row [ic op_x7, ic kind_x7, .imm args_x7, ic valueKind_x7, .val (.int .u64 valueBits_x7), ic pos_x7, ic attr_x7]), (some 30, .test true)]) (ps := [_, _, _, _]) (m := bm 68 221360928884514570236) (ls := [7, 6]) (cs := []) (by kernel_rfl) ⟨h_x1, ix_row h_x3 rfl, ix_row h_x6 rfl, h_x8, trivial⟩
    ·
      rcases bif_or h with ⟨h_x9, h⟩ | ⟨h_x9, h⟩
      ·
        exact mgo_at (nb := 0) hmix (ih _ _ h) (n := 14) (ad := [(some 16, .test true), (some 20, .row [ic op_x4, ic kind_x4, .imm args_x4, ic valueKind_x4, .val (.int .u64 valueBits_x4), ic pos_x4, ic attr_x4]), (some 24, .row [ic op_x7, ic kind_x7, .imm args_x7, ic valueKind_x7, .val (.int .u64 valueBits_x7), ic pos_x7, ic attr_x7]), (some 30, .test false), (some 36, .test true)]) (ps := [_, _, _, _, _]) (m := bm 68 221360928884514570236) (ls := [7, 6]) (cs := []) (by kernel_rfl) ⟨h_x1, ix_row h_x3 rfl, ix_row h_x6 rfl, h_x8, h_x9, trivial⟩
      ·
        rcases bif_or h with ⟨h_x10, h⟩ | ⟨h_x10, h⟩
        ·
          exact mgo_at (nb := 0) hmix (ih _ _ h) (n := 14) (ad := [(some 16, .test true), (some 20, .row [ic op_x4, ic kind_x4, .imm args_x4, ic valueKind_x4, .val (.int .u64 valueBits_x4), ic pos_x4, ic attr_x4]), (some 24, .row [ic op_x7, ic kind_x7, .imm args_x7, ic valueKind_x7, .val (.int .u64 valueBits_x7), ic pos_x7, ic attr_x7]), (some 30, .test false), (some 36, .test false), (some 43, .test true)]) (ps := [_, _, _, _, _, _]) (m := bm 68 221360928884514570236) (ls := [7, 6]) (cs := []) (by kernel_rfl) ⟨h_x1, ix_row h_x3 rfl, ix_row h_x6 rfl, h_x8, h_x9, h_x10, trivial⟩
        ·
          rcases bif_or h with ⟨h_x11, h⟩ | ⟨h_x11, h⟩
          ·
            exact mgo_at (nb := 0) hmix (ih _ _ h) (n := 14) (ad := [(some 16, .test true), (some 20, .row [ic op_x4, ic kind_x4, .imm args_x4, ic valueKind_x4, .val (.int .u64 valueBits_x4), ic pos_x4, ic attr_x4]), (some 24, .row [ic op_x7, ic kind_x7, .imm args_x7, ic valueKind_x7, .val (.int .u64 valueBits_x7), ic pos_x7, ic attr_x7]), (some 30, .test false), (some 36, .test false), (some 43, .test false), (some 50, .test true)]) (ps := [_, _, _, _, _, _, _]) (m := bm 68 221360928884514570236) (ls := [7, 6]) (cs := []) (by kernel_rfl) ⟨h_x1, ix_row h_x3 rfl, ix_row h_x6 rfl, h_x8, h_x9, h_x10, h_x11, trivial⟩
          ·
            rcases bif_or h with ⟨h_x12, h⟩ | ⟨h_x12, h⟩
            ·
              exact mgo_at (nb := 0) hmix (ih _ _ h) (n := 14) (ad := [(some 16, .test true), (some 20, .row [ic op_x4, ic kind_x4, .imm args_x4, ic valueKind_x4, .val (.int .u64 valueBits_x4), ic pos_x4, ic attr_x4]), (some 24, .row [ic op_x7, ic kind_x7, .imm args_x7, ic valueKind_x7, .val (.int .u64 valueBits_x7), ic pos_x7, ic attr_x7]), (some 30, .test false), (some 36, .test false), (some 43, .test false), (some 50, .test false), (some 57, .test true)]) (ps := [_, _, _, _, _, _, _, _]) (m := bm 68 221360928884514570236) (ls := [7, 6]) (cs := []) (by kernel_rfl) ⟨h_x1, ix_row h_x3 rfl, ix_row h_x6 rfl, h_x8, h_x9, h_x10, h_x11, h_x12, trivial⟩
            ·
              obtain ⟨v_x13, h_x14, h⟩ := bd_or h
              exact mgo_at (nb := 0) hmix (ih _ _ h) (n := 14) (ad := [(some 16, .test true), (some 20, .row [ic op_x4, ic kind_x4, .imm args_x4, ic valueKind_x4, .val (.int .u64 valueBits_x4), ic pos_x4, ic attr_x4]), (some 24, .row [ic op_x7, ic kind_x7, .imm args_x7, ic valueKind_x7, .val (.int .u64 valueBits_x7), ic pos_x7, ic attr_x7]), (some 30, .test false), (some 36, .test false), (some 43, .test false), (some 50, .test false), (some 57, .test false), (some 64, .call (.ret (.c (bc v_x13))) [] false)]) (ps := [_, _, _, _, _, _, _, _, _]) (m := bm 68 221360928884514570236) (ls := [7, 6]) (cs := []) (by kernel_rfl) ⟨h_x1, ix_row h_x3 rfl, ix_row h_x6 rfl, h_x8, h_x9, h_x10, h_x11, h_x12, (evr14 (ih _ _ h_x14)), trivial⟩
  ·
    rw [← Option.some.inj h]
    exact mgo_fin (nb := 0) hmix (n := 2000) (ad := [(some 16, .test false)]) (ps := [_]) (by kernel_rfl) ⟨h_x1, trivial⟩
theorem t14_h1_ok (k : Nat) (rec : S14 → Option R14) (ih : ∀ s r, rec s = some r → P14 s r) (a0 : Rs) (b1 : Rs) (t14 : Int) (t15 : Int) (t66 : Bool) (r : R14) (h : t14_h1 k rec a0 b1 t14 t15 t66 = some r) : P14 (.h1 a0 b1 t14 t15 t66) r := by
  unfold t14_h1 at h
  rcases bif_or h with ⟨hq, h1'⟩ | ⟨hq, h1'⟩
  · clear h; subst hq; have h := h1'; clear h1'
    rw [← Option.some.inj h]
    exact mgo_fin (nb := 0) hmix (n := 2000) (ad := []) (ps := []) (by kernel_rfl) trivial
  · clear h; subst hq; have h := h1'; clear h1'
    exact mgo_at (nb := 0) hmix (ih _ _ h) (n := 4) (ad := []) (ps := []) (m := bm 68 295147905179352776700) (ls := []) (cs := []) (by kernel_rfl) trivial
theorem ok14 : ∀ k s r, itS step14 k s = some r → P14 s r := itS_ok fun k rec ih s r h => match s, h with
  | .e a0 b1, h => t14_e_ok k rec ih a0 b1 r h
  | .h0 a0 b1 t14 t15, h => t14_h0_ok k rec ih a0 b1 t14 t15 r h
  | .h1 a0 b1 t14 t15 t66, h => t14_h1_ok k rec ih a0 b1 t14 t15 t66 r h
theorem ev14 {k : Nat} {a0 : Rs} {b1 : Rs} {r : R14} (h : g14 k a0 b1 = some r) : Ev Try.prog noHand 14 [.c (.imm a0), .c (.imm b1)] [] (res14 r) (bx14 r) := evr14 (ok14 _ _ _ h)
-- auspice/ssa.Plain
inductive S15 where
  | e (c0_0 : Int) (c0_1 : Int) (c0_2 : Rs) (c0_3 : Rs) (c0_4 : Rs)
  | h0 (t23 : Bool) (loc1_0 : Int) (loc1_1 : Int) (loc1_2 : Rs) (loc1_3 : Rs) (loc1_4 : Rs)
  | h1 (t28 : Rs) (t29 : Int) (t30 : Int) (loc1_0 : Int) (loc1_1 : Int) (loc1_2 : Rs) (loc1_3 : Rs) (loc1_4 : Rs)
  | h2 (i3 : Int) (ok5 : Bool) (t28 : Rs) (t29 : Int) (t30 : Int) (loc4_0 : Int) (loc4_1 : Int) (loc4_2 : Int) (loc4_3 : Int) (loc1_0 : Int) (loc1_1 : Int) (loc1_2 : Rs) (loc1_3 : Rs) (loc1_4 : Rs)
  | h3 (t28 : Rs) (t29 : Int) (t30 : Int) (t126 : Bool) (loc1_0 : Int) (loc1_1 : Int) (loc1_2 : Rs) (loc1_3 : Rs) (loc1_4 : Rs)
abbrev R15 := Bool
def res15 : R15 → ARes
  | r => .ret (.c (bc r))
def bx15 : R15 → List (List Cell)
  | r => []
noncomputable def t15_e (k : Nat) (rec : S15 → Option R15) (c0_0 : Int) (c0_1 : Int) (c0_2 : Rs) (c0_3 : Rs) (c0_4 : Rs) : Option R15 :=
  bif c0_1 != 0 then
    rec (.h0 true c0_0 c0_1 c0_2 c0_3 c0_4)
  else
    bif decide (c0_0 < 1) then
      rec (.h0 true c0_0 c0_1 c0_2 c0_3 c0_4)
    else
      rec (.h0 ((c0_4.length : Int) != (IntKind.i64.wrap (c0_0 + 1))) c0_0 c0_1 c0_2 c0_3 c0_4)
noncomputable def t15_h0 (k : Nat) (rec : S15 → Option R15) (t23 : Bool) (loc1_0 : Int) (loc1_1 : Int) (loc1_2 : Rs) (loc1_3 : Rs) (loc1_4 : Rs) : Option R15 :=
  bif t23 then
    some false
  else
    gd (slOk 0 loc1_0 loc1_4 4) <|
    rec (.h1 (List.drop (Int.toNat 0) (List.take (Int.toNat loc1_0) loc1_4)) ((List.drop (Int.toNat 0) (List.take (Int.toNat loc1_0) loc1_4)).length : Int) 0 loc1_0 loc1_1 loc1_2 loc1_3 loc1_4)
noncomputable def t15_h1 (k : Nat) (rec : S15 → Option R15) (t28 : Rs) (t29 : Int) (t30 : Int) (loc1_0 : Int) (loc1_1 : Int) (loc1_2 : Rs) (loc1_3 : Rs) (loc1_4 : Rs) : Option R15 :=
  bif decide (t30 < t29) then
    ixR t28 t30 fun w_x2 =>
    un_i4 w_x2 fun op_x4 dst_x4 a_x4 b_x4 =>
    bif op_x4 == 50 then
      bif decide (a_x4 ≥ 0) then
        bif decide (a_x4 < (loc1_2.length : Int)) then
          rec (.h2 t30 (b_x4 == 0) t28 t29 t30 op_x4 dst_x4 a_x4 b_x4 loc1_0 loc1_1 loc1_2 loc1_3 loc1_4)
        else
          rec (.h2 t30 false t28 t29 t30 op_x4 dst_x4 a_x4 b_x4 loc1_0 loc1_1 loc1_2 loc1_3 loc1_4)
      else
        rec (.h2 t30 false t28 t29 t30 op_x4 dst_x4 a_x4 b_x4 loc1_0 loc1_1 loc1_2 loc1_3 loc1_4)
    else
      bif op_x4 == 51 then
        bif decide (a_x4 ≥ 0) then
          bif decide (a_x4 < (loc1_3.length : Int)) then
            rec (.h2 t30 (b_x4 == 0) t28 t29 t30 op_x4 dst_x4 a_x4 b_x4 loc1_0 loc1_1 loc1_2 loc1_3 loc1_4)
          else
            rec (.h2 t30 false t28 t29 t30 op_x4 dst_x4 a_x4 b_x4 loc1_0 loc1_1 loc1_2 loc1_3 loc1_4)
        else
          rec (.h2 t30 false t28 t29 t30 op_x4 dst_x4 a_x4 b_x4 loc1_0 loc1_1 loc1_2 loc1_3 loc1_4)
      else
        (g30 k op_x4).bind fun v_x7 =>
        bif v_x7 == 1 then
          bif decide (a_x4 ≥ 0) then
            bif decide (a_x4 < t30) then
              rec (.h2 t30 (b_x4 == 0) t28 t29 t30 op_x4 dst_x4 a_x4 b_x4 loc1_0 loc1_1 loc1_2 loc1_3 loc1_4)
            else
              rec (.h2 t30 false t28 t29 t30 op_x4 dst_x4 a_x4 b_x4 loc1_0 loc1_1 loc1_2 loc1_3 loc1_4)
          else
            rec (.h2 t30 false t28 t29 t30 op_x4 dst_x4 a_x4 b_x4 loc1_0 loc1_1 loc1_2 loc1_3 loc1_4)
        else
          bif v_x7 == 2 then
            bif decide (a_x4 ≥ 0) then
              bif decide (a_x4 < t30) then
                bif decide (b_x4 ≥ 0) then
                  rec (.h2 t30 (decide (b_x4 < t30)) t28 t29 t30 op_x4 dst_x4 a_x4 b_x4 loc1_0 loc1_1 loc1_2 loc1_3 loc1_4)
                else
                  rec (.h2 t30 false t28 t29 t30 op_x4 dst_x4 a_x4 b_x4 loc1_0 loc1_1 loc1_2 loc1_3 loc1_4)
              else
                rec (.h2 t30 false t28 t29 t30 op_x4 dst_x4 a_x4 b_x4 loc1_0 loc1_1 loc1_2 loc1_3 loc1_4)
            else
              rec (.h2 t30 false t28 t29 t30 op_x4 dst_x4 a_x4 b_x4 loc1_0 loc1_1 loc1_2 loc1_3 loc1_4)
          else
            rec (.h2 t30 false t28 t29 t30 op_x4 dst_x4 a_x4 b_x4 loc1_0 loc1_1 loc1_2 loc1_3 loc1_4)
  else
    ixR loc1_4 loc1_0 fun w_x2 =>
    un_i4 w_x2 fun op_x4 dst_x4 a_x4 b_x4 =>
    bif op_x4 == 52 then
      bif dst_x4 == 0 then
        bif b_x4 == 0 then
          bif decide (a_x4 ≥ 0) then
            some (decide (a_x4 < loc1_0))
          else
            some false
        else
          some false
      else
        some false
    else
      some false
noncomputable def t15_h2 (k : Nat) (rec : S15 → Option R15) (i3 : Int) (ok5 : Bool) (t28 : Rs) (t29 : Int) (t30 : Int) (loc4_0 : Int) (loc4_1 : Int) (loc4_2 : Int) (loc4_3 : Int) (loc1_0 : Int) (loc1_1 : Int) (loc1_2 : Rs) (loc1_3 : Rs) (loc1_4 : Rs) : Option R15 :=
  bif !ok5 then
    rec (.h3 t28 t29 t30 true loc1_0 loc1_1 loc1_2 loc1_3 loc1_4)
  else
    rec (.h3 t28 t29 t30 (loc4_1 != i3) loc1_0 loc1_1 loc1_2 loc1_3 loc1_4)
noncomputable def t15_h3 (k : Nat) (rec : S15 → Option R15) (t28 : Rs) (t29 : Int) (t30 : Int) (t126 : Bool) (loc1_0 : Int) (loc1_1 : Int) (loc1_2 : Rs) (loc1_3 : Rs) (loc1_4 : Rs) : Option R15 :=
  bif t126 then
    some false
  else
    rec (.h1 t28 t29 (IntKind.i64.wrap (t30 + 1)) loc1_0 loc1_1 loc1_2 loc1_3 loc1_4)
noncomputable def step15 (k : Nat) (rec : S15 → Option R15) : S15 → Option R15
  | .e c0_0 c0_1 c0_2 c0_3 c0_4 => t15_e k rec c0_0 c0_1 c0_2 c0_3 c0_4
  | .h0 t23 loc1_0 loc1_1 loc1_2 loc1_3 loc1_4 => t15_h0 k rec t23 loc1_0 loc1_1 loc1_2 loc1_3 loc1_4
  | .h1 t28 t29 t30 loc1_0 loc1_1 loc1_2 loc1_3 loc1_4 => t15_h1 k rec t28 t29 t30 loc1_0 loc1_1 loc1_2 loc1_3 loc1_4
  | .h2 i3 ok5 t28 t29 t30 loc4_0 loc4_1 loc4_2 loc4_3 loc1_0 loc1_1 loc1_2 loc1_3 loc1_4 => t15_h2 k rec i3 ok5 t28 t29 t30 loc4_0 loc4_1 loc4_2 loc4_3 loc1_0 loc1_1 loc1_2 loc1_3 loc1_4
  | .h3 t28 t29 t30 t126 loc1_0 loc1_1 loc1_2 loc1_3 loc1_4 => t15_h3 k rec t28 t29 t30 t126 loc1_0 loc1_1 loc1_2 loc1_3 loc1_4
noncomputable def g15 (k : Nat) (c0_0 : Int) (c0_1 : Int) (c0_2 : Rs) (c0_3 : Rs) (c0_4 : Rs) : Option R15 := itS step15 k (.e c0_0 c0_1 c0_2 c0_3 c0_4)
noncomputable def P15 : S15 → R15 → Prop
  | .e c0_0 c0_1 c0_2 c0_3 c0_4, r => Fin cx15 Try.f15 [.code body15] (fr0 Try.f15 [.ag [ic c0_0, ic c0_1, .imm c0_2, .imm c0_3, .imm c0_4]] []) (res15 r) (bx15 r)
  | .h0 t23 loc1_0 loc1_1 loc1_2 loc1_3 loc1_4, r => Fin cx15 Try.f15 (kAt body15 [1, 0, 1, 2] []) ⟨[.deadv, .c (.ptr ⟨⟨.loc 1, []⟩, 0, 0⟩)] ++ rep 21 .deadv ++ [.c (bc t23)] ++ rep 135 .deadv, [(.loc 1, [ic loc1_0, ic loc1_1, .imm loc1_2, .imm loc1_3, .imm loc1_4])]⟩ (res15 r) (bx15 r)
  | .h1 t28 t29 t30 loc1_0 loc1_1 loc1_2 loc1_3 loc1_4, r => Fin cx15 Try.f15 (kAt body15 [1, 1, 0, 1, 0, 4] []) ⟨[.deadv, .c (.ptr ⟨⟨.loc 1, []⟩, 0, 0⟩)] ++ rep 26 .deadv ++ [.c (.imm t28), .c (ic t29), .c (ic t30)] ++ rep 128 .deadv, [(.loc 1, [ic loc1_0, ic loc1_1, .imm loc1_2, .imm loc1_3, .imm loc1_4])]⟩ (res15 r) (bx15 r)
  | .h2 i3 ok5 t28 t29 t30 loc4_0 loc4_1 loc4_2 loc4_3 loc1_0 loc1_1 loc1_2 loc1_3 loc1_4, r => Fin cx15 Try.f15 (kAt body15 [1, 1, 0, 1, 0, 0, 1, 1, 0, 0, 1, 1, 1, 2] []) ⟨[.deadv, .c (.ptr ⟨⟨.loc 1, []⟩, 0, 0⟩), .deadv, .c (ic i3), .c (.ptr ⟨⟨.loc 4, []⟩, 0, 0⟩), .c (bc ok5)] ++ rep 22 .deadv ++ [.c (.imm t28), .c (ic t29), .c (ic t30)] ++ rep 128 .deadv, [(.loc 4, [ic loc4_0, ic loc4_1, ic loc4_2, ic loc4_3]), (.loc 1, [ic loc1_0, ic loc1_1, .imm loc1_2, .imm loc1_3, .imm loc1_4])]⟩ (res15 r) (bx15 r)
  | .h3 t28 t29 t30 t126 loc1_0 loc1_1 loc1_2 loc1_3 loc1_4, r => Fin cx15 Try.f15 (kAt body15 [1, 1, 0, 1, 0, 0, 1, 1, 0, 0, 1, 1, 1, 1, 2] []) ⟨[.deadv, .c (.ptr ⟨⟨.loc 1, []⟩, 0, 0⟩)] ++ rep 26 .deadv ++ [.c (.imm t28), .c (ic t29), .c (ic t30)] ++ rep 95 .deadv ++ [.c (bc t126)] ++ rep 32 .deadv, [(.loc 1, [ic loc1_0, ic loc1_1, .imm loc1_2, .imm loc1_3, .imm loc1_4])]⟩ (res15 r) (bx15 r)
theorem evr15 {c0_0 : Int} {c0_1 : Int} {c0_2 : Rs} {c0_3 : Rs} {c0_4 : Rs} {r : R15} (h : P15 (.e c0_0 c0_1 c0_2 c0_3 c0_4) r) : Ev Try.prog noHand 15 [.ag [ic c0_0, ic c0_1, .imm c0_2, .imm c0_3, .imm c0_4]] [] (res15 r) (bx15 r) := ev_of_fin (fn := Try.f15) (body := body15) (by kernel_rfl) (by kernel_rfl) (by kernel_rfl) rfl h
theorem t15_e_ok (k : Nat) (rec : S15 → Option R15) (ih : ∀ s r, rec s = some r → P15 s r) (c0_0 : Int) (c0_1 : Int) (c0_2 : Rs) (c0_3 : Rs) (c0_4 : Rs) (r : R15) (h : t15_e k rec c0_0 c0_1 c0_2 c0_3 c0_4 = some r) : P15 (.e c0_0 c0_1 c0_2 c0_3 c0_4) r := by
  unfold t15_e at h
  rcases bif_or h with ⟨h_x1, h⟩ | ⟨h_x1, h⟩
  ·
    exact mgo_at (nb := 0) hmix (ih _ _ h) (n := 5) (ad := [(some 9, .test true)]) (ps := [_]) (m := bm 159 730750818665451459101842416358141509827957882877) (ls := []) (cs := []) (by kernel_rfl) ⟨h_x1, trivial⟩
  ·
    rcases bif_or h with ⟨h_x2, h⟩ | ⟨h_x2, h⟩
    ·
      exact mgo_at (nb := 0) hmix (ih _ _ h) (n := 5) (ad := [(some 9, .test false), (some 13, .test true)]) (ps := [_, _]) (m := bm 159 730750818665451459101842416358141509827957882877) (ls := []) (cs := []) (by kernel_rfl) ⟨h_x1, h_x2, trivial⟩
    ·
      exact mgo_at (nb := 0) hmix (ih _ _ h) (n := 5) (ad := [(some 9, .test false), (some 13, .test false)]) (ps := [_, _]) (m := bm 159 730750818665451459101842416358141509827957882877) (ls := []) (cs := []) (by kernel_rfl) ⟨h_x1, h_x2, trivial⟩
theorem t15_h0_ok (k : Nat) (rec : S15 → Option R15) (ih : ∀ s r, rec s = some r → P15 s r) (t23 : Bool) (loc1_0 : Int) (loc1_1 : Int) (loc1_2 : Rs) (loc1_3 : Rs) (loc1_4 : Rs) (r : R15) (h : t15_h0 k rec t23 loc1_0 loc1_1 loc1_2 loc1_3 loc1_4 = some r) : P15 (.h0 t23 loc1_0 loc1_1 loc1_2 loc1_3 loc1_4) r := by
  unfold t15_h0 at h
  rcases bif_or h with ⟨hq, h1'⟩ | ⟨hq, h1'⟩
  · clear h; subst hq; have h := h1'; clear h1'
    rw [← Option.some.inj h]
    exact mgo_fin (nb := 0) hmix (n := 2000) (ad := []) (ps := []) (by kernel_rfl) trivial
  · clear h; subst hq; have h := h1'; clear h1'
    obtain ⟨h_x1, h⟩ := gd_or h
    exact mgo_at (nb := 0) hmix (ih _ _ h) (n := 7) (ad := [(some 28, .ok)]) (ps := [_]) (m := bm 159 730750818665451459101842416358141509826087223293) (ls := []) (cs := []) (by kernel_rfl) ⟨of_decide_eq_true h_x1, trivial⟩
theorem t15_h1_ok (k : Nat) (rec : S15 → Option R15) (ih : ∀ s r, rec s = some r → P15 s r) (t28 : Rs) (t29 : Int) (t30 : Int) (loc1_0 : Int) (loc1_1 : Int) (loc1_2 : Rs) (loc1_3 : Rs) (loc1_4 : Rs) (r : R15) (h : t15_h1 k rec t28 t29 t30 loc1_0 loc1_1 loc1_2 loc1_3 loc1_4 = some r) : P15 (.h1 t28 t29 t30 loc1_0 loc1_1 loc1_2 loc1_3 loc1_4) r := by
  unfold t15_h1 at h
  rcases bif_or h with ⟨h_x1, h⟩ | ⟨h_x1, h⟩
  ·
    obtain ⟨w_x2, h_x3, h⟩ := ixR_or h
    obtain ⟨op_x4, dst_x4, a_x4, b_x4, hq, h1'⟩ := un_i4_or h
    clear h; subst hq; have h := h1'; clear h1'
    rcases bif_or h with ⟨h_x5, h⟩ | ⟨h_x5, h⟩
    ·
      rcases bif_or h with ⟨h_x6, h⟩ | ⟨h_x6, h⟩
      ·
        rcases bif_or h with ⟨h_x7, h⟩ | ⟨h_x7, h⟩
        ·
          exact mgo_at (nb := 0) hmix (ih _ _ h) (n := 19) (ad := [(some 31, .test true), (some 33, .row [ic op_x4, ic dst_x4, ic a_x4, ic b_x4]), (some 38, .test true), (some 41, .test true), (some 48, .test true)]) (ps := [_, _, _, _, _]) (m := bm 159 730750818665451459101842416358141509826087223237) (ls := []) (cs := []) (by kernel_rfl) ⟨h_x1, ix_row h_x3 rfl, h_x5, h_x6, h_x7, trivial⟩
        ·
          exact mgo_at (nb := 0) hmix (ih _ _ h) (n := 19) (ad := [(some 31, .test true), (some 33, .row [ic op_x4, ic dst_x4, ic a_x4, ic b_x4]), (some 38, .test true), (some 41, .test true), (some 48, .test false)]) (ps := [_, _, _, _, _]) (m := bm 159 730750818665451459101842416358141509826087223237) (ls := []) (cs := []) (by kernel_rfl) ⟨h_x1, ix_row h_x3 rfl, h_x5, h_x6, h_x7, trivial⟩
      ·
        exact mgo_at (nb := 0) hmix (ih _ _ h) (n := 19) (ad := [(some 31, .test true), (some 33, .row [ic op_x4, ic dst_x4, ic a_x4, ic b_x4]), (some 38, .test true), (some 41, .test false)]) (ps := [_, _, _, _]) (m := bm 159 730750818665451459101842416358141509826087223237) (ls := []) (cs := []) (by kernel_rfl) ⟨h_x1, ix_row h_x3 rfl, h_x5, h_x6, trivial⟩
    ·
      rcases bif_or h with ⟨h_x6, h⟩ | ⟨h_x6, h⟩
      ·
        rcases bif_or h with ⟨h_x7, h⟩ | ⟨h_x7, h⟩
        ·
          rcases bif_or h with ⟨h_x8, h⟩ | ⟨h_x8, h⟩
          ·
            exact mgo_at (nb := 0) hmix (ih _ _ h) (n := 22) (ad := [(some 31, .test true), (some 33, .row [ic op_x4, ic dst_x4, ic a_x4, ic b_x4]), (some 38, .test false), (some 58, .test true), (some 61, .test true), (some 68, .test true)]) (ps := [_, _, _, _, _, _]) (m := bm 159 730750818665451459101842416358141509826087223237) (ls := []) (cs := []) (by kernel_rfl) ⟨h_x1, ix_row h_x3 rfl, h_x5, h_x6, h_x7, h_x8, trivial⟩
          ·
            exact mgo_at (nb := 0) hmix (ih _ _ h) (n := 22) (ad := [(some 31, .test true), (some 33, .row [ic op_x4, ic dst_x4, ic a_x4, ic b_x4]), (some 38, .test false), (some 58, .test true), (some 61, .test true), (some 68, .test false)]) (ps := [_, _, _, _, _, _]) (m := bm 159 730750818665451459101842416358141509826087223237) (ls := []) (cs := []) (by kernel_rfl) ⟨h_x1, ix_row h_x3 rfl, h_x5, h_x6, h_x7, h_x8, trivial⟩
        ·
          exact mgo_at (nb := 0) hmix (ih _ _ h) (n := 22) (ad := [(some 31, .test true), (some 33, .row [ic op_x4, ic dst_x4, ic a_x4, ic b_x4]), (some 38, .test false), (some 58, .test true), (some 61, .test false)]) (ps := [_, _, _, _, _]) (m := bm 159 730750818665451459101842416358141509826087223237) (ls := []) (cs := []) (by kernel_rfl) ⟨h_x1, ix_row h_x3 rfl, h_x5, h_x6, h_x7, trivial⟩
      ·
        obtain ⟨v_x7, h_x8, h⟩ := bd_or h
        rcases bif_or h with ⟨h_x9, h⟩ | ⟨h_x9, h⟩
        ·
          rcases bif_or h with ⟨h_x10, h⟩ | ⟨h_x10, h⟩
          ·
            rcases bif_or h with ⟨h_x11, h⟩ | ⟨h_x11, h⟩
            ·
              exact mgo_at (nb := 0) hmix (ih _ _ h) (n := 25) (ad := [(some 31, .test true), (some 33, .row [ic op_x4, ic dst_x4, ic a_x4, ic b_x4]), (some 38, .test false), (some 58, .test false), (some 78, .call (.ret (.c (ic v_x7))) [] false), (some 79, .test true), (some 82, .test true), (some 87, .test true)]) (ps := [_, _, _, _, _, _, _, _]) (m := bm 159 730750818665451459101842416358141509826087223237) (ls := []) (cs := []) (by kernel_rfl) ⟨h_x1, ix_row h_x3 rfl, h_x5, h_x6, (ev30 h_x8), h_x9, h_x10, h_x11, trivial⟩
            ·
              exact mgo_at (nb := 0) hmix (ih _ _ h) (n := 25) (ad := [(some 31, .test true), (some 33, .row [ic op_x4, ic dst_x4, ic a_x4, ic b_x4]), (some 38, .test false), (some 58, .test false), (some 78, .call (.ret (.c (ic v_x7))) [] false), (some 79, .test true), (some 82, .test true), (some 87, .test false)]) (ps := [_, _, _, _, _, _, _, _]) (m := bm 159 730750818665451459101842416358141509826087223237) (ls := []) (cs := []) (by kernel_rfl) ⟨h_x1, ix_row h_x3 rfl, h_x5, h_x6, (ev30 h_x8), h_x9, h_x10, h_x11, trivial⟩
          ·
            exact mgo_at (nb := 0) hmix (ih _ _ h) (n := 25) (ad := [(some 31, .test true), (some 33, .row [ic op_x4, ic dst_x4, ic a_x4, ic b_x4]), (some 38, .test false), (some 58, .test false), (some 78, .call (.ret (.c (ic v_x7))) [] false), (some 79, .test true), (some 82, .test false)]) (ps := [_, _, _, _, _, _, _]) (m := bm 159 730750818665451459101842416358141509826087223237) (ls := []) (cs := []) (by kernel_rfl) ⟨h_x1, ix_row h_x3 rfl, h_x5, h_x6, (ev30 h_x8), h_x9, h_x10, trivial⟩
        ·
          rcases bif_or h with ⟨h_x10, h⟩ | ⟨h_x10, h⟩
          ·
            rcases bif_or h with ⟨h_x11, h⟩ | ⟨h_x11, h⟩
            ·
              rcases bif_or h with ⟨h_x12, h⟩ | ⟨h_x12, h⟩
              ·
                rcases bif_or h with ⟨h_x13, h⟩ | ⟨h_x13, h⟩
                ·
                  exact mgo_at (nb := 0) hmix (ih _ _ h) (n := 28) (ad := [(some 31, .test true), (some 33, .row [ic op_x4, ic dst_x4, ic a_x4, ic b_x4]), (some 38, .test false), (some 58, .test false), (some 78, .call (.ret (.c (ic v_x7))) [] false), (some 79, .test false), (some 97, .call (.ret (.c (ic v_x7))) [] false), (some 98, .test true), (some 101, .test true), (some 106, .test true), (some 111, .test true)]) (ps := [_, _, _, _, _, _, _, _, _, _, _]) (m := bm 159 730750818665451459101842416358141509826087223237) (ls := []) (cs := []) (by kernel_rfl) ⟨h_x1, ix_row h_x3 rfl, h_x5, h_x6, (ev30 h_x8), h_x9, (ev30 h_x8), h_x10, h_x11, h_x12, h_x13, trivial⟩
                ·
                  exact mgo_at (nb := 0) hmix (ih _ _ h) (n := 28) (ad := [(some 31, .test true), (some 33, .row [ic op_x4, ic dst_x4, ic a_x4, ic b_x4]), (some 38, .test false), (some 58, .test false), (some 78, .call (.ret (.c (ic v_x7))) [] false), (some 79, .test false), (some 97, .call (.ret (.c (ic v_x7))) [] false), (some 98, .test true), (some 101, .test true), (some 106, .test true), (some 111, .test false)]) (ps := [_, _, _, _, _, _, _, _, _, _, _]) (m := bm 159 730750818665451459101842416358141509826087223237) (ls := []) (cs := []) (by kernel_rfl) ⟨h_x1, ix_row h_x3 rfl, h_x5, h_x6, (ev30 h_x8), h_x9, (ev30 h_x8), h_x10, h_x11, h_x12, h_x13, trivial⟩
              ·
                exact mgo_at (nb := 0) hmix (ih _ _ h) (n := 28) (ad := [(some 31, .test true), (some 33, .row [ic op_x4, ic dst_x4, ic a_x4, ic b_x4]), (some 38, .test false), (some 58, .test false), (some 78, .call (.ret (.c (ic v_x7))) [] false), (some 79, .test false), (some 97, .call (.ret (.c (ic v_x7))) [] false), (some 98, .test true), (some 101, .test true), (some 106, .test false)]) (ps := [_, _, _, _, _, _, _, _, _, _]) (m := bm 159 730750818665451459101842416358141509826087223237) (ls := []) (cs := []) (by kernel_rfl) ⟨h_x1, ix_row h_x3 rfl, h_x5, h_x6, (ev30 h_x8), h_x9, (ev30 h_x8), h_x10, h_x11, h_x12, trivial⟩
            ·
              exact mgo_at (nb := 0) hmix (ih _ _ h) (n := 28) (ad := [(some 31, .test true), (some 33, .row [ic op_x4, ic dst_x4, ic a_x4, ic b_x4]), (some 38, .test false), (some 58, .test false), (some 78, .call (.ret (.c (ic v_x7))) [] false), (some 79, .test false), (some 97, .call (.ret (.c (ic v_x7))) [] false), (some 98, .test true), (some 101, .test false)]) (ps := [_, _, _, _, _, _, _, _, _]) (m := bm 159 730750818665451459101842416358141509826087223237) (ls := []) (cs := []) (by kernel_rfl) ⟨h_x1, ix_row h_x3 rfl, h_x5, h_x6, (ev30 h_x8), h_x9, (ev30 h_x8), h_x10, h_x11, trivial⟩
          ·
            exact mgo_at (nb := 0) hmix (ih _ _ h) (n := 28) (ad := [(some 31, .test true), (some 33, .row [ic op_x4, ic dst_x4, ic a_x4, ic b_x4]), (some 38, .test false), (some 58, .test false), (some 78, .call (.ret (.c (ic v_x7))) [] false), (some 79, .test false), (some 97, .call (.ret (.c (ic v_x7))) [] false), (some 98, .test false)]) (ps := [_, _, _, _, _, _, _, _]) (m := bm 159 730750818665451459101842416358141509826087223237) (ls := []) (cs := []) (by kernel_rfl) ⟨h_x1, ix_row h_x3 rfl, h_x5, h_x6, (ev30 h_x8), h_x9, (ev30 h_x8), h_x10, trivial⟩
  ·
    obtain ⟨w_x2, h_x3, h⟩ := ixR_or h
    obtain ⟨op_x4, dst_x4, a_x4, b_x4, hq, h1'⟩ := un_i4_or h
    clear h; subst hq; have h := h1'; clear h1'
    rcases bif_or h with ⟨h_x5, h⟩ | ⟨h_x5, h⟩
    ·
      rcases bif_or h with ⟨h_x6, h⟩ | ⟨h_x6, h⟩
      ·
        rcases bif_or h with ⟨h_x7, h⟩ | ⟨h_x7, h⟩
        ·
          rcases bif_or h with ⟨h_x8, h⟩ | ⟨h_x8, h⟩
          ·
            rw [← Option.some.inj h]
            exact mgo_fin (nb := 0) hmix (n := 2000) (ad := [(some 31, .test false), (some 132, .row [ic op_x4, ic dst_x4, ic a_x4, ic b_x4]), (some 136, .test true), (some 140, .test true), (some 145, .test true), (some 150, .test true)]) (ps := [_, _, _, _, _, _]) (by kernel_rfl) ⟨h_x1, ix_row h_x3 rfl, h_x5, h_x6, h_x7, h_x8, trivial⟩
          ·
            rw [← Option.some.inj h]
            exact mgo_fin (nb := 0) hmix (n := 2000) (ad := [(some 31, .test false), (some 132, .row [ic op_x4, ic dst_x4, ic a_x4, ic b_x4]), (some 136, .test true), (some 140, .test true), (some 145, .test true), (some 150, .test false)]) (ps := [_, _, _, _, _, _]) (by kernel_rfl) ⟨h_x1, ix_row h_x3 rfl, h_x5, h_x6, h_x7, h_x8, trivial⟩
        ·
          rw [← Option.some.inj h]
          exact mgo_fin (nb := 0) hmix (n := 2000) (ad := [(some 31, .test false), (some 132, .row [ic op_x4, ic dst_x4, ic a_x4, ic b_x4]), (some 136, .test true), (some 140, .test true), (some 145, .test false)]) (ps := [_, _, _, _, _]) (by kernel_rfl) ⟨h_x1, ix_row h_x3 rfl, h_x5, h_x6, h_x7, trivial⟩
      ·
        rw [← Option.some.inj h]
        exact mgo_fin (nb := 0) hmix (n := 2000) (ad := [(some 31, .test false), (some 132, .row [ic op_x4, ic dst_x4, ic a_x4, ic b_x4]), (some 136, .test true), (some 140, .test false)]) (ps := [_, _, _, _]) (by kernel_rfl) ⟨h_x1, ix_row h_x3 rfl, h_x5, h_x6, trivial⟩
    ·
      rw [← Option.some.inj h]
      exact mgo_fin (nb := 0) hmix (n := 2000) (ad := [(some 31, .test false), (some 132, .row [ic op_x4, ic dst_x4, ic a_x4, ic b_x4]), (some 136, .test false)]) (ps := [_, _, _]) (by kernel_rfl) ⟨h_x1, ix_row h_x3 rfl, h_x5, trivial⟩
theorem t15_h2_ok (k : Nat) (rec : S15 → Option R15) (ih : ∀ s r, rec s = some r → P15 s r) (i3 : Int) (ok5 : Bool) (t28 : Rs) (t29 : Int) (t30 : Int) (loc4_0 : Int) (loc4_1 : Int) (loc4_2 : Int) (loc4_3 : Int) (loc1_0 : Int) (loc1_1 : Int) (loc1_2 : Rs) (loc1_3 : Rs) (loc1_4 : Rs) (r : R15) (h : t15_h2 k rec i3 ok5 t28 t29 t30 loc4_0 loc4_1 loc4_2 loc4_3 loc1_0 loc1_1 loc1_2 loc1_3 loc1_4 = some r) : P15 (.h2 i3 ok5 t28 t29 t30 loc4_0 loc4_1 loc4_2 loc4_3 loc1_0 loc1_1 loc1_2 loc1_3 loc1_4) r := by
  unfold t15_h2 at h
  rcases bif_or h with ⟨h_x1, h⟩ | ⟨h_x1, h⟩
  ·
    exact mgo_at (nb := 0) hmix (ih _ _ h) (n := 2) (ad := [(some 120, .test true)]) (ps := [_]) (m := bm 159 730750818580380867371607800492297857968145170429) (ls := [4]) (cs := []) (by kernel_rfl) ⟨h_x1, trivial⟩
  ·
    exact mgo_at (nb := 0) hmix (ih _ _ h) (n := 2) (ad := [(some 120, .test false)]) (ps := [_]) (m := bm 159 730750818580380867371607800492297857968145170429) (ls := [4]) (cs := []) (by kernel_rfl) ⟨h_x1, trivial⟩
theorem t15_h3_ok (k : Nat) (rec : S15 → Option R15) (ih : ∀ s r, rec s = some r → P15 s r) (t28 : Rs) (t29 : Int) (t30 : Int) (t126 : Bool) (loc1_0 : Int) (loc1_1 : Int) (loc1_2 : Rs) (loc1_3 : Rs) (loc1_4 : Rs) (r : R15) (h : t15_h3 k rec t28 t29 t30 t126 loc1_0 loc1_1 loc1_2 loc1_3 loc1_4 = some r) : P15 (.h3 t28 t29 t30 t126 loc1_0 loc1_1 loc1_2 loc1_3 loc1_4) r := by
  unfold t15_h3 at h
  rcases bif_or h with ⟨hq, h1'⟩ | ⟨hq, h1'⟩
  · clear h; subst hq; have h := h1'; clear h1'
    rw [← Option.some.inj h]
    exact mgo_fin (nb := 0) hmix (n := 2000) (ad := []) (ps := []) (by kernel_rfl) trivial
  · clear h; subst hq; have h := h1'; clear h1'
    exact mgo_at (nb := 0) hmix (ih _ _ h) (n := 4) (ad := []) (ps := []) (m := bm 159 730750818665451459101842416358141509826087223293) (ls := []) (cs := []) (by kernel_rfl) trivial
theorem ok15 : ∀ k s r, itS step15 k s = some r → P15 s r := itS_ok fun k rec ih s r h => match s, h with
  | .e c0_0 c0_1 c0_2 c0_3 c0_4, h => t15_e_ok k rec ih c0_0 c0_1 c0_2 c0_3 c0_4 r h
  | .h0 t23 loc1_0 loc1_1 loc1_2 loc1_3 loc1_4, h => t15_h0_ok k rec ih t23 loc1_0 loc1_1 loc1_2 loc1_3 loc1_4 r h
  | .h1 t28 t29 t30 loc1_0 loc1_1 loc1_2 loc1_3 loc1_4, h => t15_h1_ok k rec ih t28 t29 t30 loc1_0 loc1_1 loc1_2 loc1_3 loc1_4 r h
  | .h2 i3 ok5 t28 t29 t30 loc4_0 loc4_1 loc4_2 loc4_3 loc1_0 loc1_1 loc1_2 loc1_3 loc1_4, h => t15_h2_ok k rec ih i3 ok5 t28 t29 t30 loc4_0 loc4_1 loc4_2 loc4_3 loc1_0 loc1_1 loc1_2 loc1_3 loc1_4 r h
  | .h3 t28 t29 t30 t126 loc1_0 loc1_1 loc1_2 loc1_3 loc1_4, h => t15_h3_ok k rec ih t28 t29 t30 t126 loc1_0 loc1_1 loc1_2 loc1_3 loc1_4 r h
theorem ev15 {k : Nat} {c0_0 : Int} {c0_1 : Int} {c0_2 : Rs} {c0_3 : Rs} {c0_4 : Rs} {r : R15} (h : g15 k c0_0 c0_1 c0_2 c0_3 c0_4 = some r) : Ev Try.prog noHand 15 [.ag [ic c0_0, ic c0_1, .imm c0_2, .imm c0_3, .imm c0_4]] [] (res15 r) (bx15 r) := evr15 (ok15 _ _ _ h)
-- auspice/auspicelaw17.SsaMakes
inductive S3 where
  | e (l0 : Rs) (share1 : Bool)
  | h0 (l0 : Rs) (share1 : Bool) (n5 : Int) (t13 : Int) (t14 : Int)
abbrev R3 := Bool
def res3 : R3 → ARes
  | r => .ret (.c (bc r))
def bx3 : R3 → List (List Cell)
  | r => []
noncomputable def t3_e (k : Nat) (rec : S3 → Option R3) (l0 : Rs) (share1 : Bool) : Option R3 :=
  rec (.h0 l0 share1 0 (l0.length : Int) 0)
noncomputable def t3_h0 (k : Nat) (rec : S3 → Option R3) (l0 : Rs) (share1 : Bool) (n5 : Int) (t13 : Int) (t14 : Int) : Option R3 :=
  bif decide (t14 < t13) then
    ixR l0 t14 fun w_x2 =>
    un_iimiuii w_x2 fun op_x4 kind_x4 args_x4 valueKind_x4 valueBits_x4 pos_x4 attr_x4 =>
    (g8 k op_x4 kind_x4 args_x4 valueKind_x4 valueBits_x4 pos_x4 attr_x4).bind fun v_x5 =>
    rec (.h0 l0 share1 (IntKind.i64.wrap (n5 + v_x5)) t13 (IntKind.i64.wrap (t14 + 1)))
  else
    bif decide (n5 > 1500) then
      some true
    else
      (g10 k l0).bind fun v_x3 =>
      (g11 k (immRs v_x3) share1).bind fun v_x5 =>
      tup6 v_x5 fun r00_x7 r01_x7 r02_x7 r03_x7 r04_x7 r10_x7 =>
      (g12 k l0 share1).bind fun v_x8 =>
      tup6 v_x8 fun r00_x10 r01_x10 r02_x10 r03_x10 r04_x10 r10_x10 =>
      (g13 k r00_x7 r01_x7 r02_x7 r03_x7 r04_x7 r00_x10 r01_x10 r02_x10 r03_x10 r04_x10).bind fun v_x11 =>
      bif v_x11 then
        bif r10_x7 == r10_x10 then
          (g14 k (immRs v_x3) l0).bind fun v_x14 =>
          bif v_x14 then
            bif r10_x7 != 0 then
              some true
            else
              (g15 k r00_x7 r01_x7 r02_x7 r03_x7 r04_x7).bind fun v_x17 =>
              some v_x17
          else
            some false
        else
          some false
      else
        some false
noncomputable def step3 (k : Nat) (rec : S3 → Option R3) : S3 → Option R3
  | .e l0 share1 => t3_e k rec l0 share1
  | .h0 l0 share1 n5 t13 t14 => t3_h0 k rec l0 share1 n5 t13 t14
noncomputable def g3 (k : Nat) (l0 : Rs) (share1 : Bool) : Option R3 := itS step3 k (.e l0 share1)
noncomputable def P3 : S3 → R3 → Prop
  | .e l0 share1, r => Fin cx3 Try.f3 [.code body3] (fr0 Try.f3 [.c (.imm l0), .c (bc share1)] []) (res3 r) (bx3 r)
  | .h0 l0 share1 n5 t13 t14, r => Fin cx3 Try.f3 (kAt body3 [1, 1, 0, 1, 0, 4] []) ⟨[.c (.imm l0), .c (bc share1)] ++ rep 3 .deadv ++ [.c (ic n5)] ++ rep 7 .deadv ++ [.c (ic t13), .c (ic t14)] ++ rep 51 .deadv, []⟩ (res3 r) (bx3 r)
theorem evr3 {l0 : Rs} {share1 : Bool} {r : R3} (h : P3 (.e l0 share1) r) : Ev Try.prog noHand 3 [.c (.imm l0), .c (bc share1)] [] (res3 r) (bx3 r) := ev_of_fin (fn := Try.f3) (body := body3) (by kernel_rfl) (by kernel_rfl) (by kernel_rfl) rfl h
theorem t3_e_ok (k : Nat) (rec : S3 → Option R3) (ih : ∀ s r, rec s = some r → P3 s r) (l0 : Rs) (share1 : Bool) (r : R3) (h : t3_e k rec l0 share1 = some r) : P3 (.e l0 share1) r := by
  unfold t3_e at h
  exact mgo_at (nb := 0) hmix (ih _ _ h) (n := 9) (ad := []) (ps := []) (m := bm 66 73786976294838181852) (ls := []) (cs := []) (by kernel_rfl) trivial
theorem t3_h0_ok (k : Nat) (rec : S3 → Option R3) (ih : ∀ s r, rec s = some r → P3 s r) (l0 : Rs) (share1 : Bool) (n5 : Int) (t13 : Int) (t14 : Int) (r : R3) (h : t3_h0 k rec l0 share1 n5 t13 t14 = some r) : P3 (.h0 l0 share1 n5 t13 t14) r := by
  unfold t3_h0 at h
  rcases bif_or h with ⟨h_x1, h⟩ | ⟨h_x1, h⟩
  ·
    obtain ⟨w_x2, h_x3, h⟩ := ixR_or h
    obtain ⟨op_x4, kind_x4, args_x4, valueKind_x4, valueBits_x4, pos_x4, attr_x4, hq, h1'⟩ := un_iimiuii_or h
    clear h; subst hq; have h := h1'; clear h1'
    obtain ⟨v_x5, h_x6, h⟩ := bd_or h
    exact mgo_at (nb := 0) hmix (ih _ _ h) (n := 13) (ad := [(some 15, .test true), (some 20, .row [ic op_x4, ic kind_x4, .imm args_x4, ic valueKind_x4, .val (.int .u64 valueBits_x4), ic pos_x4, ic attr_x4]), (some 22, .call (.ret (.c (ic v_x5))) [] false)]) (ps := [_, _, _]) (m := bm 66 73786976294838181852) (ls := []) (cs := []) (by kernel_rfl) ⟨h_x1, ix_row h_x3 rfl, (ev8 h_x6), trivial⟩
  ·
    rcases bif_or h with ⟨h_x2, h⟩ | ⟨h_x2, h⟩
    ·
      rw [← Option.some.inj h]
      exact mgo_fin (nb := 0) hmix (n := 2000) (ad := [(some 15, .test false), (some 26, .test true), (some 27, .call (.ret (.c (bc true))) [] false)]) (ps := [_, _, _]) (by kernel_rfl) ⟨h_x1, h_x2, clA_89, trivial⟩
    ·
      obtain ⟨v_x3, h_x4, h⟩ := bd_or h
      obtain ⟨v_x5, h_x6, h⟩ := bd_or h
      obtain ⟨r00_x7, r01_x7, r02_x7, r03_x7, r04_x7, r10_x7, hq, h1'⟩ := tup6_or h
      clear h; subst hq; have h := h1'; clear h1'
      obtain ⟨v_x8, h_x9, h⟩ := bd_or h
      obtain ⟨r00_x10, r01_x10, r02_x10, r03_x10, r04_x10, r10_x10, hq, h1'⟩ := tup6_or h
      clear h; subst hq; have h := h1'; clear h1'
      obtain ⟨v_x11, h_x12, h⟩ := bd_or h
      rcases bif_or h with ⟨hq, h1'⟩ | ⟨hq, h1'⟩
      · clear h; subst hq; have h := h1'; clear h1'
        rcases bif_or h with ⟨h_x13, h⟩ | ⟨h_x13, h⟩
        ·
          obtain ⟨v_x14, h_x15, h⟩ := bd_or h
          rcases bif_or h with ⟨hq, h1'⟩ | ⟨hq, h1'⟩
          · clear h; subst hq; have h := h1'; clear h1'
            rcases bif_or h with ⟨h_x16, h⟩ | ⟨h_x16, h⟩
            ·
              rw [← Option.some.inj h]
              exact mgo_fin (nb := 0) hmix (n := 2000) (ad := [(some 15, .test false), (some 26, .test false), (some 29, .call (.ret (.c (.own 7 v_x3))) [] false), (some 33, .call (.ret ⟨.tup [true, false], [[ic r00_x7, ic r01_x7, .imm r02_x7, .imm r03_x7, .imm r04_x7], [ic r10_x7]]⟩) [] false), (some 39, .call (.ret ⟨.tup [true, false], [[ic r00_x10, ic r01_x10, .imm r02_x10, .imm r03_x10, .imm r04_x10], [ic r10_x10]]⟩) [] false), (some 42, .call (.ret (.c (bc true))) [] false), (some 46, .call (.ret (.c (bc true))) [] false), (some 51, .test true), (some 56, .call (.ret (.c (bc true))) [] false), (some 60, .test true)]) (ps := [_, _, _, _, _, _, _, _, _, _, _]) (by kernel_rfl) ⟨h_x1, h_x2, (ev10 h_x4), (ev11 h_x6), (rfl : false = false), (ev12 h_x9), clA_89, (ev13 h_x12), h_x13, (ev14 h_x15), h_x16, trivial⟩
            ·
              obtain ⟨v_x17, h_x18, h⟩ := bd_or h
              rw [← Option.some.inj h]
              exact mgo_fin (nb := 0) hmix (n := 2000) (ad := [(some 15, .test false), (some 26, .test false), (some 29, .call (.ret (.c (.own 7 v_x3))) [] false), (some 33, .call (.ret ⟨.tup [true, false], [[ic r00_x7, ic r01_x7, .imm r02_x7, .imm r03_x7, .imm r04_x7], [ic r10_x7]]⟩) [] false), (some 39, .call (.ret ⟨.tup [true, false], [[ic r00_x10, ic r01_x10, .imm r02_x10, .imm r03_x10, .imm r04_x10], [ic r10_x10]]⟩) [] false), (some 42, .call (.ret (.c (bc true))) [] false), (some 46, .call (.ret (.c (bc true))) [] false), (some 51, .test true), (some 56, .call (.ret (.c (bc true))) [] false), (some 60, .test false), (some 63, .call (.ret (.c (bc v_x17))) [] false)]) (ps := [_, _, _, _, _, _, _, _, _, _, _, _]) (by kernel_rfl) ⟨h_x1, h_x2, (ev10 h_x4), (ev11 h_x6), (rfl : false = false), (ev12 h_x9), clA_89, (ev13 h_x12), h_x13, (ev14 h_x15), h_x16, (ev15 h_x18), trivial⟩
          · clear h; subst hq; have h := h1'; clear h1'
            rw [← Option.some.inj h]
            exact mgo_fin (nb := 0) hmix (n := 2000) (ad := [(some 15, .test false), (some 26, .test false), (some 29, .call (.ret (.c (.own 7 v_x3))) [] false), (some 33, .call (.ret ⟨.tup [true, false], [[ic r00_x7, ic r01_x7, .imm r02_x7, .imm r03_x7, .imm r04_x7], [ic r10_x7]]⟩) [] false), (some 39, .call (.ret ⟨.tup [true, false], [[ic r00_x10, ic r01_x10, .imm r02_x10, .imm r03_x10, .imm r04_x10], [ic r10_x10]]⟩) [] false), (some 42, .call (.ret (.c (bc true))) [] false), (some 46, .call (.ret (.c (bc true))) [] false), (some 51, .test true), (some 56, .call (.ret (.c (bc false))) [] false)]) (ps := [_, _, _, _, _, _, _, _, _, _]) (by kernel_rfl) ⟨h_x1, h_x2, (ev10 h_x4), (ev11 h_x6), (rfl : false = false), (ev12 h_x9), clA_89, (ev13 h_x12), h_x13, (ev14 h_x15), trivial⟩
        ·
          rw [← Option.some.inj h]
          exact mgo_fin (nb := 0) hmix (n := 2000) (ad := [(some 15, .test false), (some 26, .test false), (some 29, .call (.ret (.c (.own 7 v_x3))) [] false), (some 33, .call (.ret ⟨.tup [true, false], [[ic r00_x7, ic r01_x7, .imm r02_x7, .imm r03_x7, .imm r04_x7], [ic r10_x7]]⟩) [] false), (some 39, .call (.ret ⟨.tup [true, false], [[ic r00_x10, ic r01_x10, .imm r02_x10, .imm r03_x10, .imm r04_x10], [ic r10_x10]]⟩) [] false), (some 42, .call (.ret (.c (bc true))) [] false), (some 46, .call (.ret (.c (bc true))) [] false), (some 51, .test false)]) (ps := [_, _, _, _, _, _, _, _, _]) (by kernel_rfl) ⟨h_x1, h_x2, (ev10 h_x4), (ev11 h_x6), (rfl : false = false), (ev12 h_x9), clA_89, (ev13 h_x12), h_x13, trivial⟩
      · clear h; subst hq; have h := h1'; clear h1'
        rw [← Option.some.inj h]
        exact mgo_fin (nb := 0) hmix (n := 2000) (ad := [(some 15, .test false), (some 26, .test false), (some 29, .call (.ret (.c (.own 7 v_x3))) [] false), (some 33, .call (.ret ⟨.tup [true, false], [[ic r00_x7, ic r01_x7, .imm r02_x7, .imm r03_x7, .imm r04_x7], [ic r10_x7]]⟩) [] false), (some 39, .call (.ret ⟨.tup [true, false], [[ic r00_x10, ic r01_x10, .imm r02_x10, .imm r03_x10, .imm r04_x10], [ic r10_x10]]⟩) [] false), (some 42, .call (.ret (.c (bc true))) [] false), (some 46, .call (.ret (.c (bc false))) [] false)]) (ps := [_, _, _, _, _, _, _, _]) (by kernel_rfl) ⟨h_x1, h_x2, (ev10 h_x4), (ev11 h_x6), (rfl : false = false), (ev12 h_x9), clA_89, (ev13 h_x12), trivial⟩
theorem ok3 : ∀ k s r, itS step3 k s = some r → P3 s r := itS_ok fun k rec ih s r h => match s, h with
  | .e l0 share1, h => t3_e_ok k rec ih l0 share1 r h
  | .h0 l0 share1 n5 t13 t14, h => t3_h0_ok k rec ih l0 share1 n5 t13 t14 r h
theorem ev3 {k : Nat} {l0 : Rs} {share1 : Bool} {r : R3} (h : g3 k l0 share1 = some r) : Ev Try.prog noHand 3 [.c (.imm l0), .c (bc share1)] [] (res3 r) (bx3 r) := evr3 (ok3 _ _ _ h)
-- auspice/auspicelaw17.SsaShares
inductive S5 where
  | e (l0 : Rs)
  | h0 (e4 : Int) (f6 : Int) (t29 : Bool) (loc5_0 : Int) (loc5_1 : Int) (loc5_2 : Rs) (loc5_3 : Rs) (loc5_4 : Rs) (loc3_0 : Int) (loc3_1 : Int) (loc3_2 : Rs) (loc3_3 : Rs) (loc3_4 : Rs)
  | h1 (seen7 : Es) (t44 : Rs) (t45 : Int) (t46 : Int) (loc5_0 : Int) (loc5_1 : Int) (loc5_2 : Rs) (loc5_3 : Rs) (loc5_4 : Rs) (loc3_0 : Int) (loc3_1 : Int) (loc3_2 : Rs) (loc3_3 : Rs) (loc3_4 : Rs)
  | h2 (seen7 : Es) (t44 : Rs) (t45 : Int) (t46 : Int) (t53 : Bool) (loc9_0 : Int) (loc9_1 : Int) (loc9_2 : Int) (loc9_3 : Int) (loc5_0 : Int) (loc5_1 : Int) (loc5_2 : Rs) (loc5_3 : Rs) (loc5_4 : Rs) (loc3_0 : Int) (loc3_1 : Int) (loc3_2 : Rs) (loc3_3 : Rs) (loc3_4 : Rs)
  | h3 (seen7 : Es) (t44 : Rs) (t45 : Int) (t46 : Int) (loc5_0 : Int) (loc5_1 : Int) (loc5_2 : Rs) (loc5_3 : Rs) (loc5_4 : Rs) (loc3_0 : Int) (loc3_1 : Int) (loc3_2 : Rs) (loc3_3 : Rs) (loc3_4 : Rs)
abbrev R5 := Bool
def res5 : R5 → ARes
  | r => .ret (.c (bc r))
def bx5 : R5 → List (List Cell)
  | r => []
noncomputable def t5_e (k : Nat) (rec : S5 → Option R5) (l0 : Rs) : Option R5 :=
  (g11 k l0 true).bind fun v_x1 =>
  tup6 v_x1 fun r00_x3 r01_x3 r02_x3 r03_x3 r04_x3 r10_x3 =>
  (g11 k l0 false).bind fun v_x4 =>
  tup6 v_x4 fun r00_x6 r01_x6 r02_x6 r03_x6 r04_x6 r10_x6 =>
  bif r10_x3 != 0 then
    rec (.h0 r10_x3 r10_x6 true r00_x6 r01_x6 r02_x6 r03_x6 r04_x6 r00_x3 r01_x3 r02_x3 r03_x3 r04_x3)
  else
    rec (.h0 r10_x3 r10_x6 (r10_x6 != 0) r00_x6 r01_x6 r02_x6 r03_x6 r04_x6 r00_x3 r01_x3 r02_x3 r03_x3 r04_x3)
noncomputable def t5_h0 (k : Nat) (rec : S5 → Option R5) (e4 : Int) (f6 : Int) (t29 : Bool) (loc5_0 : Int) (loc5_1 : Int) (loc5_2 : Rs) (loc5_3 : Rs) (loc5_4 : Rs) (loc3_0 : Int) (loc3_1 : Int) (loc3_2 : Rs) (loc3_3 : Rs) (loc3_4 : Rs) : Option R5 :=
  bif t29 then
    bif e4 != 0 then
      some true
    else
      some (f6 == 2)
  else
    gd (slOk 0 loc3_0 loc3_4 4) <|
    rec (.h1 [] (List.drop (Int.toNat 0) (List.take (Int.toNat loc3_0) loc3_4)) ((List.drop (Int.toNat 0) (List.take (Int.toNat loc3_0) loc3_4)).length : Int) 0 loc5_0 loc5_1 loc5_2 loc5_3 loc5_4 loc3_0 loc3_1 loc3_2 loc3_3 loc3_4)
noncomputable def t5_h1 (k : Nat) (rec : S5 → Option R5) (seen7 : Es) (t44 : Rs) (t45 : Int) (t46 : Int) (loc5_0 : Int) (loc5_1 : Int) (loc5_2 : Rs) (loc5_3 : Rs) (loc5_4 : Rs) (loc3_0 : Int) (loc3_1 : Int) (loc3_2 : Rs) (loc3_3 : Rs) (loc3_4 : Rs) : Option R5 :=
  bif decide (t46 < t45) then
    ixR t44 t46 fun w_x2 =>
    un_i4 w_x2 fun op_x4 dst_x4 a_x4 b_x4 =>
    (mapFind Try.prog 48 (.agg #[.int .i64 op_x4, .int .i64 0, .int .i64 a_x4, .int .i64 b_x4]) seen7).bind fun e_x5 =>
    optC e_x5 (
        rec (.h2 seen7 t44 t45 t46 false op_x4 0 a_x4 b_x4 loc5_0 loc5_1 loc5_2 loc5_3 loc5_4 loc3_0 loc3_1 loc3_2 loc3_3 loc3_4)) fun w_x7 =>
      un_b w_x7 fun x_x8 =>
      rec (.h2 seen7 t44 t45 t46 x_x8 op_x4 0 a_x4 b_x4 loc5_0 loc5_1 loc5_2 loc5_3 loc5_4 loc3_0 loc3_1 loc3_2 loc3_3 loc3_4)
  else
    bif decide (loc3_0 ≤ loc5_0) then
      bif (loc3_2.length : Int) == (loc5_2.length : Int) then
        some ((loc3_3.length : Int) == (loc5_3.length : Int))
      else
        some false
    else
      some false
noncomputable def t5_h2 (k : Nat) (rec : S5 → Option R5) (seen7 : Es) (t44 : Rs) (t45 : Int) (t46 : Int) (t53 : Bool) (loc9_0 : Int) (loc9_1 : Int) (loc9_2 : Int) (loc9_3 : Int) (loc5_0 : Int) (loc5_1 : Int) (loc5_2 : Rs) (loc5_3 : Rs) (loc5_4 : Rs) (loc3_0 : Int) (loc3_1 : Int) (loc3_2 : Rs) (loc3_3 : Rs) (loc3_4 : Rs) : Option R5 :=
  bif t53 then
    some false
  else
    (mapPut Try.prog 48 (.agg #[.int .i64 loc9_0, .int .i64 loc9_1, .int .i64 loc9_2, .int .i64 loc9_3]) [bc true] seen7).bind fun es_x1 =>
    rec (.h3 es_x1 t44 t45 t46 loc5_0 loc5_1 loc5_2 loc5_3 loc5_4 loc3_0 loc3_1 loc3_2 loc3_3 loc3_4)
noncomputable def t5_h3 (k : Nat) (rec : S5 → Option R5) (seen7 : Es) (t44 : Rs) (t45 : Int) (t46 : Int) (loc5_0 : Int) (loc5_1 : Int) (loc5_2 : Rs) (loc5_3 : Rs) (loc5_4 : Rs) (loc3_0 : Int) (loc3_1 : Int) (loc3_2 : Rs) (loc3_3 : Rs) (loc3_4 : Rs) : Option R5 :=
  rec (.h1 seen7 t44 t45 (IntKind.i64.wrap (t46 + 1)) loc5_0 loc5_1 loc5_2 loc5_3 loc5_4 loc3_0 loc3_1 loc3_2 loc3_3 loc3_4)
noncomputable def step5 (k : Nat) (rec : S5 → Option R5) : S5 → Option R5
  | .e l0 => t5_e k rec l0
  | .h0 e4 f6 t29 loc5_0 loc5_1 loc5_2 loc5_3 loc5_4 loc3_0 loc3_1 loc3_2 loc3_3 loc3_4 => t5_h0 k rec e4 f6 t29 loc5_0 loc5_1 loc5_2 loc5_3 loc5_4 loc3_0 loc3_1 loc3_2 loc3_3 loc3_4
  | .h1 seen7 t44 t45 t46 loc5_0 loc5_1 loc5_2 loc5_3 loc5_4 loc3_0 loc3_1 loc3_2 loc3_3 loc3_4 => t5_h1 k rec seen7 t44 t45 t46 loc5_0 loc5_1 loc5_2 loc5_3 loc5_4 loc3_0 loc3_1 loc3_2 loc3_3 loc3_4
  | .h2 seen7 t44 t45 t46 t53 loc9_0 loc9_1 loc9_2 loc9_3 loc5_0 loc5_1 loc5_2 loc5_3 loc5_4 loc3_0 loc3_1 loc3_2 loc3_3 loc3_4 => t5_h2 k rec seen7 t44 t45 t46 t53 loc9_0 loc9_1 loc9_2 loc9_3 loc5_0 loc5_1 loc5_2 loc5_3 loc5_4 loc3_0 loc3_1 loc3_2 loc3_3 loc3_4
  | .h3 seen7 t44 t45 t46 loc5_0 loc5_1 loc5_2 loc5_3 loc5_4 loc3_0 loc3_1 loc3_2 loc3_3 loc3_4 => t5_h3 k rec seen7 t44 t45 t46 loc5_0 loc5_1 loc5_2 loc5_3 loc5_4 loc3_0 loc3_1 loc3_2 loc3_3 loc3_4
noncomputable def g5 (k : Nat) (l0 : Rs) : Option R5 := itS step5 k (.e l0)
noncomputable def P5 : S5 → R5 → Prop
  | .e l0, r => Fin cx5 Try.f5 [.code body5] (fr0 Try.f5 [.c (.imm l0)] []) (res5 r) (bx5 r)
  | .h0 e4 f6 t29 loc5_0 loc5_1 loc5_2 loc5_3 loc5_4 loc3_0 loc3_1 loc3_2 loc3_3 loc3_4, r => Fin cx5 Try.f5 (kAt body5 [1, 1, 1, 0, 1, 2] []) ⟨rep 3 .deadv ++ [.c (.ptr ⟨⟨.loc 3, []⟩, 0, 0⟩), .c (ic e4), .c (.ptr ⟨⟨.loc 5, []⟩, 0, 0⟩), .c (ic f6)] ++ rep 22 .deadv ++ [.c (bc t29)] ++ rep 50 .deadv, [(.loc 5, [ic loc5_0, ic loc5_1, .imm loc5_2, .imm loc5_3, .imm loc5_4]), (.loc 3, [ic loc3_0, ic loc3_1, .imm loc3_2, .imm loc3_3, .imm loc3_4])]⟩ (res5 r) (bx5 r)
  | .h1 seen7 t44 t45 t46 loc5_0 loc5_1 loc5_2 loc5_3 loc5_4 loc3_0 loc3_1 loc3_2 loc3_3 loc3_4, r => Fin cx5 Try.f5 (kAt body5 [1, 1, 1, 1, 1, 0, 1, 0, 4] []) ⟨rep 3 .deadv ++ [.c (.ptr ⟨⟨.loc 3, []⟩, 0, 0⟩), .deadv, .c (.ptr ⟨⟨.loc 5, []⟩, 0, 0⟩), .deadv, .c (.mp seen7)] ++ rep 36 .deadv ++ [.c (.imm t44), .c (ic t45), .c (ic t46)] ++ rep 33 .deadv, [(.loc 5, [ic loc5_0, ic loc5_1, .imm loc5_2, .imm loc5_3, .imm loc5_4]), (.loc 3, [ic loc3_0, ic loc3_1, .imm loc3_2, .imm loc3_3, .imm loc3_4])]⟩ (res5 r) (bx5 r)
  | .h2 seen7 t44 t45 t46 t53 loc9_0 loc9_1 loc9_2 loc9_3 loc5_0 loc5_1 loc5_2 loc5_3 loc5_4 loc3_0 loc3_1 loc3_2 loc3_3 loc3_4, r => Fin cx5 Try.f5 (kAt body5 [1, 1, 1, 1, 1, 0, 1, 0, 0, 1, 1, 0, 0, 1, 1, 0, 1, 2] []) ⟨rep 3 .deadv ++ [.c (.ptr ⟨⟨.loc 3, []⟩, 0, 0⟩), .deadv, .c (.ptr ⟨⟨.loc 5, []⟩, 0, 0⟩), .deadv, .c (.mp seen7), .deadv, .c (.ptr ⟨⟨.loc 9, []⟩, 0, 0⟩)] ++ rep 34 .deadv ++ [.c (.imm t44), .c (ic t45), .c (ic t46)] ++ rep 6 .deadv ++ [.c (bc t53)] ++ rep 26 .deadv, [(.loc 9, [ic loc9_0, ic loc9_1, ic loc9_2, ic loc9_3]), (.loc 5, [ic loc5_0, ic loc5_1, .imm loc5_2, .imm loc5_3, .imm loc5_4]), (.loc 3, [ic loc3_0, ic loc3_1, .imm loc3_2, .imm loc3_3, .imm loc3_4])]⟩ (res5 r) (bx5 r)
  | .h3 seen7 t44 t45 t46 loc5_0 loc5_1 loc5_2 loc5_3 loc5_4 loc3_0 loc3_1 loc3_2 loc3_3 loc3_4, r => Fin cx5 Try.f5 (kAt body5 [1, 1, 1, 1, 1, 0, 1, 0, 0, 1, 1, 1, 2] []) ⟨rep 3 .deadv ++ [.c (.ptr ⟨⟨.loc 3, []⟩, 0, 0⟩), .deadv, .c (.ptr ⟨⟨.loc 5, []⟩, 0, 0⟩), .deadv, .c (.mp seen7)] ++ rep 36 .deadv ++ [.c (.imm t44), .c (ic t45), .c (ic t46)] ++ rep 33 .deadv, [(.loc 5, [ic loc5_0, ic loc5_1, .imm loc5_2, .imm loc5_3, .imm loc5_4]), (.loc 3, [ic loc3_0, ic loc3_1, .imm loc3_2, .imm loc3_3, .imm loc3_4])]⟩ (res5 r) (bx5 r)
theorem evr5 {l0 : Rs} {r : R5} (h : P5 (.e l0) r) : Ev Try.prog noHand 5 [.c (.imm l0)] [] (res5 r) (bx5 r) := ev_of_fin (fn := Try.f5) (body := body5) (by kernel_rfl) (by kernel_rfl) (by kernel_rfl) rfl h
theorem t5_e_ok (k : Nat) (rec : S5 → Option R5) (ih : ∀ s r, rec s = some r → P5 s r) (l0 : Rs) (r : R5) (h : t5_e k rec l0 = some r) : P5 (.e l0) r := by
  unfold t5_e at h
  obtain ⟨v_x1, h_x2, h⟩ := bd_or h
  obtain ⟨r00_x3, r01_x3, r02_x3, r03_x3, r04_x3, r10_x3, hq, h1'⟩ := tup6_or h
  clear h; subst hq; have h := h1'; clear h1'
  obtain ⟨v_x4, h_x5, h⟩ := bd_or h
  obtain ⟨r00_x6, r01_x6, r02_x6, r03_x6, r04_x6, r10_x6, hq, h1'⟩ := tup6_or h
  clear h; subst hq; have h := h1'; clear h1'
  rcases bif_or h with ⟨h_x7, h⟩ | ⟨h_x7, h⟩
  ·
    exact mgo_at (nb := 0) hmix (ih _ _ h) (n := 9) (ad := [(some 12, .call (.ret ⟨.tup [true, false], [[ic r00_x3, ic r01_x3, .imm r02_x3, .imm r03_x3, .imm r04_x3], [ic r10_x3]]⟩) [] false), (some 17, .call (.ret ⟨.tup [true, false], [[ic r00_x6, ic r01_x6, .imm r02_x6, .imm r03_x6, .imm r04_x6], [ic r10_x6]]⟩) [] false), (some 20, .call (.ret (.c (bc true))) [] false), (some 24, .test true)]) (ps := [_, _, _, _]) (m := bm 80 1208925819614628637835143) (ls := []) (cs := []) (by kernel_rfl) ⟨(ev11 h_x2), (ev11 h_x5), clA_89, h_x7, trivial⟩
  ·
    exact mgo_at (nb := 0) hmix (ih _ _ h) (n := 9) (ad := [(some 12, .call (.ret ⟨.tup [true, false], [[ic r00_x3, ic r01_x3, .imm r02_x3, .imm r03_x3, .imm r04_x3], [ic r10_x3]]⟩) [] false), (some 17, .call (.ret ⟨.tup [true, false], [[ic r00_x6, ic r01_x6, .imm r02_x6, .imm r03_x6, .imm r04_x6], [ic r10_x6]]⟩) [] false), (some 20, .call (.ret (.c (bc true))) [] false), (some 24, .test false)]) (ps := [_, _, _, _]) (m := bm 80 1208925819614628637835143) (ls := []) (cs := []) (by kernel_rfl) ⟨(ev11 h_x2), (ev11 h_x5), clA_89, h_x7, trivial⟩
theorem t5_h0_ok (k : Nat) (rec : S5 → Option R5) (ih : ∀ s r, rec s = some r → P5 s r) (e4 : Int) (f6 : Int) (t29 : Bool) (loc5_0 : Int) (loc5_1 : Int) (loc5_2 : Rs) (loc5_3 : Rs) (loc5_4 : Rs) (loc3_0 : Int) (loc3_1 : Int) (loc3_2 : Rs) (loc3_3 : Rs) (loc3_4 : Rs) (r : R5) (h : t5_h0 k rec e4 f6 t29 loc5_0 loc5_1 loc5_2 loc5_3 loc5_4 loc3_0 loc3_1 loc3_2 loc3_3 loc3_4 = some r) : P5 (.h0 e4 f6 t29 loc5_0 loc5_1 loc5_2 loc5_3 loc5_4 loc3_0 loc3_1 loc3_2 loc3_3 loc3_4) r := by
  unfold t5_h0 at h
  rcases bif_or h with ⟨hq, h1'⟩ | ⟨hq, h1'⟩
  · clear h; subst hq; have h := h1'; clear h1'
    rcases bif_or h with ⟨h_x1, h⟩ | ⟨h_x1, h⟩
    ·
      rw [← Option.some.inj h]
      exact mgo_fin (nb := 0) hmix (n := 2000) (ad := [(some 30, .call (.ret (.c (bc true))) [] false), (some 33, .test true)]) (ps := [_, _]) (by kernel_rfl) ⟨clA_89, h_x1, trivial⟩
    ·
      rw [← Option.some.inj h]
      exact mgo_fin (nb := 0) hmix (n := 2000) (ad := [(some 30, .call (.ret (.c (bc true))) [] false), (some 33, .test false)]) (ps := [_, _]) (by kernel_rfl) ⟨clA_89, h_x1, trivial⟩
  · clear h; subst hq; have h := h1'; clear h1'
    obtain ⟨h_x1, h⟩ := gd_or h
    exact mgo_at (nb := 0) hmix (ih _ _ h) (n := 9) (ad := [(some 44, .ok)]) (ps := [_]) (m := bm 80 1208925819491483872395095) (ls := []) (cs := []) (by kernel_rfl) ⟨of_decide_eq_true h_x1, trivial⟩
theorem t5_h1_ok (k : Nat) (rec : S5 → Option R5) (ih : ∀ s r, rec s = some r → P5 s r) (seen7 : Es) (t44 : Rs) (t45 : Int) (t46 : Int) (loc5_0 : Int) (loc5_1 : Int) (loc5_2 : Rs) (loc5_3 : Rs) (loc5_4 : Rs) (loc3_0 : Int) (loc3_1 : Int) (loc3_2 : Rs) (loc3_3 : Rs) (loc3_4 : Rs) (r : R5) (h : t5_h1 k rec seen7 t44 t45 t46 loc5_0 loc5_1 loc5_2 loc5_3 loc5_4 loc3_0 loc3_1 loc3_2 loc3_3 loc3_4 = some r) : P5 (.h1 seen7 t44 t45 t46 loc5_0 loc5_1 loc5_2 loc5_3 loc5_4 loc3_0 loc3_1 loc3_2 loc3_3 loc3_4) r := by
  unfold t5_h1 at h
  rcases bif_or h with ⟨h_x1, h⟩ | ⟨h_x1, h⟩
  ·
    obtain ⟨w_x2, h_x3, h⟩ := ixR_or h
    obtain ⟨op_x4, dst_x4, a_x4, b_x4, hq, h1'⟩ := un_i4_or h
    clear h; subst hq; have h := h1'; clear h1'
    obtain ⟨e_x5, h_x6, h⟩ := bd_or h
    rcases optC_or h with ⟨w_x7, hq, h1'⟩ | ⟨hq, h1'⟩
    · clear h; subst hq; have h := h1'; clear h1'
      obtain ⟨x_x8, hq, h1'⟩ := un_b_or h
      clear h; subst hq; have h := h1'; clear h1'
      exact mgo_at (nb := 0) hmix (ih _ _ h) (n := 15) (ad := [(some 47, .test true), (some 48, .row [ic op_x4, ic dst_x4, ic a_x4, ic b_x4]), (some 53, .look (some [bc x_x8]))]) (ps := [_, _, _]) (m := bm 80 1208925810484284617653591) (ls := []) (cs := []) (by kernel_rfl) ⟨h_x1, ix_row h_x3 rfl, h_x6, trivial⟩
    · clear h; subst hq; have h := h1'; clear h1'
      exact mgo_at (nb := 0) hmix (ih _ _ h) (n := 15) (ad := [(some 47, .test true), (some 48, .row [ic op_x4, ic dst_x4, ic a_x4, ic b_x4]), (some 53, .look none)]) (ps := [_, _, _]) (m := bm 80 1208925810484284617653591) (ls := []) (cs := []) (by kernel_rfl) ⟨h_x1, ix_row h_x3 rfl, h_x6, trivial⟩
  ·
    rcases bif_or h with ⟨h_x2, h⟩ | ⟨h_x2, h⟩
    ·
      rcases bif_or h with ⟨h_x3, h⟩ | ⟨h_x3, h⟩
      ·
        rw [← Option.some.inj h]
        exact mgo_fin (nb := 0) hmix (n := 2000) (ad := [(some 47, .test false), (some 61, .test true), (some 69, .test true)]) (ps := [_, _, _]) (by kernel_rfl) ⟨h_x1, h_x2, h_x3, trivial⟩
      ·
        rw [← Option.some.inj h]
        exact mgo_fin (nb := 0) hmix (n := 2000) (ad := [(some 47, .test false), (some 61, .test true), (some 69, .test false)]) (ps := [_, _, _]) (by kernel_rfl) ⟨h_x1, h_x2, h_x3, trivial⟩
    ·
      rw [← Option.some.inj h]
      exact mgo_fin (nb := 0) hmix (n := 2000) (ad := [(some 47, .test false), (some 61, .test false)]) (ps := [_, _]) (by kernel_rfl) ⟨h_x1, h_x2, trivial⟩
theorem t5_h2_ok (k : Nat) (rec : S5 → Option R5) (ih : ∀ s r, rec s = some r → P5 s r) (seen7 : Es) (t44 : Rs) (t45 : Int) (t46 : Int) (t53 : Bool) (loc9_0 : Int) (loc9_1 : Int) (loc9_2 : Int) (loc9_3 : Int) (loc5_0 : Int) (loc5_1 : Int) (loc5_2 : Rs) (loc5_3 : Rs) (loc5_4 : Rs) (loc3_0 : Int) (loc3_1 : Int) (loc3_2 : Rs) (loc3_3 : Rs) (loc3_4 : Rs) (r : R5) (h : t5_h2 k rec seen7 t44 t45 t46 t53 loc9_0 loc9_1 loc9_2 loc9_3 loc5_0 loc5_1 loc5_2 loc5_3 loc5_4 loc3_0 loc3_1 loc3_2 loc3_3 loc3_4 = some r) : P5 (.h2 seen7 t44 t45 t46 t53 loc9_0 loc9_1 loc9_2 loc9_3 loc5_0 loc5_1 loc5_2 loc5_3 loc5_4 loc3_0 loc3_1 loc3_2 loc3_3 loc3_4) r := by
  unfold t5_h2 at h
  rcases bif_or h with ⟨hq, h1'⟩ | ⟨hq, h1'⟩
  · clear h; subst hq; have h := h1'; clear h1'
    rw [← Option.some.inj h]
    exact mgo_fin (nb := 0) hmix (n := 2000) (ad := []) (ps := []) (by kernel_rfl) trivial
  · clear h; subst hq; have h := h1'; clear h1'
    obtain ⟨es_x1, h_x2, h⟩ := bd_or h
    exact mgo_at (nb := 0) hmix (ih _ _ h) (n := 4) (ad := [(none, .put es_x1)]) (ps := [_]) (m := bm 80 1208925819491483872395095) (ls := [9]) (cs := []) (by kernel_rfl) ⟨h_x2, trivial⟩
theorem t5_h3_ok (k : Nat) (rec : S5 → Option R5) (ih : ∀ s r, rec s = some r → P5 s r) (seen7 : Es) (t44 : Rs) (t45 : Int) (t46 : Int) (loc5_0 : Int) (loc5_1 : Int) (loc5_2 : Rs) (loc5_3 : Rs) (loc5_4 : Rs) (loc3_0 : Int) (loc3_1 : Int) (loc3_2 : Rs) (loc3_3 : Rs) (loc3_4 : Rs) (r : R5) (h : t5_h3 k rec seen7 t44 t45 t46 loc5_0 loc5_1 loc5_2 loc5_3 loc5_4 loc3_0 loc3_1 loc3_2 loc3_3 loc3_4 = some r) : P5 (.h3 seen7 t44 t45 t46 loc5_0 loc5_1 loc5_2 loc5_3 loc5_4 loc3_0 loc3_1 loc3_2 loc3_3 loc3_4) r := by
  unfold t5_h3 at h
  exact mgo_at (nb := 0) hmix (ih _ _ h) (n := 1) (ad := []) (ps := []) (m := bm 80 1208925819491483872395095) (ls := []) (cs := []) (by kernel_rfl) trivial
theorem ok5 : ∀ k s r, itS step5 k s = some r → P5 s r := itS_ok fun k rec ih s r h => match s, h with
  | .e l0, h => t5_e_ok k rec ih l0 r h
  | .h0 e4 f6 t29 loc5_0 loc5_1 loc5_2 loc5_3 loc5_4 loc3_0 loc3_1 loc3_2 loc3_3 loc3_4, h => t5_h0_ok k rec ih e4 f6 t29 loc5_0 loc5_1 loc5_2 loc5_3 loc5_4 loc3_0 loc3_1 loc3_2 loc3_3 loc3_4 r h
  | .h1 seen7 t44 t45 t46 loc5_0 loc5_1 loc5_2 loc5_3 loc5_4 loc3_0 loc3_1 loc3_2 loc3_3 loc3_4, h => t5_h1_ok k rec ih seen7 t44 t45 t46 loc5_0 loc5_1 loc5_2 loc5_3 loc5_4 loc3_0 loc3_1 loc3_2 loc3_3 loc3_4 r h
  | .h2 seen7 t44 t45 t46 t53 loc9_0 loc9_1 loc9_2 loc9_3 loc5_0 loc5_1 loc5_2 loc5_3 loc5_4 loc3_0 loc3_1 loc3_2 loc3_3 loc3_4, h => t5_h2_ok k rec ih seen7 t44 t45 t46 t53 loc9_0 loc9_1 loc9_2 loc9_3 loc5_0 loc5_1 loc5_2 loc5_3 loc5_4 loc3_0 loc3_1 loc3_2 loc3_3 loc3_4 r h
  | .h3 seen7 t44 t45 t46 loc5_0 loc5_1 loc5_2 loc5_3 loc5_4 loc3_0 loc3_1 loc3_2 loc3_3 loc3_4, h => t5_h3_ok k rec ih seen7 t44 t45 t46 loc5_0 loc5_1 loc5_2 loc5_3 loc5_4 loc3_0 loc3_1 loc3_2 loc3_3 loc3_4 r h
theorem ev5 {k : Nat} {l0 : Rs} {r : R5} (h : g5 k l0 = some r) : Ev Try.prog noHand 5 [.c (.imm l0)] [] (res5 r) (bx5 r) := evr5 (ok5 _ _ _ h)
end Ab
end Go.Proofs.Ytebmcaceklbopaa
