/-
  Functions' ways, printed by a program: what each computes, and that this is what the interpreter computes.
-/
import Derived.Test.YtebmcaceklbopaaF6
import Derived.KernelRfl
set_option linter.unusedVariables false
set_option linter.unusedSimpArgs false
namespace Go.Proofs.Ytebmcaceklbopaa
namespace Ab
-- auspice/ssa.place[auspice/api.Input]
inductive S35h where
  | e (x1_0 : Int) (x1_1 : Int) (x1_2 : Int) (x1_3 : Int) (b0_0 : Int) (b0_1 : Int) (b0_2 : Rs) (b0_3 : Rs) (b0_4 : Rs)
  | h0 (t10 : Int) (t11 : Int) (loc3_0 : Int) (loc3_1 : Int) (loc3_2 : Int) (loc3_3 : Int) (par0_0 : Int) (par0_1 : Int) (par0_2 : Rs) (par0_3 : Rs) (par0_4 : Rs)
abbrev R35h := Int × Int × Int × Rs × Rs × Rs
def res35h : R35h → ARes
  | (r, r_b0_0, r_b0_1, r_b0_2, r_b0_3, r_b0_4) => .ret (.c (ic r))
def bx35h : R35h → List (List Cell)
  | (r, r_b0_0, r_b0_1, r_b0_2, r_b0_3, r_b0_4) => [[ic r_b0_0, ic r_b0_1, .own 4 r_b0_2, .own 2 r_b0_3, .own 4 r_b0_4]]
noncomputable def t35h_e (k : Nat) (rec : S35h → Option R35h) (x1_0 : Int) (x1_1 : Int) (x1_2 : Int) (x1_3 : Int) (b0_0 : Int) (b0_1 : Int) (b0_2 : Rs) (b0_3 : Rs) (b0_4 : Rs) : Option R35h :=
  rec (.h0 (b0_2.length : Int) 0 x1_0 x1_1 x1_2 x1_3 b0_0 b0_1 b0_2 b0_3 b0_4)
noncomputable def t35h_h0 (k : Nat) (rec : S35h → Option R35h) (t10 : Int) (t11 : Int) (loc3_0 : Int) (loc3_1 : Int) (loc3_2 : Int) (loc3_3 : Int) (par0_0 : Int) (par0_1 : Int) (par0_2 : Rs) (par0_3 : Rs) (par0_4 : Rs) : Option R35h :=
  bif decide (t11 < t10) then
    ixR par0_2 t11 fun w_x2 =>
    un_i4 w_x2 fun op_x4 kind_x4 pos_x4 attr_x4 =>
    bif (op_x4 == loc3_0 && (kind_x4 == loc3_1 && (pos_x4 == loc3_2 && (attr_x4 == loc3_3 && true)))) then
      some (t11, par0_0, par0_1, par0_2, par0_3, par0_4)
    else
      rec (.h0 t10 (IntKind.i64.wrap (t11 + 1)) loc3_0 loc3_1 loc3_2 loc3_3 par0_0 par0_1 par0_2 par0_3 par0_4)
  else
    gd (apOk 32 4 par0_2 [[ic loc3_0, ic loc3_1, ic loc3_2, ic loc3_3]]) <|
    some (IntKind.i64.wrap (((par0_2 ++ [[ic loc3_0, ic loc3_1, ic loc3_2, ic loc3_3]]).length : Int) - 1), par0_0, par0_1, par0_2 ++ [[ic loc3_0, ic loc3_1, ic loc3_2, ic loc3_3]], par0_3, par0_4)
noncomputable def step35h (k : Nat) (rec : S35h → Option R35h) : S35h → Option R35h
  | .e x1_0 x1_1 x1_2 x1_3 b0_0 b0_1 b0_2 b0_3 b0_4 => t35h_e k rec x1_0 x1_1 x1_2 x1_3 b0_0 b0_1 b0_2 b0_3 b0_4
  | .h0 t10 t11 loc3_0 loc3_1 loc3_2 loc3_3 par0_0 par0_1 par0_2 par0_3 par0_4 => t35h_h0 k rec t10 t11 loc3_0 loc3_1 loc3_2 loc3_3 par0_0 par0_1 par0_2 par0_3 par0_4
noncomputable def g35h (k : Nat) (x1_0 : Int) (x1_1 : Int) (x1_2 : Int) (x1_3 : Int) (b0_0 : Int) (b0_1 : Int) (b0_2 : Rs) (b0_3 : Rs) (b0_4 : Rs) : Option R35h := itS step35h k (.e x1_0 x1_1 x1_2 x1_3 b0_0 b0_1 b0_2 b0_3 b0_4)
noncomputable def P35h : S35h → R35h → Prop
  | .e x1_0 x1_1 x1_2 x1_3 b0_0 b0_1 b0_2 b0_3 b0_4, r => Fin cx35 Try.f35 [.code body35] (fr0 Try.f35 [.c (.ptr ⟨⟨.par 0, []⟩, 0, 2⟩), .ag [ic x1_0, ic x1_1, ic x1_2, ic x1_3]] [[ic b0_0, ic b0_1, .own 4 b0_2, .own 2 b0_3, .own 4 b0_4]]) (res35h r) (bx35h r)
  | .h0 t10 t11 loc3_0 loc3_1 loc3_2 loc3_3 par0_0 par0_1 par0_2 par0_3 par0_4, r => Fin cx35 Try.f35 (kAt body35 [1, 0, 1, 0, 4] []) ⟨[.c (.ptr ⟨⟨.par 0, []⟩, 0, 2⟩), .deadv, .deadv, .c (.ptr ⟨⟨.loc 3, []⟩, 0, 0⟩)] ++ rep 5 .deadv ++ [.c (.ref ⟨⟨.par 0, []⟩, 0, 2⟩), .c (ic t10), .c (ic t11)] ++ rep 22 .deadv, [(.loc 3, [ic loc3_0, ic loc3_1, ic loc3_2, ic loc3_3]), (.par 0, [ic par0_0, ic par0_1, .own 4 par0_2, .own 2 par0_3, .own 4 par0_4])]⟩ (res35h r) (bx35h r)
theorem evr35h {x1_0 : Int} {x1_1 : Int} {x1_2 : Int} {x1_3 : Int} {b0_0 : Int} {b0_1 : Int} {b0_2 : Rs} {b0_3 : Rs} {b0_4 : Rs} {r : R35h} (h : P35h (.e x1_0 x1_1 x1_2 x1_3 b0_0 b0_1 b0_2 b0_3 b0_4) r) : Ev Try.prog noHand 35 [.c (.ptr ⟨⟨.par 0, []⟩, 0, 2⟩), .ag [ic x1_0, ic x1_1, ic x1_2, ic x1_3]] [[ic b0_0, ic b0_1, .own 4 b0_2, .own 2 b0_3, .own 4 b0_4]] (res35h r) (bx35h r) := ev_of_fin (fn := Try.f35) (body := body35) (by kernel_rfl) (by kernel_rfl) (by kernel_rfl) rfl h
theorem t35h_e_ok (k : Nat) (rec : S35h → Option R35h) (ih : ∀ s r, rec s = some r → P35h s r) (x1_0 : Int) (x1_1 : Int) (x1_2 : Int) (x1_3 : Int) (b0_0 : Int) (b0_1 : Int) (b0_2 : Rs) (b0_3 : Rs) (b0_4 : Rs) (r : R35h) (h : t35h_e k rec x1_0 x1_1 x1_2 x1_3 b0_0 b0_1 b0_2 b0_3 b0_4 = some r) : P35h (.e x1_0 x1_1 x1_2 x1_3 b0_0 b0_1 b0_2 b0_3 b0_4) r := by
  unfold t35h_e at h
  exact mgo_at (nb := 1) hmix (ih _ _ h) (n := 7) (ad := []) (ps := []) (m := bm 34 17179865590) (ls := []) (cs := []) (by kernel_rfl) trivial
theorem t35h_h0_ok (k : Nat) (rec : S35h → Option R35h) (ih : ∀ s r, rec s = some r → P35h s r) (t10 : Int) (t11 : Int) (loc3_0 : Int) (loc3_1 : Int) (loc3_2 : Int) (loc3_3 : Int) (par0_0 : Int) (par0_1 : Int) (par0_2 : Rs) (par0_3 : Rs) (par0_4 : Rs) (r : R35h) (h : t35h_h0 k rec t10 t11 loc3_0 loc3_1 loc3_2 loc3_3 par0_0 par0_1 par0_2 par0_3 par0_4 = some r) : P35h (.h0 t10 t11 loc3_0 loc3_1 loc3_2 loc3_3 par0_0 par0_1 par0_2 par0_3 par0_4) r := by
  unfold t35h_h0 at h
  rcases bif_or h with ⟨h_x1, h⟩ | ⟨h_x1, h⟩
  ·
    obtain ⟨w_x2, h_x3, h⟩ := ixR_or h
    obtain ⟨op_x4, kind_x4, pos_x4, attr_x4, hq, h1'⟩ := un_i4_or h
    clear h; subst hq; have h := h1'; clear h1'
    rcases bif_or h with ⟨h_x5, h⟩ | ⟨h_x5, h⟩
    ·
      rw [← Option.some.inj h]
      exact mgo_fin (nb := 1) hmix (n := 2000) (ad := [(some 12, .test true), (some 14, .bnd), (some 15, .ld [ic op_x4, ic kind_x4, ic pos_x4, ic attr_x4]), (some 18, .test true)]) (ps := [_, _, _, _]) (by kernel_rfl) ⟨h_x1, ix_bnd h_x3, h_x3.2, h_x5, trivial⟩
    ·
      exact mgo_at (nb := 1) hmix (ih _ _ h) (n := 16) (ad := [(some 12, .test true), (some 14, .bnd), (some 15, .ld [ic op_x4, ic kind_x4, ic pos_x4, ic attr_x4]), (some 18, .test false)]) (ps := [_, _, _, _]) (m := bm 34 17179865590) (ls := [6]) (cs := []) (by kernel_rfl) ⟨h_x1, ix_bnd h_x3, h_x3.2, h_x5, trivial⟩
  ·
    obtain ⟨h_x2, h⟩ := gd_or h
    rw [← Option.some.inj h]
    exact mgo_fin (nb := 1) hmix (n := 2000) (ad := [(some 12, .test false), (some 27, .okE false)]) (ps := [_, _]) (by kernel_rfl) ⟨h_x1, okF [[ic loc3_0, ic loc3_1, ic loc3_2, ic loc3_3]] h_x2, trivial⟩
theorem ok35h : ∀ k s r, itS step35h k s = some r → P35h s r := itS_ok fun k rec ih s r h => match s, h with
  | .e x1_0 x1_1 x1_2 x1_3 b0_0 b0_1 b0_2 b0_3 b0_4, h => t35h_e_ok k rec ih x1_0 x1_1 x1_2 x1_3 b0_0 b0_1 b0_2 b0_3 b0_4 r h
  | .h0 t10 t11 loc3_0 loc3_1 loc3_2 loc3_3 par0_0 par0_1 par0_2 par0_3 par0_4, h => t35h_h0_ok k rec ih t10 t11 loc3_0 loc3_1 loc3_2 loc3_3 par0_0 par0_1 par0_2 par0_3 par0_4 r h
theorem ev35h {k : Nat} {x1_0 : Int} {x1_1 : Int} {x1_2 : Int} {x1_3 : Int} {b0_0 : Int} {b0_1 : Int} {b0_2 : Rs} {b0_3 : Rs} {b0_4 : Rs} {r : R35h} (h : g35h k x1_0 x1_1 x1_2 x1_3 b0_0 b0_1 b0_2 b0_3 b0_4 = some r) : Ev Try.prog noHand 35 [.c (.ptr ⟨⟨.par 0, []⟩, 0, 2⟩), .ag [ic x1_0, ic x1_1, ic x1_2, ic x1_3]] [[ic b0_0, ic b0_1, .own 4 b0_2, .own 2 b0_3, .own 4 b0_4]] (res35h r) (bx35h r) := evr35h (ok35h _ _ _ h)
-- auspice/ssa.place[auspice/api.Value]
inductive S36i where
  | e (x1_0 : Int) (x1_1 : Int) (b0_0 : Int) (b0_1 : Int) (b0_2 : Rs) (b0_3 : Rs) (b0_4 : Rs)
  | h0 (t10 : Int) (t11 : Int) (loc3_0 : Int) (loc3_1 : Int) (par0_0 : Int) (par0_1 : Int) (par0_2 : Rs) (par0_3 : Rs) (par0_4 : Rs)
abbrev R36i := Int × Int × Int × Rs × Rs × Rs
def res36i : R36i → ARes
  | (r, r_b0_0, r_b0_1, r_b0_2, r_b0_3, r_b0_4) => .ret (.c (ic r))
def bx36i : R36i → List (List Cell)
  | (r, r_b0_0, r_b0_1, r_b0_2, r_b0_3, r_b0_4) => [[ic r_b0_0, ic r_b0_1, .own 4 r_b0_2, .own 2 r_b0_3, .own 4 r_b0_4]]
noncomputable def t36i_e (k : Nat) (rec : S36i → Option R36i) (x1_0 : Int) (x1_1 : Int) (b0_0 : Int) (b0_1 : Int) (b0_2 : Rs) (b0_3 : Rs) (b0_4 : Rs) : Option R36i :=
  rec (.h0 (b0_3.length : Int) 0 x1_0 x1_1 b0_0 b0_1 b0_2 b0_3 b0_4)
noncomputable def t36i_h0 (k : Nat) (rec : S36i → Option R36i) (t10 : Int) (t11 : Int) (loc3_0 : Int) (loc3_1 : Int) (par0_0 : Int) (par0_1 : Int) (par0_2 : Rs) (par0_3 : Rs) (par0_4 : Rs) : Option R36i :=
  bif decide (t11 < t10) then
    ixR par0_3 t11 fun w_x2 =>
    un_iu w_x2 fun kind_x4 bits_x4 =>
    bif (kind_x4 == loc3_0 && (bits_x4 == loc3_1 && true)) then
      some (t11, par0_0, par0_1, par0_2, par0_3, par0_4)
    else
      rec (.h0 t10 (IntKind.i64.wrap (t11 + 1)) loc3_0 loc3_1 par0_0 par0_1 par0_2 par0_3 par0_4)
  else
    gd (apOk 16 2 par0_3 [[ic loc3_0, .val (.int .u64 loc3_1)]]) <|
    some (IntKind.i64.wrap (((par0_3 ++ [[ic loc3_0, .val (.int .u64 loc3_1)]]).length : Int) - 1), par0_0, par0_1, par0_2, par0_3 ++ [[ic loc3_0, .val (.int .u64 loc3_1)]], par0_4)
noncomputable def step36i (k : Nat) (rec : S36i → Option R36i) : S36i → Option R36i
  | .e x1_0 x1_1 b0_0 b0_1 b0_2 b0_3 b0_4 => t36i_e k rec x1_0 x1_1 b0_0 b0_1 b0_2 b0_3 b0_4
  | .h0 t10 t11 loc3_0 loc3_1 par0_0 par0_1 par0_2 par0_3 par0_4 => t36i_h0 k rec t10 t11 loc3_0 loc3_1 par0_0 par0_1 par0_2 par0_3 par0_4
noncomputable def g36i (k : Nat) (x1_0 : Int) (x1_1 : Int) (b0_0 : Int) (b0_1 : Int) (b0_2 : Rs) (b0_3 : Rs) (b0_4 : Rs) : Option R36i := itS step36i k (.e x1_0 x1_1 b0_0 b0_1 b0_2 b0_3 b0_4)
noncomputable def P36i : S36i → R36i → Prop
  | .e x1_0 x1_1 b0_0 b0_1 b0_2 b0_3 b0_4, r => Fin cx36 Try.f36 [.code body36] (fr0 Try.f36 [.c (.ptr ⟨⟨.par 0, []⟩, 0, 3⟩), .ag [ic x1_0, .val (.int .u64 x1_1)]] [[ic b0_0, ic b0_1, .own 4 b0_2, .own 2 b0_3, .own 4 b0_4]]) (res36i r) (bx36i r)
  | .h0 t10 t11 loc3_0 loc3_1 par0_0 par0_1 par0_2 par0_3 par0_4, r => Fin cx36 Try.f36 (kAt body36 [1, 0, 1, 0, 4] []) ⟨[.c (.ptr ⟨⟨.par 0, []⟩, 0, 3⟩), .deadv, .deadv, .c (.ptr ⟨⟨.loc 3, []⟩, 0, 0⟩)] ++ rep 5 .deadv ++ [.c (.ref ⟨⟨.par 0, []⟩, 0, 3⟩), .c (ic t10), .c (ic t11)] ++ rep 22 .deadv, [(.loc 3, [ic loc3_0, .val (.int .u64 loc3_1)]), (.par 0, [ic par0_0, ic par0_1, .own 4 par0_2, .own 2 par0_3, .own 4 par0_4])]⟩ (res36i r) (bx36i r)
theorem evr36i {x1_0 : Int} {x1_1 : Int} {b0_0 : Int} {b0_1 : Int} {b0_2 : Rs} {b0_3 : Rs} {b0_4 : Rs} {r : R36i} (h : P36i (.e x1_0 x1_1 b0_0 b0_1 b0_2 b0_3 b0_4) r) : Ev Try.prog noHand 36 [.c (.ptr ⟨⟨.par 0, []⟩, 0, 3⟩), .ag [ic x1_0, .val (.int .u64 x1_1)]] [[ic b0_0, ic b0_1, .own 4 b0_2, .own 2 b0_3, .own 4 b0_4]] (res36i r) (bx36i r) := ev_of_fin (fn := Try.f36) (body := body36) (by kernel_rfl) (by kernel_rfl) (by kernel_rfl) rfl h
theorem t36i_e_ok (k : Nat) (rec : S36i → Option R36i) (ih : ∀ s r, rec s = some r → P36i s r) (x1_0 : Int) (x1_1 : Int) (b0_0 : Int) (b0_1 : Int) (b0_2 : Rs) (b0_3 : Rs) (b0_4 : Rs) (r : R36i) (h : t36i_e k rec x1_0 x1_1 b0_0 b0_1 b0_2 b0_3 b0_4 = some r) : P36i (.e x1_0 x1_1 b0_0 b0_1 b0_2 b0_3 b0_4) r := by
  unfold t36i_e at h
  exact mgo_at (nb := 1) hmix (ih _ _ h) (n := 7) (ad := []) (ps := []) (m := bm 34 17179865590) (ls := []) (cs := []) (by kernel_rfl) trivial
theorem t36i_h0_ok (k : Nat) (rec : S36i → Option R36i) (ih : ∀ s r, rec s = some r → P36i s r) (t10 : Int) (t11 : Int) (loc3_0 : Int) (loc3_1 : Int) (par0_0 : Int) (par0_1 : Int) (par0_2 : Rs) (par0_3 : Rs) (par0_4 : Rs) (r : R36i) (h : t36i_h0 k rec t10 t11 loc3_0 loc3_1 par0_0 par0_1 par0_2 par0_3 par0_4 = some r) : P36i (.h0 t10 t11 loc3_0 loc3_1 par0_0 par0_1 par0_2 par0_3 par0_4) r := by
  unfold t36i_h0 at h
  rcases bif_or h with ⟨h_x1, h⟩ | ⟨h_x1, h⟩
  ·
    obtain ⟨w_x2, h_x3, h⟩ := ixR_or h
    obtain ⟨kind_x4, bits_x4, hq, h1'⟩ := un_iu_or h
    clear h; subst hq; have h := h1'; clear h1'
    rcases bif_or h with ⟨h_x5, h⟩ | ⟨h_x5, h⟩
    ·
      rw [← Option.some.inj h]
      exact mgo_fin (nb := 1) hmix (n := 2000) (ad := [(some 12, .test true), (some 14, .bnd), (some 15, .ld [ic kind_x4, .val (.int .u64 bits_x4)]), (some 18, .test true)]) (ps := [_, _, _, _]) (by kernel_rfl) ⟨h_x1, ix_bnd h_x3, h_x3.2, h_x5, trivial⟩
    ·
      exact mgo_at (nb := 1) hmix (ih _ _ h) (n := 16) (ad := [(some 12, .test true), (some 14, .bnd), (some 15, .ld [ic kind_x4, .val (.int .u64 bits_x4)]), (some 18, .test false)]) (ps := [_, _, _, _]) (m := bm 34 17179865590) (ls := [6]) (cs := []) (by kernel_rfl) ⟨h_x1, ix_bnd h_x3, h_x3.2, h_x5, trivial⟩
  ·
    obtain ⟨h_x2, h⟩ := gd_or h
    rw [← Option.some.inj h]
    exact mgo_fin (nb := 1) hmix (n := 2000) (ad := [(some 12, .test false), (some 27, .okE false)]) (ps := [_, _]) (by kernel_rfl) ⟨h_x1, okF [[ic loc3_0, .val (.int .u64 loc3_1)]] h_x2, trivial⟩
theorem ok36i : ∀ k s r, itS step36i k s = some r → P36i s r := itS_ok fun k rec ih s r h => match s, h with
  | .e x1_0 x1_1 b0_0 b0_1 b0_2 b0_3 b0_4, h => t36i_e_ok k rec ih x1_0 x1_1 b0_0 b0_1 b0_2 b0_3 b0_4 r h
  | .h0 t10 t11 loc3_0 loc3_1 par0_0 par0_1 par0_2 par0_3 par0_4, h => t36i_h0_ok k rec ih t10 t11 loc3_0 loc3_1 par0_0 par0_1 par0_2 par0_3 par0_4 r h
theorem ev36i {k : Nat} {x1_0 : Int} {x1_1 : Int} {b0_0 : Int} {b0_1 : Int} {b0_2 : Rs} {b0_3 : Rs} {b0_4 : Rs} {r : R36i} (h : g36i k x1_0 x1_1 b0_0 b0_1 b0_2 b0_3 b0_4 = some r) : Ev Try.prog noHand 36 [.c (.ptr ⟨⟨.par 0, []⟩, 0, 3⟩), .ag [ic x1_0, .val (.int .u64 x1_1)]] [[ic b0_0, ic b0_1, .own 4 b0_2, .own 2 b0_3, .own 4 b0_4]] (res36i r) (bx36i r) := evr36i (ok36i _ _ _ h)
-- auspice/ssa.Drop
inductive S20 where
  | e (c0_0 : Int) (c0_1 : Int) (c0_2 : Rs) (c0_3 : Rs) (c0_4 : Rs)
  | h0 (loc2_0 : Int) (loc2_1 : Int) (loc2_2 : Rs) (loc2_3 : Rs) (loc2_4 : Rs)
  | h1 (need3 : Rs) (i4 : Int) (loc2_0 : Int) (loc2_1 : Int) (loc1_0 : Int) (loc1_1 : Int) (loc1_2 : Rs) (loc1_3 : Rs) (loc1_4 : Rs)
  | h2 (need3 : Rs) (i4 : Int) (t34 : Bool) (loc2_0 : Int) (loc2_1 : Int) (loc1_0 : Int) (loc1_1 : Int) (loc1_2 : Rs) (loc1_3 : Rs) (loc1_4 : Rs)
  | h3 (need3 : Rs) (became8 : Rs) (t54 : Rs) (t55 : Int) (t56 : Int) (loc7_0 : Int) (loc7_1 : Int) (loc7_2 : Rs) (loc7_3 : Rs) (loc7_4 : Rs) (loc2_0 : Int) (loc2_1 : Int) (loc1_0 : Int) (loc1_1 : Int) (loc1_2 : Rs) (loc1_3 : Rs) (loc1_4 : Rs)
  | h4 (need3 : Rs) (i4 : Int) (t40 : Rs) (t41 : Int) (t42 : Int) (loc2_0 : Int) (loc2_1 : Int) (loc1_0 : Int) (loc1_1 : Int) (loc1_2 : Rs) (loc1_3 : Rs) (loc1_4 : Rs)
  | h5 (need3 : Rs) (i4 : Int) (loc2_0 : Int) (loc2_1 : Int) (loc1_0 : Int) (loc1_1 : Int) (loc1_2 : Rs) (loc1_3 : Rs) (loc1_4 : Rs)
  | h6 (need3 : Rs) (became8 : Rs) (i9 : Int) (t54 : Rs) (t55 : Int) (t56 : Int) (t71 : Bool) (loc10_0 : Int) (loc10_1 : Int) (loc10_2 : Int) (loc10_3 : Int) (loc7_0 : Int) (loc7_1 : Int) (loc7_2 : Rs) (loc7_3 : Rs) (loc7_4 : Rs) (loc2_0 : Int) (loc2_1 : Int) (loc1_0 : Int) (loc1_1 : Int) (loc1_2 : Rs) (loc1_3 : Rs) (loc1_4 : Rs)
  | h7 (loc2_0 : Int) (loc2_1 : Int) (loc2_2 : Rs) (loc2_3 : Rs) (loc2_4 : Rs)
  | h8 (need3 : Rs) (i4 : Int) (t40 : Rs) (t41 : Int) (t42 : Int) (loc2_0 : Int) (loc2_1 : Int) (loc1_0 : Int) (loc1_1 : Int) (loc1_2 : Rs) (loc1_3 : Rs) (loc1_4 : Rs)
  | h9 (need3 : Rs) (became8 : Rs) (t54 : Rs) (t55 : Int) (t56 : Int) (loc7_0 : Int) (loc7_1 : Int) (loc7_2 : Rs) (loc7_3 : Rs) (loc7_4 : Rs) (loc2_0 : Int) (loc2_1 : Int) (loc1_0 : Int) (loc1_1 : Int) (loc1_2 : Rs) (loc1_3 : Rs) (loc1_4 : Rs)
  | h10 (need3 : Rs) (became8 : Rs) (i9 : Int) (t54 : Rs) (t55 : Int) (t56 : Int) (loc10_0 : Int) (loc10_1 : Int) (loc10_2 : Int) (loc10_3 : Int) (loc7_0 : Int) (loc7_1 : Int) (loc7_2 : Rs) (loc7_3 : Rs) (loc7_4 : Rs) (loc2_0 : Int) (loc2_1 : Int) (loc1_0 : Int) (loc1_1 : Int) (loc1_2 : Rs) (loc1_3 : Rs) (loc1_4 : Rs)
  | h11 (need3 : Rs) (became8 : Rs) (t54 : Rs) (t55 : Int) (t56 : Int) (loc10_0 : Int) (loc10_1 : Int) (loc10_2 : Int) (loc10_3 : Int) (loc7_0 : Int) (loc7_1 : Int) (loc7_2 : Rs) (loc7_3 : Rs) (loc7_4 : Rs) (loc2_0 : Int) (loc2_1 : Int) (loc1_0 : Int) (loc1_1 : Int) (loc1_2 : Rs) (loc1_3 : Rs) (loc1_4 : Rs)
abbrev R20 := Int × Int × Rs × Rs × Rs
def res20 : R20 → ARes
  | (r_0, r_1, r_2, r_3, r_4) => .ret (.ag [ic r_0, ic r_1, .imm r_2, .imm r_3, .imm r_4])
def bx20 : R20 → List (List Cell)
  | (r_0, r_1, r_2, r_3, r_4) => []
noncomputable def t20_e (k : Nat) (rec : S20 → Option R20) (c0_0 : Int) (c0_1 : Int) (c0_2 : Rs) (c0_3 : Rs) (c0_4 : Rs) : Option R20 :=
  (g15 k c0_0 c0_1 c0_2 c0_3 c0_4).bind fun v_x1 =>
  bif !v_x1 then
    rec (.h0 0 0 [] [] [])
  else
    gd (mkOk c0_0 c0_0 1 1) <|
    rec (.h1 (List.replicate c0_0.toNat [bc false]) c0_0 0 0 c0_0 c0_1 c0_2 c0_3 c0_4)
noncomputable def t20_h0 (k : Nat) (rec : S20 → Option R20) (loc2_0 : Int) (loc2_1 : Int) (loc2_2 : Rs) (loc2_3 : Rs) (loc2_4 : Rs) : Option R20 :=
  some (loc2_0, loc2_1, loc2_2, loc2_3, loc2_4)
noncomputable def t20_h1 (k : Nat) (rec : S20 → Option R20) (need3 : Rs) (i4 : Int) (loc2_0 : Int) (loc2_1 : Int) (loc1_0 : Int) (loc1_1 : Int) (loc1_2 : Rs) (loc1_3 : Rs) (loc1_4 : Rs) : Option R20 :=
  bif decide (i4 ≥ 0) then
    bif i4 == loc1_0 then
      rec (.h2 need3 i4 true loc2_0 loc2_1 loc1_0 loc1_1 loc1_2 loc1_3 loc1_4)
    else
      ixR need3 i4 fun w_x3 =>
      un_b w_x3 fun x_x5 =>
      rec (.h2 need3 i4 x_x5 loc2_0 loc2_1 loc1_0 loc1_1 loc1_2 loc1_3 loc1_4)
  else
    gd (mkOk loc1_0 loc1_0 8 1) <|
    rec (.h3 need3 (List.replicate loc1_0.toNat [ic 0]) loc1_4 (loc1_4.length : Int) 0 0 0 [] [] [] loc2_0 loc2_1 loc1_0 loc1_1 loc1_2 loc1_3 loc1_4)
noncomputable def t20_h2 (k : Nat) (rec : S20 → Option R20) (need3 : Rs) (i4 : Int) (t34 : Bool) (loc2_0 : Int) (loc2_1 : Int) (loc1_0 : Int) (loc1_1 : Int) (loc1_2 : Rs) (loc1_3 : Rs) (loc1_4 : Rs) : Option R20 :=
  bif t34 then
    ixR loc1_4 i4 fun w_x1 =>
    un_i4 w_x1 fun op_x3 dst_x3 a_x3 b_x3 =>
    (g34 k op_x3 dst_x3 a_x3 b_x3).bind fun v_x4 =>
    rec (.h4 need3 i4 v_x4 (v_x4.length : Int) 0 loc2_0 loc2_1 loc1_0 loc1_1 loc1_2 loc1_3 loc1_4)
  else
    rec (.h5 need3 i4 loc2_0 loc2_1 loc1_0 loc1_1 loc1_2 loc1_3 loc1_4)
noncomputable def t20_h3 (k : Nat) (rec : S20 → Option R20) (need3 : Rs) (became8 : Rs) (t54 : Rs) (t55 : Int) (t56 : Int) (loc7_0 : Int) (loc7_1 : Int) (loc7_2 : Rs) (loc7_3 : Rs) (loc7_4 : Rs) (loc2_0 : Int) (loc2_1 : Int) (loc1_0 : Int) (loc1_1 : Int) (loc1_2 : Rs) (loc1_3 : Rs) (loc1_4 : Rs) : Option R20 :=
  bif decide (t56 < t55) then
    ixR t54 t56 fun w_x2 =>
    un_i4 w_x2 fun op_x4 dst_x4 a_x4 b_x4 =>
    bif decide (t56 < loc1_0) then
      ixR need3 t56 fun w_x6 =>
      un_b w_x6 fun x_x8 =>
      rec (.h6 need3 became8 t56 t54 t55 t56 (!x_x8) op_x4 dst_x4 a_x4 b_x4 loc7_0 loc7_1 loc7_2 loc7_3 loc7_4 loc2_0 loc2_1 loc1_0 loc1_1 loc1_2 loc1_3 loc1_4)
    else
      rec (.h6 need3 became8 t56 t54 t55 t56 false op_x4 dst_x4 a_x4 b_x4 loc7_0 loc7_1 loc7_2 loc7_3 loc7_4 loc2_0 loc2_1 loc1_0 loc1_1 loc1_2 loc1_3 loc1_4)
  else
    rec (.h7 (IntKind.i64.wrap ((loc7_4.length : Int) - 1)) loc7_1 (immRs loc7_2) (immRs loc7_3) (immRs loc7_4))
noncomputable def t20_h4 (k : Nat) (rec : S20 → Option R20) (need3 : Rs) (i4 : Int) (t40 : Rs) (t41 : Int) (t42 : Int) (loc2_0 : Int) (loc2_1 : Int) (loc1_0 : Int) (loc1_1 : Int) (loc1_2 : Rs) (loc1_3 : Rs) (loc1_4 : Rs) : Option R20 :=
  bif decide (t42 < t41) then
    ixR t40 t42 fun w_x2 =>
    un_i w_x2 fun x_x4 =>
    ixR need3 x_x4 fun w_x5 =>
    un_b w_x5 fun x_x7 =>
    rec (.h8 (setRow need3 x_x4.toNat 0 (bc true)) i4 t40 t41 t42 loc2_0 loc2_1 loc1_0 loc1_1 loc1_2 loc1_3 loc1_4)
  else
    rec (.h5 need3 i4 loc2_0 loc2_1 loc1_0 loc1_1 loc1_2 loc1_3 loc1_4)
noncomputable def t20_h5 (k : Nat) (rec : S20 → Option R20) (need3 : Rs) (i4 : Int) (loc2_0 : Int) (loc2_1 : Int) (loc1_0 : Int) (loc1_1 : Int) (loc1_2 : Rs) (loc1_3 : Rs) (loc1_4 : Rs) : Option R20 :=
  rec (.h1 need3 (IntKind.i64.wrap (i4 - 1)) loc2_0 loc2_1 loc1_0 loc1_1 loc1_2 loc1_3 loc1_4)
noncomputable def t20_h6 (k : Nat) (rec : S20 → Option R20) (need3 : Rs) (became8 : Rs) (i9 : Int) (t54 : Rs) (t55 : Int) (t56 : Int) (t71 : Bool) (loc10_0 : Int) (loc10_1 : Int) (loc10_2 : Int) (loc10_3 : Int) (loc7_0 : Int) (loc7_1 : Int) (loc7_2 : Rs) (loc7_3 : Rs) (loc7_4 : Rs) (loc2_0 : Int) (loc2_1 : Int) (loc1_0 : Int) (loc1_1 : Int) (loc1_2 : Rs) (loc1_3 : Rs) (loc1_4 : Rs) : Option R20 :=
  bif t71 then
    rec (.h9 need3 became8 t54 t55 t56 loc7_0 loc7_1 loc7_2 loc7_3 loc7_4 loc2_0 loc2_1 loc1_0 loc1_1 loc1_2 loc1_3 loc1_4)
  else
    bif loc10_0 == 50 then
      ixR loc1_2 loc10_2 fun w_x2 =>
      un_i4 w_x2 fun op_x4 kind_x4 pos_x4 attr_x4 =>
      (g35h k op_x4 kind_x4 pos_x4 attr_x4 loc7_0 loc7_1 loc7_2 loc7_3 loc7_4).bind fun v_x5 =>
      tup6 v_x5 fun r_x7 rb00_x7 rb01_x7 rb02_x7 rb03_x7 rb04_x7 =>
      rec (.h10 need3 became8 i9 t54 t55 t56 loc10_0 loc10_1 r_x7 loc10_3 rb00_x7 rb01_x7 rb02_x7 rb03_x7 rb04_x7 loc2_0 loc2_1 loc1_0 loc1_1 loc1_2 loc1_3 loc1_4)
    else
      bif loc10_0 == 51 then
        ixR loc1_3 loc10_2 fun w_x3 =>
        un_iu w_x3 fun kind_x5 bits_x5 =>
        (g36i k kind_x5 bits_x5 loc7_0 loc7_1 loc7_2 loc7_3 loc7_4).bind fun v_x6 =>
        tup6 v_x6 fun r_x8 rb00_x8 rb01_x8 rb02_x8 rb03_x8 rb04_x8 =>
        rec (.h10 need3 became8 i9 t54 t55 t56 loc10_0 loc10_1 r_x8 loc10_3 rb00_x8 rb01_x8 rb02_x8 rb03_x8 rb04_x8 loc2_0 loc2_1 loc1_0 loc1_1 loc1_2 loc1_3 loc1_4)
      else
        (g34 k loc10_0 loc10_1 loc10_2 loc10_3).bind fun v_x3 =>
        bif (v_x3.length : Int) == 2 then
          ixR became8 loc10_2 fun w_x6 =>
          un_i w_x6 fun x_x8 =>
          ixR became8 loc10_3 fun w_x9 =>
          un_i w_x9 fun x_x11 =>
          rec (.h10 need3 became8 i9 t54 t55 t56 loc10_0 loc10_1 x_x8 x_x11 loc7_0 loc7_1 loc7_2 loc7_3 loc7_4 loc2_0 loc2_1 loc1_0 loc1_1 loc1_2 loc1_3 loc1_4)
        else
          ixR became8 loc10_2 fun w_x6 =>
          un_i w_x6 fun x_x8 =>
          rec (.h10 need3 became8 i9 t54 t55 t56 loc10_0 loc10_1 x_x8 loc10_3 loc7_0 loc7_1 loc7_2 loc7_3 loc7_4 loc2_0 loc2_1 loc1_0 loc1_1 loc1_2 loc1_3 loc1_4)
noncomputable def t20_h7 (k : Nat) (rec : S20 → Option R20) (loc2_0 : Int) (loc2_1 : Int) (loc2_2 : Rs) (loc2_3 : Rs) (loc2_4 : Rs) : Option R20 :=
  some (loc2_0, loc2_1, loc2_2, loc2_3, loc2_4)
noncomputable def t20_h8 (k : Nat) (rec : S20 → Option R20) (need3 : Rs) (i4 : Int) (t40 : Rs) (t41 : Int) (t42 : Int) (loc2_0 : Int) (loc2_1 : Int) (loc1_0 : Int) (loc1_1 : Int) (loc1_2 : Rs) (loc1_3 : Rs) (loc1_4 : Rs) : Option R20 :=
  rec (.h4 need3 i4 t40 t41 (IntKind.i64.wrap (t42 + 1)) loc2_0 loc2_1 loc1_0 loc1_1 loc1_2 loc1_3 loc1_4)
noncomputable def t20_h9 (k : Nat) (rec : S20 → Option R20) (need3 : Rs) (became8 : Rs) (t54 : Rs) (t55 : Int) (t56 : Int) (loc7_0 : Int) (loc7_1 : Int) (loc7_2 : Rs) (loc7_3 : Rs) (loc7_4 : Rs) (loc2_0 : Int) (loc2_1 : Int) (loc1_0 : Int) (loc1_1 : Int) (loc1_2 : Rs) (loc1_3 : Rs) (loc1_4 : Rs) : Option R20 :=
  rec (.h3 need3 became8 t54 t55 (IntKind.i64.wrap (t56 + 1)) loc7_0 loc7_1 loc7_2 loc7_3 loc7_4 loc2_0 loc2_1 loc1_0 loc1_1 loc1_2 loc1_3 loc1_4)
noncomputable def t20_h10 (k : Nat) (rec : S20 → Option R20) (need3 : Rs) (became8 : Rs) (i9 : Int) (t54 : Rs) (t55 : Int) (t56 : Int) (loc10_0 : Int) (loc10_1 : Int) (loc10_2 : Int) (loc10_3 : Int) (loc7_0 : Int) (loc7_1 : Int) (loc7_2 : Rs) (loc7_3 : Rs) (loc7_4 : Rs) (loc2_0 : Int) (loc2_1 : Int) (loc1_0 : Int) (loc1_1 : Int) (loc1_2 : Rs) (loc1_3 : Rs) (loc1_4 : Rs) : Option R20 :=
  bif decide (i9 < loc1_0) then
    ixR became8 i9 fun w_x2 =>
    un_i w_x2 fun x_x4 =>
    rec (.h11 need3 (setRow became8 i9.toNat 0 (ic (loc7_4.length : Int))) t54 t55 t56 loc10_0 (loc7_4.length : Int) loc10_2 loc10_3 loc7_0 loc7_1 loc7_2 loc7_3 loc7_4 loc2_0 loc2_1 loc1_0 loc1_1 loc1_2 loc1_3 loc1_4)
  else
    rec (.h11 need3 became8 t54 t55 t56 loc10_0 loc10_1 loc10_2 loc10_3 loc7_0 loc7_1 loc7_2 loc7_3 loc7_4 loc2_0 loc2_1 loc1_0 loc1_1 loc1_2 loc1_3 loc1_4)
noncomputable def t20_h11 (k : Nat) (rec : S20 → Option R20) (need3 : Rs) (became8 : Rs) (t54 : Rs) (t55 : Int) (t56 : Int) (loc10_0 : Int) (loc10_1 : Int) (loc10_2 : Int) (loc10_3 : Int) (loc7_0 : Int) (loc7_1 : Int) (loc7_2 : Rs) (loc7_3 : Rs) (loc7_4 : Rs) (loc2_0 : Int) (loc2_1 : Int) (loc1_0 : Int) (loc1_1 : Int) (loc1_2 : Rs) (loc1_3 : Rs) (loc1_4 : Rs) : Option R20 :=
  gd (apOk 32 4 loc7_4 [[ic loc10_0, ic loc10_1, ic loc10_2, ic loc10_3]]) <|
  rec (.h9 need3 became8 t54 t55 t56 loc7_0 loc7_1 loc7_2 loc7_3 (loc7_4 ++ [[ic loc10_0, ic loc10_1, ic loc10_2, ic loc10_3]]) loc2_0 loc2_1 loc1_0 loc1_1 loc1_2 loc1_3 loc1_4)
noncomputable def step20 (k : Nat) (rec : S20 → Option R20) : S20 → Option R20
  | .e c0_0 c0_1 c0_2 c0_3 c0_4 => t20_e k rec c0_0 c0_1 c0_2 c0_3 c0_4
  | .h0 loc2_0 loc2_1 loc2_2 loc2_3 loc2_4 => t20_h0 k rec loc2_0 loc2_1 loc2_2 loc2_3 loc2_4
  | .h1 need3 i4 loc2_0 loc2_1 loc1_0 loc1_1 loc1_2 loc1_3 loc1_4 => t20_h1 k rec need3 i4 loc2_0 loc2_1 loc1_0 loc1_1 loc1_2 loc1_3 loc1_4
  | .h2 need3 i4 t34 loc2_0 loc2_1 loc1_0 loc1_1 loc1_2 loc1_3 loc1_4 => t20_h2 k rec need3 i4 t34 loc2_0 loc2_1 loc1_0 loc1_1 loc1_2 loc1_3 loc1_4
  | .h3 need3 became8 t54 t55 t56 loc7_0 loc7_1 loc7_2 loc7_3 loc7_4 loc2_0 loc2_1 loc1_0 loc1_1 loc1_2 loc1_3 loc1_4 => t20_h3 k rec need3 became8 t54 t55 t56 loc7_0 loc7_1 loc7_2 loc7_3 loc7_4 loc2_0 loc2_1 loc1_0 loc1_1 loc1_2 loc1_3 loc1_4
  | .h4 need3 i4 t40 t41 t42 loc2_0 loc2_1 loc1_0 loc1_1 loc1_2 loc1_3 loc1_4 => t20_h4 k rec need3 i4 t40 t41 t42 loc2_0 loc2_1 loc1_0 loc1_1 loc1_2 loc1_3 loc1_4
  | .h5 need3 i4 loc2_0 loc2_1 loc1_0 loc1_1 loc1_2 loc1_3 loc1_4 => t20_h5 k rec need3 i4 loc2_0 loc2_1 loc1_0 loc1_1 loc1_2 loc1_3 loc1_4
  | .h6 need3 became8 i9 t54 t55 t56 t71 loc10_0 loc10_1 loc10_2 loc10_3 loc7_0 loc7_1 loc7_2 loc7_3 loc7_4 loc2_0 loc2_1 loc1_0 loc1_1 loc1_2 loc1_3 loc1_4 => t20_h6 k rec need3 became8 i9 t54 t55 t56 t71 loc10_0 loc10_1 loc10_2 loc10_3 loc7_0 loc7_1 loc7_2 loc7_3 loc7_4 loc2_0 loc2_1 loc1_0 loc1_1 loc1_2 loc1_3 loc1_4
  | .h7 loc2_0 loc2_1 loc2_2 loc2_3 loc2_4 => t20_h7 k rec loc2_0 loc2_1 loc2_2 loc2_3 loc2_4
  | .h8 need3 i4 t40 t41 t42 loc2_0 loc2_1 loc1_0 loc1_1 loc1_2 loc1_3 loc1_4 => t20_h8 k rec need3 i4 t40 t41 t42 loc2_0 loc2_1 loc1_0 loc1_1 loc1_2 loc1_3 loc1_4
  | .h9 need3 became8 t54 t55 t56 loc7_0 loc7_1 loc7_2 loc7_3 loc7_4 loc2_0 loc2_1 loc1_0 loc1_1 loc1_2 loc1_3 loc1_4 => t20_h9 k rec need3 became8 t54 t55 t56 loc7_0 loc7_1 loc7_2 loc7_3 loc7_4 loc2_0 loc2_1 loc1_0 loc1_1 loc1_2 loc1_3 loc1_4
  | .h10 need3 became8 i9 t54 t55 t56 loc10_0 loc10_1 loc10_2 loc10_3 loc7_0 loc7_1 loc7_2 loc7_3 loc7_4 loc2_0 loc2_1 loc1_0 loc1_1 loc1_2 loc1_3 loc1_4 => t20_h10 k rec need3 became8 i9 t54 t55 t56 loc10_0 loc10_1 loc10_2 loc10_3 loc7_0 loc7_1 loc7_2 loc7_3 loc7_4 loc2_0 loc2_1 loc1_0 loc1_1 loc1_2 loc1_3 loc1_4
  | .h11 need3 became8 t54 t55 t56 loc10_0 loc10_1 loc10_2 loc10_3 loc7_0 loc7_1 loc7_2 loc7_3 loc7_4 loc2_0 loc2_1 loc1_0 loc1_1 loc1_2 loc1_3 loc1_4 => t20_h11 k rec need3 became8 t54 t55 t56 loc10_0 loc10_1 loc10_2 loc10_3 loc7_0 loc7_1 loc7_2 loc7_3 loc7_4 loc2_0 loc2_1 loc1_0 loc1_1 loc1_2 loc1_3 loc1_4
noncomputable def g20 (k : Nat) (c0_0 : Int) (c0_1 : Int) (c0_2 : Rs) (c0_3 : Rs) (c0_4 : Rs) : Option R20 := itS step20 k (.e c0_0 c0_1 c0_2 c0_3 c0_4)
noncomputable def P20 : S20 → R20 → Prop
  | .e c0_0 c0_1 c0_2 c0_3 c0_4, r => Fin cx20 Try.f20 [.code body20] (fr0 Try.f20 [.ag [ic c0_0, ic c0_1, .imm c0_2, .imm c0_3, .imm c0_4]] []) (res20 r) (bx20 r)
  | .h0 loc2_0 loc2_1 loc2_2 loc2_3 loc2_4, r => Fin cx20 Try.f20 (kAt body20 [1, 0, 1, 0, 1, 2] []) ⟨[.deadv, .deadv, .c (.ptr ⟨⟨.loc 2, []⟩, 0, 0⟩)] ++ rep 142 .deadv, [(.loc 2, [ic loc2_0, ic loc2_1, .imm loc2_2, .imm loc2_3, .imm loc2_4])]⟩ (res20 r) (bx20 r)
  | .h1 need3 i4 loc2_0 loc2_1 loc1_0 loc1_1 loc1_2 loc1_3 loc1_4, r => Fin cx20 Try.f20 (kAt body20 [1, 1, 1, 0, 1, 0, 4] []) ⟨[.deadv, .c (.ptr ⟨⟨.loc 1, []⟩, 0, 0⟩), .c (.ptr ⟨⟨.loc 2, []⟩, 0, 0⟩), .c (.own 1 need3), .c (ic i4)] ++ rep 140 .deadv, [(.loc 2, [ic loc2_0, ic loc2_1, .nil, .nil, .nil]), (.loc 1, [ic loc1_0, ic loc1_1, .imm loc1_2, .imm loc1_3, .imm loc1_4])]⟩ (res20 r) (bx20 r)
  | .h2 need3 i4 t34 loc2_0 loc2_1 loc1_0 loc1_1 loc1_2 loc1_3 loc1_4, r => Fin cx20 Try.f20 (kAt body20 [1, 1, 1, 0, 1, 0, 0, 1, 0, 0, 1, 2] []) ⟨[.deadv, .c (.ptr ⟨⟨.loc 1, []⟩, 0, 0⟩), .c (.ptr ⟨⟨.loc 2, []⟩, 0, 0⟩), .c (.own 1 need3), .c (ic i4)] ++ rep 29 .deadv ++ [.c (bc t34)] ++ rep 110 .deadv, [(.loc 2, [ic loc2_0, ic loc2_1, .nil, .nil, .nil]), (.loc 1, [ic loc1_0, ic loc1_1, .imm loc1_2, .imm loc1_3, .imm loc1_4])]⟩ (res20 r) (bx20 r)
  | .h3 need3 became8 t54 t55 t56 loc7_0 loc7_1 loc7_2 loc7_3 loc7_4 loc2_0 loc2_1 loc1_0 loc1_1 loc1_2 loc1_3 loc1_4, r => Fin cx20 Try.f20 (kAt body20 [1, 1, 1, 1, 1, 1, 0, 1, 0, 4] []) ⟨[.deadv, .c (.ptr ⟨⟨.loc 1, []⟩, 0, 0⟩), .c (.ptr ⟨⟨.loc 2, []⟩, 0, 0⟩), .c (.own 1 need3)] ++ rep 3 .deadv ++ [.c (.ptr ⟨⟨.loc 7, []⟩, 0, 0⟩), .c (.own 1 became8)] ++ rep 45 .deadv ++ [.c (.imm t54), .c (ic t55), .c (ic t56)] ++ rep 88 .deadv, [(.loc 7, [ic loc7_0, ic loc7_1, .own 4 loc7_2, .own 2 loc7_3, .own 4 loc7_4]), (.loc 2, [ic loc2_0, ic loc2_1, .nil, .nil, .nil]), (.loc 1, [ic loc1_0, ic loc1_1, .imm loc1_2, .imm loc1_3, .imm loc1_4])]⟩ (res20 r) (bx20 r)
  | .h4 need3 i4 t40 t41 t42 loc2_0 loc2_1 loc1_0 loc1_1 loc1_2 loc1_3 loc1_4, r => Fin cx20 Try.f20 (kAt body20 [1, 1, 1, 0, 1, 0, 0, 1, 0, 0, 1, 0, 1, 0, 4] []) ⟨[.deadv, .c (.ptr ⟨⟨.loc 1, []⟩, 0, 0⟩), .c (.ptr ⟨⟨.loc 2, []⟩, 0, 0⟩), .c (.own 1 need3), .c (ic i4)] ++ rep 35 .deadv ++ [.c (.own 1 t40), .c (ic t41), .c (ic t42)] ++ rep 102 .deadv, [(.loc 2, [ic loc2_0, ic loc2_1, .nil, .nil, .nil]), (.loc 1, [ic loc1_0, ic loc1_1, .imm loc1_2, .imm loc1_3, .imm loc1_4])]⟩ (res20 r) (bx20 r)
  | .h5 need3 i4 loc2_0 loc2_1 loc1_0 loc1_1 loc1_2 loc1_3 loc1_4, r => Fin cx20 Try.f20 (kAt body20 [1, 1, 1, 0, 1, 0, 0, 1, 1, 2] []) ⟨[.deadv, .c (.ptr ⟨⟨.loc 1, []⟩, 0, 0⟩), .c (.ptr ⟨⟨.loc 2, []⟩, 0, 0⟩), .c (.own 1 need3), .c (ic i4)] ++ rep 140 .deadv, [(.loc 2, [ic loc2_0, ic loc2_1, .nil, .nil, .nil]), (.loc 1, [ic loc1_0, ic loc1_1, .imm loc1_2, .imm loc1_3, .imm loc1_4])]⟩ (res20 r) (bx20 r)
  | .h6 need3 became8 i9 t54 t55 t56 t71 loc10_0 loc10_1 loc10_2 loc10_3 loc7_0 loc7_1 loc7_2 loc7_3 loc7_4 loc2_0 loc2_1 loc1_0 loc1_1 loc1_2 loc1_3 loc1_4, r => Fin cx20 Try.f20 (kAt body20 [1, 1, 1, 1, 1, 1, 0, 1, 0, 0, 1, 1, 0, 0, 1, 0, 1, 2] []) ⟨[.deadv, .c (.ptr ⟨⟨.loc 1, []⟩, 0, 0⟩), .c (.ptr ⟨⟨.loc 2, []⟩, 0, 0⟩), .c (.own 1 need3)] ++ rep 3 .deadv ++ [.c (.ptr ⟨⟨.loc 7, []⟩, 0, 0⟩), .c (.own 1 became8), .c (ic i9), .c (.ptr ⟨⟨.loc 10, []⟩, 0, 0⟩)] ++ rep 43 .deadv ++ [.c (.imm t54), .c (ic t55), .c (ic t56)] ++ rep 14 .deadv ++ [.c (bc t71)] ++ rep 73 .deadv, [(.loc 10, [ic loc10_0, ic loc10_1, ic loc10_2, ic loc10_3]), (.loc 7, [ic loc7_0, ic loc7_1, .own 4 loc7_2, .own 2 loc7_3, .own 4 loc7_4]), (.loc 2, [ic loc2_0, ic loc2_1, .nil, .nil, .nil]), (.loc 1, [ic loc1_0, ic loc1_1, .imm loc1_2, .imm loc1_3, .imm loc1_4])]⟩ (res20 r) (bx20 r)
  | .h7 loc2_0 loc2_1 loc2_2 loc2_3 loc2_4, r => Fin cx20 Try.f20 (kAt body20 [1, 1, 1, 1, 1, 1, 1, 1, 1, 2] []) ⟨[.deadv, .deadv, .c (.ptr ⟨⟨.loc 2, []⟩, 0, 0⟩)] ++ rep 142 .deadv, [(.loc 2, [ic loc2_0, ic loc2_1, .imm loc2_2, .imm loc2_3, .imm loc2_4])]⟩ (res20 r) (bx20 r)
  | .h8 need3 i4 t40 t41 t42 loc2_0 loc2_1 loc1_0 loc1_1 loc1_2 loc1_3 loc1_4, r => Fin cx20 Try.f20 (kAt body20 [1, 1, 1, 0, 1, 0, 0, 1, 0, 0, 1, 0, 1, 0, 0, 1, 1, 1, 2] []) ⟨[.deadv, .c (.ptr ⟨⟨.loc 1, []⟩, 0, 0⟩), .c (.ptr ⟨⟨.loc 2, []⟩, 0, 0⟩), .c (.own 1 need3), .c (ic i4)] ++ rep 35 .deadv ++ [.c (.own 1 t40), .c (ic t41), .c (ic t42)] ++ rep 102 .deadv, [(.loc 2, [ic loc2_0, ic loc2_1, .nil, .nil, .nil]), (.loc 1, [ic loc1_0, ic loc1_1, .imm loc1_2, .imm loc1_3, .imm loc1_4])]⟩ (res20 r) (bx20 r)
  | .h9 need3 became8 t54 t55 t56 loc7_0 loc7_1 loc7_2 loc7_3 loc7_4 loc2_0 loc2_1 loc1_0 loc1_1 loc1_2 loc1_3 loc1_4, r => Fin cx20 Try.f20 (kAt body20 [1, 1, 1, 1, 1, 1, 0, 1, 0, 0, 1, 1, 1, 2] []) ⟨[.deadv, .c (.ptr ⟨⟨.loc 1, []⟩, 0, 0⟩), .c (.ptr ⟨⟨.loc 2, []⟩, 0, 0⟩), .c (.own 1 need3)] ++ rep 3 .deadv ++ [.c (.ptr ⟨⟨.loc 7, []⟩, 0, 0⟩), .c (.own 1 became8)] ++ rep 45 .deadv ++ [.c (.imm t54), .c (ic t55), .c (ic t56)] ++ rep 88 .deadv, [(.loc 7, [ic loc7_0, ic loc7_1, .own 4 loc7_2, .own 2 loc7_3, .own 4 loc7_4]), (.loc 2, [ic loc2_0, ic loc2_1, .nil, .nil, .nil]), (.loc 1, [ic loc1_0, ic loc1_1, .imm loc1_2, .imm loc1_3, .imm loc1_4])]⟩ (res20 r) (bx20 r)
  | .h10 need3 became8 i9 t54 t55 t56 loc10_0 loc10_1 loc10_2 loc10_3 loc7_0 loc7_1 loc7_2 loc7_3 loc7_4 loc2_0 loc2_1 loc1_0 loc1_1 loc1_2 loc1_3 loc1_4, r => Fin cx20 Try.f20 (kAt body20 [1, 1, 1, 1, 1, 1, 0, 1, 0, 0, 1, 1, 0, 0, 1, 1, 1, 2] []) ⟨[.deadv, .c (.ptr ⟨⟨.loc 1, []⟩, 0, 0⟩), .c (.ptr ⟨⟨.loc 2, []⟩, 0, 0⟩), .c (.own 1 need3)] ++ rep 3 .deadv ++ [.c (.ptr ⟨⟨.loc 7, []⟩, 0, 0⟩), .c (.own 1 became8), .c (ic i9), .c (.ptr ⟨⟨.loc 10, []⟩, 0, 0⟩)] ++ rep 43 .deadv ++ [.c (.imm t54), .c (ic t55), .c (ic t56)] ++ rep 88 .deadv, [(.loc 10, [ic loc10_0, ic loc10_1, ic loc10_2, ic loc10_3]), (.loc 7, [ic loc7_0, ic loc7_1, .own 4 loc7_2, .own 2 loc7_3, .own 4 loc7_4]), (.loc 2, [ic loc2_0, ic loc2_1, .nil, .nil, .nil]), (.loc 1, [ic loc1_0, ic loc1_1, .imm loc1_2, .imm loc1_3, .imm loc1_4])]⟩ (res20 r) (bx20 r)
  | .h11 need3 became8 t54 t55 t56 loc10_0 loc10_1 loc10_2 loc10_3 loc7_0 loc7_1 loc7_2 loc7_3 loc7_4 loc2_0 loc2_1 loc1_0 loc1_1 loc1_2 loc1_3 loc1_4, r => Fin cx20 Try.f20 (kAt body20 [1, 1, 1, 1, 1, 1, 0, 1, 0, 0, 1, 1, 0, 0, 1, 1, 1, 1, 2] []) ⟨[.deadv, .c (.ptr ⟨⟨.loc 1, []⟩, 0, 0⟩), .c (.ptr ⟨⟨.loc 2, []⟩, 0, 0⟩), .c (.own 1 need3)] ++ rep 3 .deadv ++ [.c (.ptr ⟨⟨.loc 7, []⟩, 0, 0⟩), .c (.own 1 became8), .deadv, .c (.ptr ⟨⟨.loc 10, []⟩, 0, 0⟩)] ++ rep 43 .deadv ++ [.c (.imm t54), .c (ic t55), .c (ic t56)] ++ rep 88 .deadv, [(.loc 10, [ic loc10_0, ic loc10_1, ic loc10_2, ic loc10_3]), (.loc 7, [ic loc7_0, ic loc7_1, .own 4 loc7_2, .own 2 loc7_3, .own 4 loc7_4]), (.loc 2, [ic loc2_0, ic loc2_1, .nil, .nil, .nil]), (.loc 1, [ic loc1_0, ic loc1_1, .imm loc1_2, .imm loc1_3, .imm loc1_4])]⟩ (res20 r) (bx20 r)
theorem evr20 {c0_0 : Int} {c0_1 : Int} {c0_2 : Rs} {c0_3 : Rs} {c0_4 : Rs} {r : R20} (h : P20 (.e c0_0 c0_1 c0_2 c0_3 c0_4) r) : Ev Try.prog noHand 20 [.ag [ic c0_0, ic c0_1, .imm c0_2, .imm c0_3, .imm c0_4]] [] (res20 r) (bx20 r) := ev_of_fin (fn := Try.f20) (body := body20) (by kernel_rfl) (by kernel_rfl) (by kernel_rfl) rfl h
theorem t20_e_ok (k : Nat) (rec : S20 → Option R20) (ih : ∀ s r, rec s = some r → P20 s r) (c0_0 : Int) (c0_1 : Int) (c0_2 : Rs) (c0_3 : Rs) (c0_4 : Rs) (r : R20) (h : t20_e k rec c0_0 c0_1 c0_2 c0_3 c0_4 = some r) : P20 (.e c0_0 c0_1 c0_2 c0_3 c0_4) r := by
  unfold t20_e at h
  obtain ⟨v_x1, h_x2, h⟩ := bd_or h
  rcases bif_or h with ⟨h_x3, h⟩ | ⟨h_x3, h⟩
  ·
    exact mgo_at (nb := 0) hmix (ih _ _ h) (n := 8) (ad := [(some 13, .call (.ret (.c (bc v_x1))) [] false), (some 14, .test true)]) (ps := [_, _]) (m := bm 145 44601490397061246283071436545296723011960827) (ls := [1]) (cs := [(⟨⟨.loc 2, []⟩, 0, 2⟩, none), (⟨⟨.loc 2, []⟩, 0, 3⟩, none), (⟨⟨.loc 2, []⟩, 0, 4⟩, none)]) (by kernel_rfl) ⟨(ev15 h_x2), h_x3, trivial⟩
  ·
    obtain ⟨h_x4, h⟩ := gd_or h
    exact mgo_at (nb := 0) hmix (ih _ _ h) (n := 14) (ad := [(some 13, .call (.ret (.c (bc v_x1))) [] false), (some 14, .test false), (some 18, .ok)]) (ps := [_, _, _]) (m := bm 145 44601490397061246283071436545296723011960801) (ls := []) (cs := []) (by kernel_rfl) ⟨(ev15 h_x2), h_x3, h_x4, trivial⟩
theorem t20_h0_ok (k : Nat) (rec : S20 → Option R20) (ih : ∀ s r, rec s = some r → P20 s r) (loc2_0 : Int) (loc2_1 : Int) (loc2_2 : Rs) (loc2_3 : Rs) (loc2_4 : Rs) (r : R20) (h : t20_h0 k rec loc2_0 loc2_1 loc2_2 loc2_3 loc2_4 = some r) : P20 (.h0 loc2_0 loc2_1 loc2_2 loc2_3 loc2_4) r := by
  unfold t20_h0 at h
  rw [← Option.some.inj h]
  exact mgo_fin (nb := 0) hmix (n := 2000) (ad := []) (ps := []) (by kernel_rfl) trivial
theorem t20_h1_ok (k : Nat) (rec : S20 → Option R20) (ih : ∀ s r, rec s = some r → P20 s r) (need3 : Rs) (i4 : Int) (loc2_0 : Int) (loc2_1 : Int) (loc1_0 : Int) (loc1_1 : Int) (loc1_2 : Rs) (loc1_3 : Rs) (loc1_4 : Rs) (r : R20) (h : t20_h1 k rec need3 i4 loc2_0 loc2_1 loc1_0 loc1_1 loc1_2 loc1_3 loc1_4 = some r) : P20 (.h1 need3 i4 loc2_0 loc2_1 loc1_0 loc1_1 loc1_2 loc1_3 loc1_4) r := by
  unfold t20_h1 at h
  rcases bif_or h with ⟨h_x1, h⟩ | ⟨h_x1, h⟩
  ·
    rcases bif_or h with ⟨h_x2, h⟩ | ⟨h_x2, h⟩
    ·
      exact mgo_at (nb := 0) hmix (ih _ _ h) (n := 10) (ad := [(some 22, .test true), (some 28, .test true)]) (ps := [_, _]) (m := bm 145 44601490397061246283071436545296705832091617) (ls := []) (cs := []) (by kernel_rfl) ⟨h_x1, h_x2, trivial⟩
    ·
      obtain ⟨w_x3, h_x4, h⟩ := ixR_or h
      obtain ⟨x_x5, hq, h1'⟩ := un_b_or h
      clear h; subst hq; have h := h1'; clear h1'
      exact mgo_at (nb := 0) hmix (ih _ _ h) (n := 10) (ad := [(some 22, .test true), (some 28, .test false), (some 32, .bnd), (some 33, .ld [bc x_x5])]) (ps := [_, _, _, _]) (m := bm 145 44601490397061246283071436545296705832091617) (ls := []) (cs := []) (by kernel_rfl) ⟨h_x1, h_x2, ix_bnd h_x4, h_x4.2, trivial⟩
  ·
    obtain ⟨h_x2, h⟩ := gd_or h
    exact mgo_at (nb := 0) hmix (ih _ _ h) (n := 15) (ad := [(some 22, .test false), (some 52, .ok)]) (ps := [_, _]) (m := bm 145 44601490397061246283071436419195933445586545) (ls := []) (cs := [(⟨⟨.loc 7, []⟩, 0, 2⟩, some 4), (⟨⟨.loc 7, []⟩, 0, 3⟩, some 2), (⟨⟨.loc 7, []⟩, 0, 4⟩, some 4)]) (by kernel_rfl) ⟨h_x1, h_x2, trivial⟩
theorem t20_h2_ok (k : Nat) (rec : S20 → Option R20) (ih : ∀ s r, rec s = some r → P20 s r) (need3 : Rs) (i4 : Int) (t34 : Bool) (loc2_0 : Int) (loc2_1 : Int) (loc1_0 : Int) (loc1_1 : Int) (loc1_2 : Rs) (loc1_3 : Rs) (loc1_4 : Rs) (r : R20) (h : t20_h2 k rec need3 i4 t34 loc2_0 loc2_1 loc1_0 loc1_1 loc1_2 loc1_3 loc1_4 = some r) : P20 (.h2 need3 i4 t34 loc2_0 loc2_1 loc1_0 loc1_1 loc1_2 loc1_3 loc1_4) r := by
  unfold t20_h2 at h
  rcases bif_or h with ⟨hq, h1'⟩ | ⟨hq, h1'⟩
  · clear h; subst hq; have h := h1'; clear h1'
    obtain ⟨w_x1, h_x2, h⟩ := ixR_or h
    obtain ⟨op_x3, dst_x3, a_x3, b_x3, hq, h1'⟩ := un_i4_or h
    clear h; subst hq; have h := h1'; clear h1'
    obtain ⟨v_x4, h_x5, h⟩ := bd_or h
    exact mgo_at (nb := 0) hmix (ih _ _ h) (n := 5) (ad := [(some 38, .row [ic op_x3, ic dst_x3, ic a_x3, ic b_x3]), (some 40, .call (.ret (.c (.own 1 v_x4))) [] false)]) (ps := [_, _]) (m := bm 145 44601490397061246283071436545289026430566369) (ls := []) (cs := []) (by kernel_rfl) ⟨ix_row h_x2 rfl, (ev34 h_x5), trivial⟩
  · clear h; subst hq; have h := h1'; clear h1'
    exact mgo_at (nb := 0) hmix (ih _ _ h) (n := 3) (ad := []) (ps := []) (m := bm 145 44601490397061246283071436545296723011960801) (ls := []) (cs := []) (by kernel_rfl) trivial
theorem t20_h3_ok (k : Nat) (rec : S20 → Option R20) (ih : ∀ s r, rec s = some r → P20 s r) (need3 : Rs) (became8 : Rs) (t54 : Rs) (t55 : Int) (t56 : Int) (loc7_0 : Int) (loc7_1 : Int) (loc7_2 : Rs) (loc7_3 : Rs) (loc7_4 : Rs) (loc2_0 : Int) (loc2_1 : Int) (loc1_0 : Int) (loc1_1 : Int) (loc1_2 : Rs) (loc1_3 : Rs) (loc1_4 : Rs) (r : R20) (h : t20_h3 k rec need3 became8 t54 t55 t56 loc7_0 loc7_1 loc7_2 loc7_3 loc7_4 loc2_0 loc2_1 loc1_0 loc1_1 loc1_2 loc1_3 loc1_4 = some r) : P20 (.h3 need3 became8 t54 t55 t56 loc7_0 loc7_1 loc7_2 loc7_3 loc7_4 loc2_0 loc2_1 loc1_0 loc1_1 loc1_2 loc1_3 loc1_4) r := by
  unfold t20_h3 at h
  rcases bif_or h with ⟨h_x1, h⟩ | ⟨h_x1, h⟩
  ·
    obtain ⟨w_x2, h_x3, h⟩ := ixR_or h
    obtain ⟨op_x4, dst_x4, a_x4, b_x4, hq, h1'⟩ := un_i4_or h
    clear h; subst hq; have h := h1'; clear h1'
    rcases bif_or h with ⟨h_x5, h⟩ | ⟨h_x5, h⟩
    ·
      obtain ⟨w_x6, h_x7, h⟩ := ixR_or h
      obtain ⟨x_x8, hq, h1'⟩ := un_b_or h
      clear h; subst hq; have h := h1'; clear h1'
      exact mgo_at (nb := 0) hmix (ih _ _ h) (n := 13) (ad := [(some 57, .test true), (some 59, .row [ic op_x4, ic dst_x4, ic a_x4, ic b_x4]), (some 64, .test true), (some 68, .bnd), (some 69, .ld [bc x_x8])]) (ps := [_, _, _, _, _]) (m := bm 145 44601490397061246283069075235954498622978161) (ls := []) (cs := []) (by kernel_rfl) ⟨h_x1, ix_row h_x3 rfl, h_x5, ix_bnd h_x7, h_x7.2, trivial⟩
    ·
      exact mgo_at (nb := 0) hmix (ih _ _ h) (n := 13) (ad := [(some 57, .test true), (some 59, .row [ic op_x4, ic dst_x4, ic a_x4, ic b_x4]), (some 64, .test false)]) (ps := [_, _, _]) (m := bm 145 44601490397061246283069075235954498622978161) (ls := []) (cs := []) (by kernel_rfl) ⟨h_x1, ix_row h_x3 rfl, h_x5, trivial⟩
  ·
    exact mgo_at (nb := 0) hmix (ih _ _ h) (n := 10) (ad := [(some 57, .test false)]) (ps := [_]) (m := bm 145 44601490397061246283071436545296723011960827) (ls := [7, 1]) (cs := []) (by kernel_rfl) ⟨h_x1, trivial⟩
theorem t20_h4_ok (k : Nat) (rec : S20 → Option R20) (ih : ∀ s r, rec s = some r → P20 s r) (need3 : Rs) (i4 : Int) (t40 : Rs) (t41 : Int) (t42 : Int) (loc2_0 : Int) (loc2_1 : Int) (loc1_0 : Int) (loc1_1 : Int) (loc1_2 : Rs) (loc1_3 : Rs) (loc1_4 : Rs) (r : R20) (h : t20_h4 k rec need3 i4 t40 t41 t42 loc2_0 loc2_1 loc1_0 loc1_1 loc1_2 loc1_3 loc1_4 = some r) : P20 (.h4 need3 i4 t40 t41 t42 loc2_0 loc2_1 loc1_0 loc1_1 loc1_2 loc1_3 loc1_4) r := by
  unfold t20_h4 at h
  rcases bif_or h with ⟨h_x1, h⟩ | ⟨h_x1, h⟩
  ·
    obtain ⟨w_x2, h_x3, h⟩ := ixR_or h
    obtain ⟨x_x4, hq, h1'⟩ := un_i_or h
    clear h; subst hq; have h := h1'; clear h1'
    obtain ⟨w_x5, h_x6, h⟩ := ixR_or h
    obtain ⟨x_x7, hq, h1'⟩ := un_b_or h
    clear h; subst hq; have h := h1'; clear h1'
    exact mgo_at (nb := 0) hmix (ih _ _ h) (n := 12) (ad := [(some 43, .test true), (some 44, .bnd), (some 45, .ld [ic x_x4]), (some 48, .bnd), (none, .st)]) (ps := [_, _, _, _, _]) (m := bm 145 44601490397061246283071436545289026430566369) (ls := []) (cs := []) (by kernel_rfl) ⟨h_x1, ix_bnd h_x3, h_x3.2, ix_bnd h_x6, ix_cell (o := 0) h_x6 rfl, trivial⟩
  ·
    exact mgo_at (nb := 0) hmix (ih _ _ h) (n := 7) (ad := [(some 43, .test false)]) (ps := [_]) (m := bm 145 44601490397061246283071436545296723011960801) (ls := []) (cs := []) (by kernel_rfl) ⟨h_x1, trivial⟩
theorem t20_h5_ok (k : Nat) (rec : S20 → Option R20) (ih : ∀ s r, rec s = some r → P20 s r) (need3 : Rs) (i4 : Int) (loc2_0 : Int) (loc2_1 : Int) (loc1_0 : Int) (loc1_1 : Int) (loc1_2 : Rs) (loc1_3 : Rs) (loc1_4 : Rs) (r : R20) (h : t20_h5 k rec need3 i4 loc2_0 loc2_1 loc1_0 loc1_1 loc1_2 loc1_3 loc1_4 = some r) : P20 (.h5 need3 i4 loc2_0 loc2_1 loc1_0 loc1_1 loc1_2 loc1_3 loc1_4) r := by
  unfold t20_h5 at h
  exact mgo_at (nb := 0) hmix (ih _ _ h) (n := 1) (ad := []) (ps := []) (m := bm 145 44601490397061246283071436545296723011960801) (ls := []) (cs := []) (by kernel_rfl) trivial
theorem t20_h6_ok (k : Nat) (rec : S20 → Option R20) (ih : ∀ s r, rec s = some r → P20 s r) (need3 : Rs) (became8 : Rs) (i9 : Int) (t54 : Rs) (t55 : Int) (t56 : Int) (t71 : Bool) (loc10_0 : Int) (loc10_1 : Int) (loc10_2 : Int) (loc10_3 : Int) (loc7_0 : Int) (loc7_1 : Int) (loc7_2 : Rs) (loc7_3 : Rs) (loc7_4 : Rs) (loc2_0 : Int) (loc2_1 : Int) (loc1_0 : Int) (loc1_1 : Int) (loc1_2 : Rs) (loc1_3 : Rs) (loc1_4 : Rs) (r : R20) (h : t20_h6 k rec need3 became8 i9 t54 t55 t56 t71 loc10_0 loc10_1 loc10_2 loc10_3 loc7_0 loc7_1 loc7_2 loc7_3 loc7_4 loc2_0 loc2_1 loc1_0 loc1_1 loc1_2 loc1_3 loc1_4 = some r) : P20 (.h6 need3 became8 i9 t54 t55 t56 t71 loc10_0 loc10_1 loc10_2 loc10_3 loc7_0 loc7_1 loc7_2 loc7_3 loc7_4 loc2_0 loc2_1 loc1_0 loc1_1 loc1_2 loc1_3 loc1_4) r := by
  unfold t20_h6 at h
  rcases bif_or h with ⟨hq, h1'⟩ | ⟨hq, h1'⟩
  · clear h; subst hq; have h := h1'; clear h1'
    exact mgo_at (nb := 0) hmix (ih _ _ h) (n := 2) (ad := []) (ps := []) (m := bm 145 44601490397061246283071436419195933445586545) (ls := [10]) (cs := []) (by kernel_rfl) trivial
  · clear h; subst hq; have h := h1'; clear h1'
    rcases bif_or h with ⟨h_x1, h⟩ | ⟨h_x1, h⟩
    ·
      obtain ⟨w_x2, h_x3, h⟩ := ixR_or h
      obtain ⟨op_x4, kind_x4, pos_x4, attr_x4, hq, h1'⟩ := un_i4_or h
      clear h; subst hq; have h := h1'; clear h1'
      obtain ⟨v_x5, h_x6, h⟩ := bd_or h
      obtain ⟨r_x7, rb00_x7, rb01_x7, rb02_x7, rb03_x7, rb04_x7, hq, h1'⟩ := tup6_or h
      clear h; subst hq; have h := h1'; clear h1'
      exact mgo_at (nb := 0) hmix (ih _ _ h) (n := 11) (ad := [(some 98, .test true), (some 104, .row [ic op_x4, ic kind_x4, ic pos_x4, ic attr_x4]), (some 106, .call (.ret (.c (ic r_x7))) [[ic rb00_x7, ic rb01_x7, .own 4 rb02_x7, .own 2 rb03_x7, .own 4 rb04_x7]] false)]) (ps := [_, _, _]) (m := bm 145 44601490397061246283071436419195933445585009) (ls := []) (cs := []) (by kernel_rfl) ⟨h_x1, ix_row h_x3 rfl, (ev35h h_x6), trivial⟩
    ·
      rcases bif_or h with ⟨h_x2, h⟩ | ⟨h_x2, h⟩
      ·
        obtain ⟨w_x3, h_x4, h⟩ := ixR_or h
        obtain ⟨kind_x5, bits_x5, hq, h1'⟩ := un_iu_or h
        clear h; subst hq; have h := h1'; clear h1'
        obtain ⟨v_x6, h_x7, h⟩ := bd_or h
        obtain ⟨r_x8, rb00_x8, rb01_x8, rb02_x8, rb03_x8, rb04_x8, hq, h1'⟩ := tup6_or h
        clear h; subst hq; have h := h1'; clear h1'
        exact mgo_at (nb := 0) hmix (ih _ _ h) (n := 14) (ad := [(some 98, .test false), (some 109, .test true), (some 115, .row [ic kind_x5, .val (.int .u64 bits_x5)]), (some 117, .call (.ret (.c (ic r_x8))) [[ic rb00_x8, ic rb01_x8, .own 4 rb02_x8, .own 2 rb03_x8, .own 4 rb04_x8]] false)]) (ps := [_, _, _, _]) (m := bm 145 44601490397061246283071436419195933445585009) (ls := []) (cs := []) (by kernel_rfl) ⟨h_x1, h_x2, ix_row h_x4 rfl, (ev36i h_x7), trivial⟩
      ·
        obtain ⟨v_x3, h_x4, h⟩ := bd_or h
        rcases bif_or h with ⟨h_x5, h⟩ | ⟨h_x5, h⟩
        ·
          obtain ⟨w_x6, h_x7, h⟩ := ixR_or h
          obtain ⟨x_x8, hq, h1'⟩ := un_i_or h
          clear h; subst hq; have h := h1'; clear h1'
          obtain ⟨w_x9, h_x10, h⟩ := ixR_or h
          obtain ⟨x_x11, hq, h1'⟩ := un_i_or h
          clear h; subst hq; have h := h1'; clear h1'
          exact mgo_at (nb := 0) hmix (ih _ _ h) (n := 19) (ad := [(some 98, .test false), (some 109, .test false), (some 75, .call (.ret (.c (.own 1 v_x3))) [] false), (some 78, .test true), (some 82, .bnd), (some 83, .ld [ic x_x8]), (some 87, .bnd), (some 88, .ld [ic x_x11])]) (ps := [_, _, _, _, _, _, _, _]) (m := bm 145 44601490397061246283071436419195933445585009) (ls := []) (cs := []) (by kernel_rfl) ⟨h_x1, h_x2, (ev34 h_x4), h_x5, ix_bnd h_x7, h_x7.2, ix_bnd h_x10, h_x10.2, trivial⟩
        ·
          obtain ⟨w_x6, h_x7, h⟩ := ixR_or h
          obtain ⟨x_x8, hq, h1'⟩ := un_i_or h
          clear h; subst hq; have h := h1'; clear h1'
          exact mgo_at (nb := 0) hmix (ih _ _ h) (n := 19) (ad := [(some 98, .test false), (some 109, .test false), (some 75, .call (.ret (.c (.own 1 v_x3))) [] false), (some 78, .test false), (some 94, .bnd), (some 95, .ld [ic x_x8])]) (ps := [_, _, _, _, _, _]) (m := bm 145 44601490397061246283071436419195933445585009) (ls := []) (cs := []) (by kernel_rfl) ⟨h_x1, h_x2, (ev34 h_x4), h_x5, ix_bnd h_x7, h_x7.2, trivial⟩
theorem t20_h7_ok (k : Nat) (rec : S20 → Option R20) (ih : ∀ s r, rec s = some r → P20 s r) (loc2_0 : Int) (loc2_1 : Int) (loc2_2 : Rs) (loc2_3 : Rs) (loc2_4 : Rs) (r : R20) (h : t20_h7 k rec loc2_0 loc2_1 loc2_2 loc2_3 loc2_4 = some r) : P20 (.h7 loc2_0 loc2_1 loc2_2 loc2_3 loc2_4) r := by
  unfold t20_h7 at h
  rw [← Option.some.inj h]
  exact mgo_fin (nb := 0) hmix (n := 2000) (ad := []) (ps := []) (by kernel_rfl) trivial
theorem t20_h8_ok (k : Nat) (rec : S20 → Option R20) (ih : ∀ s r, rec s = some r → P20 s r) (need3 : Rs) (i4 : Int) (t40 : Rs) (t41 : Int) (t42 : Int) (loc2_0 : Int) (loc2_1 : Int) (loc1_0 : Int) (loc1_1 : Int) (loc1_2 : Rs) (loc1_3 : Rs) (loc1_4 : Rs) (r : R20) (h : t20_h8 k rec need3 i4 t40 t41 t42 loc2_0 loc2_1 loc1_0 loc1_1 loc1_2 loc1_3 loc1_4 = some r) : P20 (.h8 need3 i4 t40 t41 t42 loc2_0 loc2_1 loc1_0 loc1_1 loc1_2 loc1_3 loc1_4) r := by
  unfold t20_h8 at h
  exact mgo_at (nb := 0) hmix (ih _ _ h) (n := 1) (ad := []) (ps := []) (m := bm 145 44601490397061246283071436545289026430566369) (ls := []) (cs := []) (by kernel_rfl) trivial
theorem t20_h9_ok (k : Nat) (rec : S20 → Option R20) (ih : ∀ s r, rec s = some r → P20 s r) (need3 : Rs) (became8 : Rs) (t54 : Rs) (t55 : Int) (t56 : Int) (loc7_0 : Int) (loc7_1 : Int) (loc7_2 : Rs) (loc7_3 : Rs) (loc7_4 : Rs) (loc2_0 : Int) (loc2_1 : Int) (loc1_0 : Int) (loc1_1 : Int) (loc1_2 : Rs) (loc1_3 : Rs) (loc1_4 : Rs) (r : R20) (h : t20_h9 k rec need3 became8 t54 t55 t56 loc7_0 loc7_1 loc7_2 loc7_3 loc7_4 loc2_0 loc2_1 loc1_0 loc1_1 loc1_2 loc1_3 loc1_4 = some r) : P20 (.h9 need3 became8 t54 t55 t56 loc7_0 loc7_1 loc7_2 loc7_3 loc7_4 loc2_0 loc2_1 loc1_0 loc1_1 loc1_2 loc1_3 loc1_4) r := by
  unfold t20_h9 at h
  exact mgo_at (nb := 0) hmix (ih _ _ h) (n := 1) (ad := []) (ps := []) (m := bm 145 44601490397061246283071436419195933445586545) (ls := []) (cs := []) (by kernel_rfl) trivial
theorem t20_h10_ok (k : Nat) (rec : S20 → Option R20) (ih : ∀ s r, rec s = some r → P20 s r) (need3 : Rs) (became8 : Rs) (i9 : Int) (t54 : Rs) (t55 : Int) (t56 : Int) (loc10_0 : Int) (loc10_1 : Int) (loc10_2 : Int) (loc10_3 : Int) (loc7_0 : Int) (loc7_1 : Int) (loc7_2 : Rs) (loc7_3 : Rs) (loc7_4 : Rs) (loc2_0 : Int) (loc2_1 : Int) (loc1_0 : Int) (loc1_1 : Int) (loc1_2 : Rs) (loc1_3 : Rs) (loc1_4 : Rs) (r : R20) (h : t20_h10 k rec need3 became8 i9 t54 t55 t56 loc10_0 loc10_1 loc10_2 loc10_3 loc7_0 loc7_1 loc7_2 loc7_3 loc7_4 loc2_0 loc2_1 loc1_0 loc1_1 loc1_2 loc1_3 loc1_4 = some r) : P20 (.h10 need3 became8 i9 t54 t55 t56 loc10_0 loc10_1 loc10_2 loc10_3 loc7_0 loc7_1 loc7_2 loc7_3 loc7_4 loc2_0 loc2_1 loc1_0 loc1_1 loc1_2 loc1_3 loc1_4) r := by
  unfold t20_h10 at h
  rcases bif_or h with ⟨h_x1, h⟩ | ⟨h_x1, h⟩
  ·
    obtain ⟨w_x2, h_x3, h⟩ := ixR_or h
    obtain ⟨x_x4, hq, h1'⟩ := un_i_or h
    clear h; subst hq; have h := h1'; clear h1'
    exact mgo_at (nb := 0) hmix (ih _ _ h) (n := 7) (ad := [(some 122, .test true), (none, .st), (some 131, .bnd), (none, .st)]) (ps := [_, _, _, _]) (m := bm 145 44601490397061246283071436419195933445585521) (ls := []) (cs := []) (by kernel_rfl) ⟨h_x1, (⟨_, rfl⟩ : ∃ c0, cellAt [[ic loc10_0, ic loc10_1, ic loc10_2, ic loc10_3]] 0 1 = some c0), ix_bnd h_x3, ix_cell (o := 0) h_x3 rfl, trivial⟩
  ·
    exact mgo_at (nb := 0) hmix (ih _ _ h) (n := 5) (ad := [(some 122, .test false)]) (ps := [_]) (m := bm 145 44601490397061246283071436419195933445585521) (ls := []) (cs := []) (by kernel_rfl) ⟨h_x1, trivial⟩
theorem t20_h11_ok (k : Nat) (rec : S20 → Option R20) (ih : ∀ s r, rec s = some r → P20 s r) (need3 : Rs) (became8 : Rs) (t54 : Rs) (t55 : Int) (t56 : Int) (loc10_0 : Int) (loc10_1 : Int) (loc10_2 : Int) (loc10_3 : Int) (loc7_0 : Int) (loc7_1 : Int) (loc7_2 : Rs) (loc7_3 : Rs) (loc7_4 : Rs) (loc2_0 : Int) (loc2_1 : Int) (loc1_0 : Int) (loc1_1 : Int) (loc1_2 : Rs) (loc1_3 : Rs) (loc1_4 : Rs) (r : R20) (h : t20_h11 k rec need3 became8 t54 t55 t56 loc10_0 loc10_1 loc10_2 loc10_3 loc7_0 loc7_1 loc7_2 loc7_3 loc7_4 loc2_0 loc2_1 loc1_0 loc1_1 loc1_2 loc1_3 loc1_4 = some r) : P20 (.h11 need3 became8 t54 t55 t56 loc10_0 loc10_1 loc10_2 loc10_3 loc7_0 loc7_1 loc7_2 loc7_3 loc7_4 loc2_0 loc2_1 loc1_0 loc1_1 loc1_2 loc1_3 loc1_4) r := by
  unfold t20_h11 at h
  obtain ⟨h_x1, h⟩ := gd_or h
  exact mgo_at (nb := 0) hmix (ih _ _ h) (n := 2) (ad := [(some 136, .okE false)]) (ps := [_]) (m := bm 145 44601490397061246283071436419195933445586545) (ls := [10]) (cs := []) (by kernel_rfl) ⟨okF [[ic loc10_0, ic loc10_1, ic loc10_2, ic loc10_3]] h_x1, trivial⟩
theorem ok20 : ∀ k s r, itS step20 k s = some r → P20 s r := itS_ok fun k rec ih s r h => match s, h with
  | .e c0_0 c0_1 c0_2 c0_3 c0_4, h => t20_e_ok k rec ih c0_0 c0_1 c0_2 c0_3 c0_4 r h
  | .h0 loc2_0 loc2_1 loc2_2 loc2_3 loc2_4, h => t20_h0_ok k rec ih loc2_0 loc2_1 loc2_2 loc2_3 loc2_4 r h
  | .h1 need3 i4 loc2_0 loc2_1 loc1_0 loc1_1 loc1_2 loc1_3 loc1_4, h => t20_h1_ok k rec ih need3 i4 loc2_0 loc2_1 loc1_0 loc1_1 loc1_2 loc1_3 loc1_4 r h
  | .h2 need3 i4 t34 loc2_0 loc2_1 loc1_0 loc1_1 loc1_2 loc1_3 loc1_4, h => t20_h2_ok k rec ih need3 i4 t34 loc2_0 loc2_1 loc1_0 loc1_1 loc1_2 loc1_3 loc1_4 r h
  | .h3 need3 became8 t54 t55 t56 loc7_0 loc7_1 loc7_2 loc7_3 loc7_4 loc2_0 loc2_1 loc1_0 loc1_1 loc1_2 loc1_3 loc1_4, h => t20_h3_ok k rec ih need3 became8 t54 t55 t56 loc7_0 loc7_1 loc7_2 loc7_3 loc7_4 loc2_0 loc2_1 loc1_0 loc1_1 loc1_2 loc1_3 loc1_4 r h
  | .h4 need3 i4 t40 t41 t42 loc2_0 loc2_1 loc1_0 loc1_1 loc1_2 loc1_3 loc1_4, h => t20_h4_ok k rec ih need3 i4 t40 t41 t42 loc2_0 loc2_1 loc1_0 loc1_1 loc1_2 loc1_3 loc1_4 r h
  | .h5 need3 i4 loc2_0 loc2_1 loc1_0 loc1_1 loc1_2 loc1_3 loc1_4, h => t20_h5_ok k rec ih need3 i4 loc2_0 loc2_1 loc1_0 loc1_1 loc1_2 loc1_3 loc1_4 r h
  | .h6 need3 became8 i9 t54 t55 t56 t71 loc10_0 loc10_1 loc10_2 loc10_3 loc7_0 loc7_1 loc7_2 loc7_3 loc7_4 loc2_0 loc2_1 loc1_0 loc1_1 loc1_2 loc1_3 loc1_4, h => t20_h6_ok k rec ih need3 became8 i9 t54 t55 t56 t71 loc10_0 loc10_1 loc10_2 loc10_3 loc7_0 loc7_1 loc7_2 loc7_3 loc7_4 loc2_0 loc2_1 loc1_0 loc1_1 loc1_2 loc1_3 loc1_4 r h
  | .h7 loc2_0 loc2_1 loc2_2 loc2_3 loc2_4, h => t20_h7_ok k rec ih loc2_0 loc2_1 loc2_2 loc2_3 loc2_4 r h
  | .h8 need3 i4 t40 t41 t42 loc2_0 loc2_1 loc1_0 loc1_1 loc1_2 loc1_3 loc1_4, h => t20_h8_ok k rec ih need3 i4 t40 t41 t42 loc2_0 loc2_1 loc1_0 loc1_1 loc1_2 loc1_3 loc1_4 r h
  | .h9 need3 became8 t54 t55 t56 loc7_0 loc7_1 loc7_2 loc7_3 loc7_4 loc2_0 loc2_1 loc1_0 loc1_1 loc1_2 loc1_3 loc1_4, h => t20_h9_ok k rec ih need3 became8 t54 t55 t56 loc7_0 loc7_1 loc7_2 loc7_3 loc7_4 loc2_0 loc2_1 loc1_0 loc1_1 loc1_2 loc1_3 loc1_4 r h
  | .h10 need3 became8 i9 t54 t55 t56 loc10_0 loc10_1 loc10_2 loc10_3 loc7_0 loc7_1 loc7_2 loc7_3 loc7_4 loc2_0 loc2_1 loc1_0 loc1_1 loc1_2 loc1_3 loc1_4, h => t20_h10_ok k rec ih need3 became8 i9 t54 t55 t56 loc10_0 loc10_1 loc10_2 loc10_3 loc7_0 loc7_1 loc7_2 loc7_3 loc7_4 loc2_0 loc2_1 loc1_0 loc1_1 loc1_2 loc1_3 loc1_4 r h
  | .h11 need3 became8 t54 t55 t56 loc10_0 loc10_1 loc10_2 loc10_3 loc7_0 loc7_1 loc7_2 loc7_3 loc7_4 loc2_0 loc2_1 loc1_0 loc1_1 loc1_2 loc1_3 loc1_4, h => t20_h11_ok k rec ih need3 became8 t54 t55 t56 loc10_0 loc10_1 loc10_2 loc10_3 loc7_0 loc7_1 loc7_2 loc7_3 loc7_4 loc2_0 loc2_1 loc1_0 loc1_1 loc1_2 loc1_3 loc1_4 r h
theorem ev20 {k : Nat} {c0_0 : Int} {c0_1 : Int} {c0_2 : Rs} {c0_3 : Rs} {c0_4 : Rs} {r : R20} (h : g20 k c0_0 c0_1 c0_2 c0_3 c0_4 = some r) : Ev Try.prog noHand 20 [.ag [ic c0_0, ic c0_1, .imm c0_2, .imm c0_3, .imm c0_4]] [] (res20 r) (bx20 r) := evr20 (ok20 _ _ _ h)
-- auspice/auspiceref17.Reads
inductive S33 where
  | e (x0_0 : Int) (x0_1 : Int) (x0_2 : Int) (x0_3 : Int)
abbrev R33 := (Rs) ⊕ (Rs)
def res33 : R33 → ARes
  | (.inl r) => .ret (.c (.own 1 r))
  | (.inr r) => .ret (.c (.imm r))
def bx33 : R33 → List (List Cell)
  | (.inl r) => []
  | (.inr r) => []
noncomputable def t33_e (k : Nat) (rec : S33 → Option R33) (x0_0 : Int) (x0_1 : Int) (x0_2 : Int) (x0_3 : Int) : Option R33 :=
  bif x0_0 == 52 then
    some (.inl [[ic x0_2]])
  else
    (g31 k x0_0).bind fun v_x2 =>
    gd (slOk 0 v_x2 [[ic x0_2], [ic x0_3]] 1) <|
    some (.inr (List.drop (Int.toNat 0) (List.take (Int.toNat v_x2) [[ic x0_2], [ic x0_3]])))
noncomputable def step33 (k : Nat) (rec : S33 → Option R33) : S33 → Option R33
  | .e x0_0 x0_1 x0_2 x0_3 => t33_e k rec x0_0 x0_1 x0_2 x0_3
noncomputable def g33 (k : Nat) (x0_0 : Int) (x0_1 : Int) (x0_2 : Int) (x0_3 : Int) : Option R33 := itS step33 k (.e x0_0 x0_1 x0_2 x0_3)
noncomputable def P33 : S33 → R33 → Prop
  | .e x0_0 x0_1 x0_2 x0_3, r => Fin cx33 Try.f33 [.code body33] (fr0 Try.f33 [.ag [ic x0_0, ic x0_1, ic x0_2, ic x0_3]] []) (res33 r) (bx33 r)
theorem evr33 {x0_0 : Int} {x0_1 : Int} {x0_2 : Int} {x0_3 : Int} {r : R33} (h : P33 (.e x0_0 x0_1 x0_2 x0_3) r) : Ev Try.prog noHand 33 [.ag [ic x0_0, ic x0_1, ic x0_2, ic x0_3]] [] (res33 r) (bx33 r) := ev_of_fin (fn := Try.f33) (body := body33) (by kernel_rfl) (by kernel_rfl) (by kernel_rfl) rfl h
theorem t33_e_ok (k : Nat) (rec : S33 → Option R33) (ih : ∀ s r, rec s = some r → P33 s r) (x0_0 : Int) (x0_1 : Int) (x0_2 : Int) (x0_3 : Int) (r : R33) (h : t33_e k rec x0_0 x0_1 x0_2 x0_3 = some r) : P33 (.e x0_0 x0_1 x0_2 x0_3) r := by
  unfold t33_e at h
  rcases bif_or h with ⟨h_x1, h⟩ | ⟨h_x1, h⟩
  ·
    rw [← Option.some.inj h]
    exact mgo_fin (nb := 0) hmix (n := 2000) (ad := [(some 5, .test true)]) (ps := [_]) (by kernel_rfl) ⟨h_x1, trivial⟩
  ·
    obtain ⟨v_x2, h_x3, h⟩ := bd_or h
    obtain ⟨h_x4, h⟩ := gd_or h
    rw [← Option.some.inj h]
    exact mgo_fin (nb := 0) hmix (n := 2000) (ad := [(some 5, .test false), (some 16, .call (.ret (.c (ic v_x2))) [] false), (some 17, .ok)]) (ps := [_, _, _]) (by kernel_rfl) ⟨h_x1, (ev31 h_x3), of_decide_eq_true h_x4, trivial⟩
theorem ok33 : ∀ k s r, itS step33 k s = some r → P33 s r := itS_ok fun k rec ih s r h => match s, h with
  | .e x0_0 x0_1 x0_2 x0_3, h => t33_e_ok k rec ih x0_0 x0_1 x0_2 x0_3 r h
theorem ev33 {k : Nat} {x0_0 : Int} {x0_1 : Int} {x0_2 : Int} {x0_3 : Int} {r : R33} (h : g33 k x0_0 x0_1 x0_2 x0_3 = some r) : Ev Try.prog noHand 33 [.ag [ic x0_0, ic x0_1, ic x0_2, ic x0_3]] [] (res33 r) (bx33 r) := evr33 (ok33 _ _ _ h)
-- auspice/auspiceref17.Drop
inductive S21 where
  | e (c0_0 : Int) (c0_1 : Int) (c0_2 : Rs) (c0_3 : Rs) (c0_4 : Rs)
  | h0 (need3 : Es) (i4 : Int) (loc2_0 : Int) (loc2_1 : Int) (loc1_0 : Int) (loc1_1 : Int) (loc1_2 : Rs) (loc1_3 : Rs) (loc1_4 : Rs)
  | h1 (need3 : Es) (i4 : Int) (t28 : Rs) (t29 : Int) (t30 : Int) (loc2_0 : Int) (loc2_1 : Int) (loc1_0 : Int) (loc1_1 : Int) (loc1_2 : Rs) (loc1_3 : Rs) (loc1_4 : Rs)
  | h2 (need3 : Es) (i4 : Int) (t28 : Rs) (t29 : Int) (t30 : Int) (loc2_0 : Int) (loc2_1 : Int) (loc1_0 : Int) (loc1_1 : Int) (loc1_2 : Rs) (loc1_3 : Rs) (loc1_4 : Rs)
  | h3 (need3 : Es) (became8 : Es) (t44 : Rs) (t45 : Int) (t46 : Int) (loc41_0 : Int) (loc41_1 : Int) (loc41_2 : Rs) (loc41_3 : Rs) (loc41_4 : Rs) (loc2_0 : Int) (loc2_1 : Int) (loc1_0 : Int) (loc1_1 : Int) (loc1_2 : Rs) (loc1_3 : Rs) (loc1_4 : Rs)
  | h4 (need3 : Es) (i4 : Int) (r6 : Int) (t28 : Rs) (t29 : Int) (t30 : Int) (t36 : Bool) (loc2_0 : Int) (loc2_1 : Int) (loc1_0 : Int) (loc1_1 : Int) (loc1_2 : Rs) (loc1_3 : Rs) (loc1_4 : Rs)
  | h5 (need3 : Es) (i4 : Int) (loc2_0 : Int) (loc2_1 : Int) (loc1_0 : Int) (loc1_1 : Int) (loc1_2 : Rs) (loc1_3 : Rs) (loc1_4 : Rs)
  | h6 (need3 : Es) (i4 : Int) (r6 : Int) (t28 : Rs) (t29 : Int) (t30 : Int) (t36 : Bool) (loc2_0 : Int) (loc2_1 : Int) (loc1_0 : Int) (loc1_1 : Int) (loc1_2 : Rs) (loc1_3 : Rs) (loc1_4 : Rs)
  | h7 (need3 : Es) (became8 : Es) (i9 : Int) (t44 : Rs) (t45 : Int) (t46 : Int) (t54 : Bool) (loc10_0 : Int) (loc10_1 : Int) (loc10_2 : Int) (loc10_3 : Int) (loc41_0 : Int) (loc41_1 : Int) (loc41_2 : Rs) (loc41_3 : Rs) (loc41_4 : Rs) (loc2_0 : Int) (loc2_1 : Int) (loc1_0 : Int) (loc1_1 : Int) (loc1_2 : Rs) (loc1_3 : Rs) (loc1_4 : Rs)
  | h8 (need3 : Es) (i4 : Int) (t28 : Rs) (t29 : Int) (t30 : Int) (loc2_0 : Int) (loc2_1 : Int) (loc1_0 : Int) (loc1_1 : Int) (loc1_2 : Rs) (loc1_3 : Rs) (loc1_4 : Rs)
  | h9 (need3 : Es) (i4 : Int) (t28 : Rs) (t29 : Int) (t30 : Int) (loc2_0 : Int) (loc2_1 : Int) (loc1_0 : Int) (loc1_1 : Int) (loc1_2 : Rs) (loc1_3 : Rs) (loc1_4 : Rs)
  | h10 (need3 : Es) (became8 : Es) (t44 : Rs) (t45 : Int) (t46 : Int) (loc41_0 : Int) (loc41_1 : Int) (loc41_2 : Rs) (loc41_3 : Rs) (loc41_4 : Rs) (loc2_0 : Int) (loc2_1 : Int) (loc1_0 : Int) (loc1_1 : Int) (loc1_2 : Rs) (loc1_3 : Rs) (loc1_4 : Rs)
  | h11 (need3 : Es) (became8 : Es) (i9 : Int) (a11 : Int) (b12 : Int) (t44 : Rs) (t45 : Int) (t46 : Int) (t62 : Bool) (loc10_0 : Int) (loc10_1 : Int) (loc10_2 : Int) (loc10_3 : Int) (loc41_0 : Int) (loc41_1 : Int) (loc41_2 : Rs) (loc41_3 : Rs) (loc41_4 : Rs) (loc2_0 : Int) (loc2_1 : Int) (loc1_0 : Int) (loc1_1 : Int) (loc1_2 : Rs) (loc1_3 : Rs) (loc1_4 : Rs)
  | h12 (need3 : Es) (became8 : Es) (i9 : Int) (a11 : Int) (b12 : Int) (t44 : Rs) (t45 : Int) (t46 : Int) (loc10_0 : Int) (loc10_1 : Int) (loc10_2 : Int) (loc10_3 : Int) (loc41_0 : Int) (loc41_1 : Int) (loc41_2 : Rs) (loc41_3 : Rs) (loc41_4 : Rs) (loc2_0 : Int) (loc2_1 : Int) (loc1_0 : Int) (loc1_1 : Int) (loc1_2 : Rs) (loc1_3 : Rs) (loc1_4 : Rs)
  | h13 (need3 : Es) (became8 : Es) (i9 : Int) (b12 : Int) (t44 : Rs) (t45 : Int) (t46 : Int) (loc10_0 : Int) (loc10_1 : Int) (loc10_2 : Int) (loc10_3 : Int) (loc41_0 : Int) (loc41_1 : Int) (loc41_2 : Rs) (loc41_3 : Rs) (loc41_4 : Rs) (loc2_0 : Int) (loc2_1 : Int) (loc1_0 : Int) (loc1_1 : Int) (loc1_2 : Rs) (loc1_3 : Rs) (loc1_4 : Rs)
  | h14 (need3 : Es) (became8 : Es) (i9 : Int) (a11 : Int) (b12 : Int) (t44 : Rs) (t45 : Int) (t46 : Int) (loc10_0 : Int) (loc10_1 : Int) (loc10_2 : Int) (loc10_3 : Int) (loc41_0 : Int) (loc41_1 : Int) (loc41_2 : Rs) (loc41_3 : Rs) (loc41_4 : Rs) (loc2_0 : Int) (loc2_1 : Int) (loc1_0 : Int) (loc1_1 : Int) (loc1_2 : Rs) (loc1_3 : Rs) (loc1_4 : Rs)
  | h15 (need3 : Es) (became8 : Es) (i9 : Int) (b12 : Int) (t44 : Rs) (t45 : Int) (t46 : Int) (loc10_0 : Int) (loc10_1 : Int) (loc10_2 : Int) (loc10_3 : Int) (loc41_0 : Int) (loc41_1 : Int) (loc41_2 : Rs) (loc41_3 : Rs) (loc41_4 : Rs) (loc2_0 : Int) (loc2_1 : Int) (loc1_0 : Int) (loc1_1 : Int) (loc1_2 : Rs) (loc1_3 : Rs) (loc1_4 : Rs)
  | h16 (need3 : Es) (became8 : Es) (i9 : Int) (a11 : Int) (b12 : Int) (t44 : Rs) (t45 : Int) (t46 : Int) (loc10_0 : Int) (loc10_1 : Int) (loc10_2 : Int) (loc10_3 : Int) (loc41_0 : Int) (loc41_1 : Int) (loc41_2 : Rs) (loc41_3 : Rs) (loc41_4 : Rs) (loc2_0 : Int) (loc2_1 : Int) (loc1_0 : Int) (loc1_1 : Int) (loc1_2 : Rs) (loc1_3 : Rs) (loc1_4 : Rs)
abbrev R21 := Int × Int × Rs × Rs × Rs
def res21 : R21 → ARes
  | (r_0, r_1, r_2, r_3, r_4) => .ret (.ag [ic r_0, ic r_1, .imm r_2, .imm r_3, .imm r_4])
def bx21 : R21 → List (List Cell)
  | (r_0, r_1, r_2, r_3, r_4) => []
noncomputable def t21_e (k : Nat) (rec : S21 → Option R21) (c0_0 : Int) (c0_1 : Int) (c0_2 : Rs) (c0_3 : Rs) (c0_4 : Rs) : Option R21 :=
  rec (.h0 [(.int .i64 c0_0, [bc true])] c0_0 0 0 c0_0 c0_1 c0_2 c0_3 c0_4)
noncomputable def t21_h0 (k : Nat) (rec : S21 → Option R21) (need3 : Es) (i4 : Int) (loc2_0 : Int) (loc2_1 : Int) (loc1_0 : Int) (loc1_1 : Int) (loc1_2 : Rs) (loc1_3 : Rs) (loc1_4 : Rs) : Option R21 :=
  bif decide (i4 ≥ 0) then
    ixR loc1_4 i4 fun w_x2 =>
    un_i4 w_x2 fun op_x4 dst_x4 a_x4 b_x4 =>
    (g33 k op_x4 dst_x4 a_x4 b_x4).bind fun v_x5 =>
    altC v_x5 (fun v_x7 => 
        rec (.h1 need3 i4 v_x7 (v_x7.length : Int) 0 loc2_0 loc2_1 loc1_0 loc1_1 loc1_2 loc1_3 loc1_4)) (fun v_x7 => 
        rec (.h2 need3 i4 v_x7 (v_x7.length : Int) 0 loc2_0 loc2_1 loc1_0 loc1_1 loc1_2 loc1_3 loc1_4))
  else
    rec (.h3 need3 [] loc1_4 (loc1_4.length : Int) 0 0 0 [] [] [] loc2_0 loc2_1 loc1_0 loc1_1 loc1_2 loc1_3 loc1_4)
noncomputable def t21_h1 (k : Nat) (rec : S21 → Option R21) (need3 : Es) (i4 : Int) (t28 : Rs) (t29 : Int) (t30 : Int) (loc2_0 : Int) (loc2_1 : Int) (loc1_0 : Int) (loc1_1 : Int) (loc1_2 : Rs) (loc1_3 : Rs) (loc1_4 : Rs) : Option R21 :=
  bif decide (t30 < t29) then
    ixR t28 t30 fun w_x2 =>
    un_i w_x2 fun x_x4 =>
    (mapFind Try.prog 3 (.int .i64 i4) need3).bind fun e_x5 =>
    optC e_x5 (
        rec (.h4 need3 i4 x_x4 t28 t29 t30 false loc2_0 loc2_1 loc1_0 loc1_1 loc1_2 loc1_3 loc1_4)) fun w_x7 =>
      un_b w_x7 fun x_x8 =>
      rec (.h4 need3 i4 x_x4 t28 t29 t30 x_x8 loc2_0 loc2_1 loc1_0 loc1_1 loc1_2 loc1_3 loc1_4)
  else
    rec (.h5 need3 i4 loc2_0 loc2_1 loc1_0 loc1_1 loc1_2 loc1_3 loc1_4)
noncomputable def t21_h2 (k : Nat) (rec : S21 → Option R21) (need3 : Es) (i4 : Int) (t28 : Rs) (t29 : Int) (t30 : Int) (loc2_0 : Int) (loc2_1 : Int) (loc1_0 : Int) (loc1_1 : Int) (loc1_2 : Rs) (loc1_3 : Rs) (loc1_4 : Rs) : Option R21 :=
  bif decide (t30 < t29) then
    ixR t28 t30 fun w_x2 =>
    un_i w_x2 fun x_x4 =>
    (mapFind Try.prog 3 (.int .i64 i4) need3).bind fun e_x5 =>
    optC e_x5 (
        rec (.h6 need3 i4 x_x4 t28 t29 t30 false loc2_0 loc2_1 loc1_0 loc1_1 loc1_2 loc1_3 loc1_4)) fun w_x7 =>
      un_b w_x7 fun x_x8 =>
      rec (.h6 need3 i4 x_x4 t28 t29 t30 x_x8 loc2_0 loc2_1 loc1_0 loc1_1 loc1_2 loc1_3 loc1_4)
  else
    rec (.h5 need3 i4 loc2_0 loc2_1 loc1_0 loc1_1 loc1_2 loc1_3 loc1_4)
noncomputable def t21_h3 (k : Nat) (rec : S21 → Option R21) (need3 : Es) (became8 : Es) (t44 : Rs) (t45 : Int) (t46 : Int) (loc41_0 : Int) (loc41_1 : Int) (loc41_2 : Rs) (loc41_3 : Rs) (loc41_4 : Rs) (loc2_0 : Int) (loc2_1 : Int) (loc1_0 : Int) (loc1_1 : Int) (loc1_2 : Rs) (loc1_3 : Rs) (loc1_4 : Rs) : Option R21 :=
  bif decide (t46 < t45) then
    ixR t44 t46 fun w_x2 =>
    un_i4 w_x2 fun op_x4 dst_x4 a_x4 b_x4 =>
    (mapFind Try.prog 3 (.int .i64 t46) need3).bind fun e_x5 =>
    optC e_x5 (
        rec (.h7 need3 became8 t46 t44 t45 t46 true op_x4 dst_x4 a_x4 b_x4 loc41_0 loc41_1 loc41_2 loc41_3 loc41_4 loc2_0 loc2_1 loc1_0 loc1_1 loc1_2 loc1_3 loc1_4)) fun w_x7 =>
      un_b w_x7 fun x_x8 =>
      rec (.h7 need3 became8 t46 t44 t45 t46 (!x_x8) op_x4 dst_x4 a_x4 b_x4 loc41_0 loc41_1 loc41_2 loc41_3 loc41_4 loc2_0 loc2_1 loc1_0 loc1_1 loc1_2 loc1_3 loc1_4)
  else
    ixR loc41_4 (IntKind.i64.wrap ((loc41_4.length : Int) - 1)) fun w_x2 =>
    un_i4 w_x2 fun op_x4 dst_x4 a_x4 b_x4 =>
    some (IntKind.i64.wrap ((loc41_4.length : Int) - 1), loc41_1, immRs loc41_2, immRs loc41_3, immRs (setRow loc41_4 ((IntKind.i64.wrap ((loc41_4.length : Int) - 1)).toNat) 1 (ic 0)))
noncomputable def t21_h4 (k : Nat) (rec : S21 → Option R21) (need3 : Es) (i4 : Int) (r6 : Int) (t28 : Rs) (t29 : Int) (t30 : Int) (t36 : Bool) (loc2_0 : Int) (loc2_1 : Int) (loc1_0 : Int) (loc1_1 : Int) (loc1_2 : Rs) (loc1_3 : Rs) (loc1_4 : Rs) : Option R21 :=
  bif t36 then
    (mapPut Try.prog 3 (.int .i64 r6) [bc true] need3).bind fun es_x1 =>
    rec (.h8 es_x1 i4 t28 t29 t30 loc2_0 loc2_1 loc1_0 loc1_1 loc1_2 loc1_3 loc1_4)
  else
    rec (.h8 need3 i4 t28 t29 t30 loc2_0 loc2_1 loc1_0 loc1_1 loc1_2 loc1_3 loc1_4)
noncomputable def t21_h5 (k : Nat) (rec : S21 → Option R21) (need3 : Es) (i4 : Int) (loc2_0 : Int) (loc2_1 : Int) (loc1_0 : Int) (loc1_1 : Int) (loc1_2 : Rs) (loc1_3 : Rs) (loc1_4 : Rs) : Option R21 :=
  rec (.h0 need3 (IntKind.i64.wrap (i4 - 1)) loc2_0 loc2_1 loc1_0 loc1_1 loc1_2 loc1_3 loc1_4)
noncomputable def t21_h6 (k : Nat) (rec : S21 → Option R21) (need3 : Es) (i4 : Int) (r6 : Int) (t28 : Rs) (t29 : Int) (t30 : Int) (t36 : Bool) (loc2_0 : Int) (loc2_1 : Int) (loc1_0 : Int) (loc1_1 : Int) (loc1_2 : Rs) (loc1_3 : Rs) (loc1_4 : Rs) : Option R21 :=
  bif t36 then
    (mapPut Try.prog 3 (.int .i64 r6) [bc true] need3).bind fun es_x1 =>
    rec (.h9 es_x1 i4 t28 t29 t30 loc2_0 loc2_1 loc1_0 loc1_1 loc1_2 loc1_3 loc1_4)
  else
    rec (.h9 need3 i4 t28 t29 t30 loc2_0 loc2_1 loc1_0 loc1_1 loc1_2 loc1_3 loc1_4)
noncomputable def t21_h7 (k : Nat) (rec : S21 → Option R21) (need3 : Es) (became8 : Es) (i9 : Int) (t44 : Rs) (t45 : Int) (t46 : Int) (t54 : Bool) (loc10_0 : Int) (loc10_1 : Int) (loc10_2 : Int) (loc10_3 : Int) (loc41_0 : Int) (loc41_1 : Int) (loc41_2 : Rs) (loc41_3 : Rs) (loc41_4 : Rs) (loc2_0 : Int) (loc2_1 : Int) (loc1_0 : Int) (loc1_1 : Int) (loc1_2 : Rs) (loc1_3 : Rs) (loc1_4 : Rs) : Option R21 :=
  bif t54 then
    rec (.h10 need3 became8 t44 t45 t46 loc41_0 loc41_1 loc41_2 loc41_3 loc41_4 loc2_0 loc2_1 loc1_0 loc1_1 loc1_2 loc1_3 loc1_4)
  else
    (mapFind Try.prog 3 (.int .i64 loc10_2) became8).bind fun e_x1 =>
    optC e_x1 (
        (g31 k loc10_0).bind fun v_x3 =>
        rec (.h11 need3 became8 i9 0 0 t44 t45 t46 (v_x3 == 2) loc10_0 loc10_1 loc10_2 loc10_3 loc41_0 loc41_1 loc41_2 loc41_3 loc41_4 loc2_0 loc2_1 loc1_0 loc1_1 loc1_2 loc1_3 loc1_4)) fun w_x3 =>
      un_i w_x3 fun x_x4 =>
      (g31 k loc10_0).bind fun v_x5 =>
      rec (.h11 need3 became8 i9 x_x4 0 t44 t45 t46 (v_x5 == 2) loc10_0 loc10_1 loc10_2 loc10_3 loc41_0 loc41_1 loc41_2 loc41_3 loc41_4 loc2_0 loc2_1 loc1_0 loc1_1 loc1_2 loc1_3 loc1_4)
noncomputable def t21_h8 (k : Nat) (rec : S21 → Option R21) (need3 : Es) (i4 : Int) (t28 : Rs) (t29 : Int) (t30 : Int) (loc2_0 : Int) (loc2_1 : Int) (loc1_0 : Int) (loc1_1 : Int) (loc1_2 : Rs) (loc1_3 : Rs) (loc1_4 : Rs) : Option R21 :=
  rec (.h1 need3 i4 t28 t29 (IntKind.i64.wrap (t30 + 1)) loc2_0 loc2_1 loc1_0 loc1_1 loc1_2 loc1_3 loc1_4)
noncomputable def t21_h9 (k : Nat) (rec : S21 → Option R21) (need3 : Es) (i4 : Int) (t28 : Rs) (t29 : Int) (t30 : Int) (loc2_0 : Int) (loc2_1 : Int) (loc1_0 : Int) (loc1_1 : Int) (loc1_2 : Rs) (loc1_3 : Rs) (loc1_4 : Rs) : Option R21 :=
  rec (.h2 need3 i4 t28 t29 (IntKind.i64.wrap (t30 + 1)) loc2_0 loc2_1 loc1_0 loc1_1 loc1_2 loc1_3 loc1_4)
noncomputable def t21_h10 (k : Nat) (rec : S21 → Option R21) (need3 : Es) (became8 : Es) (t44 : Rs) (t45 : Int) (t46 : Int) (loc41_0 : Int) (loc41_1 : Int) (loc41_2 : Rs) (loc41_3 : Rs) (loc41_4 : Rs) (loc2_0 : Int) (loc2_1 : Int) (loc1_0 : Int) (loc1_1 : Int) (loc1_2 : Rs) (loc1_3 : Rs) (loc1_4 : Rs) : Option R21 :=
  rec (.h3 need3 became8 t44 t45 (IntKind.i64.wrap (t46 + 1)) loc41_0 loc41_1 loc41_2 loc41_3 loc41_4 loc2_0 loc2_1 loc1_0 loc1_1 loc1_2 loc1_3 loc1_4)
noncomputable def t21_h11 (k : Nat) (rec : S21 → Option R21) (need3 : Es) (became8 : Es) (i9 : Int) (a11 : Int) (b12 : Int) (t44 : Rs) (t45 : Int) (t46 : Int) (t62 : Bool) (loc10_0 : Int) (loc10_1 : Int) (loc10_2 : Int) (loc10_3 : Int) (loc41_0 : Int) (loc41_1 : Int) (loc41_2 : Rs) (loc41_3 : Rs) (loc41_4 : Rs) (loc2_0 : Int) (loc2_1 : Int) (loc1_0 : Int) (loc1_1 : Int) (loc1_2 : Rs) (loc1_3 : Rs) (loc1_4 : Rs) : Option R21 :=
  bif t62 then
    (mapFind Try.prog 3 (.int .i64 loc10_3) became8).bind fun e_x1 =>
    optC e_x1 (
        rec (.h12 need3 became8 i9 a11 0 t44 t45 t46 loc10_0 loc10_1 loc10_2 loc10_3 loc41_0 loc41_1 loc41_2 loc41_3 loc41_4 loc2_0 loc2_1 loc1_0 loc1_1 loc1_2 loc1_3 loc1_4)) fun w_x3 =>
      un_i w_x3 fun x_x4 =>
      rec (.h12 need3 became8 i9 a11 x_x4 t44 t45 t46 loc10_0 loc10_1 loc10_2 loc10_3 loc41_0 loc41_1 loc41_2 loc41_3 loc41_4 loc2_0 loc2_1 loc1_0 loc1_1 loc1_2 loc1_3 loc1_4)
  else
    rec (.h12 need3 became8 i9 a11 b12 t44 t45 t46 loc10_0 loc10_1 loc10_2 loc10_3 loc41_0 loc41_1 loc41_2 loc41_3 loc41_4 loc2_0 loc2_1 loc1_0 loc1_1 loc1_2 loc1_3 loc1_4)
noncomputable def t21_h12 (k : Nat) (rec : S21 → Option R21) (need3 : Es) (became8 : Es) (i9 : Int) (a11 : Int) (b12 : Int) (t44 : Rs) (t45 : Int) (t46 : Int) (loc10_0 : Int) (loc10_1 : Int) (loc10_2 : Int) (loc10_3 : Int) (loc41_0 : Int) (loc41_1 : Int) (loc41_2 : Rs) (loc41_3 : Rs) (loc41_4 : Rs) (loc2_0 : Int) (loc2_1 : Int) (loc1_0 : Int) (loc1_1 : Int) (loc1_2 : Rs) (loc1_3 : Rs) (loc1_4 : Rs) : Option R21 :=
  bif loc10_0 == 50 then
    rec (.h13 need3 became8 i9 b12 t44 t45 t46 loc10_0 loc10_1 loc10_2 loc10_3 loc41_0 loc41_1 loc41_2 loc41_3 loc41_4 loc2_0 loc2_1 loc1_0 loc1_1 loc1_2 loc1_3 loc1_4)
  else
    rec (.h14 need3 became8 i9 a11 b12 t44 t45 t46 loc10_0 loc10_1 loc10_2 loc10_3 loc41_0 loc41_1 loc41_2 loc41_3 loc41_4 loc2_0 loc2_1 loc1_0 loc1_1 loc1_2 loc1_3 loc1_4)
noncomputable def t21_h13 (k : Nat) (rec : S21 → Option R21) (need3 : Es) (became8 : Es) (i9 : Int) (b12 : Int) (t44 : Rs) (t45 : Int) (t46 : Int) (loc10_0 : Int) (loc10_1 : Int) (loc10_2 : Int) (loc10_3 : Int) (loc41_0 : Int) (loc41_1 : Int) (loc41_2 : Rs) (loc41_3 : Rs) (loc41_4 : Rs) (loc2_0 : Int) (loc2_1 : Int) (loc1_0 : Int) (loc1_1 : Int) (loc1_2 : Rs) (loc1_3 : Rs) (loc1_4 : Rs) : Option R21 :=
  ixR loc1_2 loc10_2 fun w_x1 =>
  un_i4 w_x1 fun op_x3 kind_x3 pos_x3 attr_x3 =>
  (g37c k op_x3 kind_x3 pos_x3 attr_x3 loc41_0 loc41_1 loc41_2 loc41_3 loc41_4).bind fun v_x4 =>
  tup6 v_x4 fun r_x6 rb00_x6 rb01_x6 rb02_x6 rb03_x6 rb04_x6 =>
  rec (.h14 need3 became8 i9 r_x6 b12 t44 t45 t46 loc10_0 loc10_1 loc10_2 loc10_3 rb00_x6 rb01_x6 rb02_x6 rb03_x6 rb04_x6 loc2_0 loc2_1 loc1_0 loc1_1 loc1_2 loc1_3 loc1_4)
noncomputable def t21_h14 (k : Nat) (rec : S21 → Option R21) (need3 : Es) (became8 : Es) (i9 : Int) (a11 : Int) (b12 : Int) (t44 : Rs) (t45 : Int) (t46 : Int) (loc10_0 : Int) (loc10_1 : Int) (loc10_2 : Int) (loc10_3 : Int) (loc41_0 : Int) (loc41_1 : Int) (loc41_2 : Rs) (loc41_3 : Rs) (loc41_4 : Rs) (loc2_0 : Int) (loc2_1 : Int) (loc1_0 : Int) (loc1_1 : Int) (loc1_2 : Rs) (loc1_3 : Rs) (loc1_4 : Rs) : Option R21 :=
  bif loc10_0 == 51 then
    rec (.h15 need3 became8 i9 b12 t44 t45 t46 loc10_0 loc10_1 loc10_2 loc10_3 loc41_0 loc41_1 loc41_2 loc41_3 loc41_4 loc2_0 loc2_1 loc1_0 loc1_1 loc1_2 loc1_3 loc1_4)
  else
    rec (.h16 need3 became8 i9 a11 b12 t44 t45 t46 loc10_0 loc10_1 loc10_2 loc10_3 loc41_0 loc41_1 loc41_2 loc41_3 loc41_4 loc2_0 loc2_1 loc1_0 loc1_1 loc1_2 loc1_3 loc1_4)
noncomputable def t21_h15 (k : Nat) (rec : S21 → Option R21) (need3 : Es) (became8 : Es) (i9 : Int) (b12 : Int) (t44 : Rs) (t45 : Int) (t46 : Int) (loc10_0 : Int) (loc10_1 : Int) (loc10_2 : Int) (loc10_3 : Int) (loc41_0 : Int) (loc41_1 : Int) (loc41_2 : Rs) (loc41_3 : Rs) (loc41_4 : Rs) (loc2_0 : Int) (loc2_1 : Int) (loc1_0 : Int) (loc1_1 : Int) (loc1_2 : Rs) (loc1_3 : Rs) (loc1_4 : Rs) : Option R21 :=
  ixR loc1_3 loc10_2 fun w_x1 =>
  un_iu w_x1 fun kind_x3 bits_x3 =>
  (g38c k kind_x3 bits_x3 loc41_0 loc41_1 loc41_2 loc41_3 loc41_4).bind fun v_x4 =>
  tup6 v_x4 fun r_x6 rb00_x6 rb01_x6 rb02_x6 rb03_x6 rb04_x6 =>
  rec (.h16 need3 became8 i9 r_x6 b12 t44 t45 t46 loc10_0 loc10_1 loc10_2 loc10_3 rb00_x6 rb01_x6 rb02_x6 rb03_x6 rb04_x6 loc2_0 loc2_1 loc1_0 loc1_1 loc1_2 loc1_3 loc1_4)
noncomputable def t21_h16 (k : Nat) (rec : S21 → Option R21) (need3 : Es) (became8 : Es) (i9 : Int) (a11 : Int) (b12 : Int) (t44 : Rs) (t45 : Int) (t46 : Int) (loc10_0 : Int) (loc10_1 : Int) (loc10_2 : Int) (loc10_3 : Int) (loc41_0 : Int) (loc41_1 : Int) (loc41_2 : Rs) (loc41_3 : Rs) (loc41_4 : Rs) (loc2_0 : Int) (loc2_1 : Int) (loc1_0 : Int) (loc1_1 : Int) (loc1_2 : Rs) (loc1_3 : Rs) (loc1_4 : Rs) : Option R21 :=
  (mapPut Try.prog 3 (.int .i64 i9) [ic (loc41_4.length : Int)] became8).bind fun es_x1 =>
  gd (apOk 32 4 loc41_4 [[ic loc10_0, ic (loc41_4.length : Int), ic a11, ic b12]]) <|
  rec (.h10 need3 es_x1 t44 t45 t46 loc41_0 loc41_1 loc41_2 loc41_3 (loc41_4 ++ [[ic loc10_0, ic (loc41_4.length : Int), ic a11, ic b12]]) loc2_0 loc2_1 loc1_0 loc1_1 loc1_2 loc1_3 loc1_4)
noncomputable def step21 (k : Nat) (rec : S21 → Option R21) : S21 → Option R21
  | .e c0_0 c0_1 c0_2 c0_3 c0_4 => t21_e k rec c0_0 c0_1 c0_2 c0_3 c0_4
  | .h0 need3 i4 loc2_0 loc2_1 loc1_0 loc1_1 loc1_2 loc1_3 loc1_4 => t21_h0 k rec need3 i4 loc2_0 loc2_1 loc1_0 loc1_1 loc1_2 loc1_3 loc1_4
  | .h1 need3 i4 t28 t29 t30 loc2_0 loc2_1 loc1_0 loc1_1 loc1_2 loc1_3 loc1_4 => t21_h1 k rec need3 i4 t28 t29 t30 loc2_0 loc2_1 loc1_0 loc1_1 loc1_2 loc1_3 loc1_4
  | .h2 need3 i4 t28 t29 t30 loc2_0 loc2_1 loc1_0 loc1_1 loc1_2 loc1_3 loc1_4 => t21_h2 k rec need3 i4 t28 t29 t30 loc2_0 loc2_1 loc1_0 loc1_1 loc1_2 loc1_3 loc1_4
  | .h3 need3 became8 t44 t45 t46 loc41_0 loc41_1 loc41_2 loc41_3 loc41_4 loc2_0 loc2_1 loc1_0 loc1_1 loc1_2 loc1_3 loc1_4 => t21_h3 k rec need3 became8 t44 t45 t46 loc41_0 loc41_1 loc41_2 loc41_3 loc41_4 loc2_0 loc2_1 loc1_0 loc1_1 loc1_2 loc1_3 loc1_4
  | .h4 need3 i4 r6 t28 t29 t30 t36 loc2_0 loc2_1 loc1_0 loc1_1 loc1_2 loc1_3 loc1_4 => t21_h4 k rec need3 i4 r6 t28 t29 t30 t36 loc2_0 loc2_1 loc1_0 loc1_1 loc1_2 loc1_3 loc1_4
  | .h5 need3 i4 loc2_0 loc2_1 loc1_0 loc1_1 loc1_2 loc1_3 loc1_4 => t21_h5 k rec need3 i4 loc2_0 loc2_1 loc1_0 loc1_1 loc1_2 loc1_3 loc1_4
  | .h6 need3 i4 r6 t28 t29 t30 t36 loc2_0 loc2_1 loc1_0 loc1_1 loc1_2 loc1_3 loc1_4 => t21_h6 k rec need3 i4 r6 t28 t29 t30 t36 loc2_0 loc2_1 loc1_0 loc1_1 loc1_2 loc1_3 loc1_4
  | .h7 need3 became8 i9 t44 t45 t46 t54 loc10_0 loc10_1 loc10_2 loc10_3 loc41_0 loc41_1 loc41_2 loc41_3 loc41_4 loc2_0 loc2_1 loc1_0 loc1_1 loc1_2 loc1_3 loc1_4 => t21_h7 k rec need3 became8 i9 t44 t45 t46 t54 loc10_0 loc10_1 loc10_2 loc10_3 loc41_0 loc41_1 loc41_2 loc41_3 loc41_4 loc2_0 loc2_1 loc1_0 loc1_1 loc1_2 loc1_3 loc1_4
  | .h8 need3 i4 t28 t29 t30 loc2_0 loc2_1 loc1_0 loc1_1 loc1_2 loc1_3 loc1_4 => t21_h8 k rec need3 i4 t28 t29 t30 loc2_0 loc2_1 loc1_0 loc1_1 loc1_2 loc1_3 loc1_4
  | .h9 need3 i4 t28 t29 t30 loc2_0 loc2_1 loc1_0 loc1_1 loc1_2 loc1_3 loc1_4 => t21_h9 k rec need3 i4 t28 t29 t30 loc2_0 loc2_1 loc1_0 loc1_1 loc1_2 loc1_3 loc1_4
  | .h10 need3 became8 t44 t45 t46 loc41_0 loc41_1 loc41_2 loc41_3 loc41_4 loc2_0 loc2_1 loc1_0 loc1_1 loc1_2 loc1_3 loc1_4 => t21_h10 k rec need3 became8 t44 t45 t46 loc41_0 loc41_1 loc41_2 loc41_3 loc41_4 loc2_0 loc2_1 loc1_0 loc1_1 loc1_2 loc1_3 loc1_4
  | .h11 need3 became8 i9 a11 b12 t44 t45 t46 t62 loc10_0 loc10_1 loc10_2 loc10_3 loc41_0 loc41_1 loc41_2 loc41_3 loc41_4 loc2_0 loc2_1 loc1_0 loc1_1 loc1_2 loc1_3 loc1_4 => t21_h11 k rec need3 became8 i9 a11 b12 t44 t45 t46 t62 loc10_0 loc10_1 loc10_2 loc10_3 loc41_0 loc41_1 loc41_2 loc41_3 loc41_4 loc2_0 loc2_1 loc1_0 loc1_1 loc1_2 loc1_3 loc1_4
  | .h12 need3 became8 i9 a11 b12 t44 t45 t46 loc10_0 loc10_1 loc10_2 loc10_3 loc41_0 loc41_1 loc41_2 loc41_3 loc41_4 loc2_0 loc2_1 loc1_0 loc1_1 loc1_2 loc1_3 loc1_4 => t21_h12 k rec need3 became8 i9 a11 b12 t44 t45 t46 loc10_0 loc10_1 loc10_2 loc10_3 loc41_0 loc41_1 loc41_2 loc41_3 loc41_4 loc2_0 loc2_1 loc1_0 loc1_1 loc1_2 loc1_3 loc1_4
  | .h13 need3 became8 i9 b12 t44 t45 t46 loc10_0 loc10_1 loc10_2 loc10_3 loc41_0 loc41_1 loc41_2 loc41_3 loc41_4 loc2_0 loc2_1 loc1_0 loc1_1 loc1_2 loc1_3 loc1_4 => t21_h13 k rec need3 became8 i9 b12 t44 t45 t46 loc10_0 loc10_1 loc10_2 loc10_3 loc41_0 loc41_1 loc41_2 loc41_3 loc41_4 loc2_0 loc2_1 loc1_0 loc1_1 loc1_2 loc1_3 loc1_4
  | .h14 need3 became8 i9 a11 b12 t44 t45 t46 loc10_0 loc10_1 loc10_2 loc10_3 loc41_0 loc41_1 loc41_2 loc41_3 loc41_4 loc2_0 loc2_1 loc1_0 loc1_1 loc1_2 loc1_3 loc1_4 => t21_h14 k rec need3 became8 i9 a11 b12 t44 t45 t46 loc10_0 loc10_1 loc10_2 loc10_3 loc41_0 loc41_1 loc41_2 loc41_3 loc41_4 loc2_0 loc2_1 loc1_0 loc1_1 loc1_2 loc1_3 loc1_4
  | .h15 need3 became8 i9 b12 t44 t45 t46 loc10_0 loc10_1 loc10_2 loc10_3 loc41_0 loc41_1 loc41_2 loc41_3 loc41_4 loc2_0 loc2_1 loc1_0 loc1_1 loc1_2 loc1_3 loc1_4 => t21_h15 k rec need3 became8 i9 b12 t44 t45 t46 loc10_0 loc10_1 loc10_2 loc10_3 loc41_0 loc41_1 loc41_2 loc41_3 loc41_4 loc2_0 loc2_1 loc1_0 loc1_1 loc1_2 loc1_3 loc1_4
  | .h16 need3 became8 i9 a11 b12 t44 t45 t46 loc10_0 loc10_1 loc10_2 loc10_3 loc41_0 loc41_1 loc41_2 loc41_3 loc41_4 loc2_0 loc2_1 loc1_0 loc1_1 loc1_2 loc1_3 loc1_4 => t21_h16 k rec need3 became8 i9 a11 b12 t44 t45 t46 loc10_0 loc10_1 loc10_2 loc10_3 loc41_0 loc41_1 loc41_2 loc41_3 loc41_4 loc2_0 loc2_1 loc1_0 loc1_1 loc1_2 loc1_3 loc1_4
noncomputable def g21 (k : Nat) (c0_0 : Int) (c0_1 : Int) (c0_2 : Rs) (c0_3 : Rs) (c0_4 : Rs) : Option R21 := itS step21 k (.e c0_0 c0_1 c0_2 c0_3 c0_4)
noncomputable def P21 : S21 → R21 → Prop
  | .e c0_0 c0_1 c0_2 c0_3 c0_4, r => Fin cx21 Try.f21 [.code body21] (fr0 Try.f21 [.ag [ic c0_0, ic c0_1, .imm c0_2, .imm c0_3, .imm c0_4]] []) (res21 r) (bx21 r)
  | .h0 need3 i4 loc2_0 loc2_1 loc1_0 loc1_1 loc1_2 loc1_3 loc1_4, r => Fin cx21 Try.f21 (kAt body21 [1, 1, 0, 1, 0, 4] []) ⟨[.deadv, .c (.ptr ⟨⟨.loc 1, []⟩, 0, 0⟩), .c (.ptr ⟨⟨.loc 2, []⟩, 0, 0⟩), .c (.mp need3), .c (ic i4)] ++ rep 133 .deadv, [(.loc 2, [ic loc2_0, ic loc2_1, .nil, .nil, .nil]), (.loc 1, [ic loc1_0, ic loc1_1, .imm loc1_2, .imm loc1_3, .imm loc1_4])]⟩ (res21 r) (bx21 r)
  | .h1 need3 i4 t28 t29 t30 loc2_0 loc2_1 loc1_0 loc1_1 loc1_2 loc1_3 loc1_4, r => Fin cx21 Try.f21 (kAt body21 [1, 1, 0, 1, 0, 0, 1, 0, 0, 1, 0, 4] []) ⟨[.deadv, .c (.ptr ⟨⟨.loc 1, []⟩, 0, 0⟩), .c (.ptr ⟨⟨.loc 2, []⟩, 0, 0⟩), .c (.mp need3), .c (ic i4)] ++ rep 23 .deadv ++ [.c (.own 1 t28), .c (ic t29), .c (ic t30)] ++ rep 107 .deadv, [(.loc 2, [ic loc2_0, ic loc2_1, .nil, .nil, .nil]), (.loc 1, [ic loc1_0, ic loc1_1, .imm loc1_2, .imm loc1_3, .imm loc1_4])]⟩ (res21 r) (bx21 r)
  | .h2 need3 i4 t28 t29 t30 loc2_0 loc2_1 loc1_0 loc1_1 loc1_2 loc1_3 loc1_4, r => Fin cx21 Try.f21 (kAt body21 [1, 1, 0, 1, 0, 0, 1, 0, 0, 1, 0, 4] []) ⟨[.deadv, .c (.ptr ⟨⟨.loc 1, []⟩, 0, 0⟩), .c (.ptr ⟨⟨.loc 2, []⟩, 0, 0⟩), .c (.mp need3), .c (ic i4)] ++ rep 23 .deadv ++ [.c (.imm t28), .c (ic t29), .c (ic t30)] ++ rep 107 .deadv, [(.loc 2, [ic loc2_0, ic loc2_1, .nil, .nil, .nil]), (.loc 1, [ic loc1_0, ic loc1_1, .imm loc1_2, .imm loc1_3, .imm loc1_4])]⟩ (res21 r) (bx21 r)
  | .h3 need3 became8 t44 t45 t46 loc41_0 loc41_1 loc41_2 loc41_3 loc41_4 loc2_0 loc2_1 loc1_0 loc1_1 loc1_2 loc1_3 loc1_4, r => Fin cx21 Try.f21 (kAt body21 [1, 1, 1, 1, 1, 0, 1, 0, 4] []) ⟨[.deadv, .c (.ptr ⟨⟨.loc 1, []⟩, 0, 0⟩), .c (.ptr ⟨⟨.loc 2, []⟩, 0, 0⟩), .c (.mp need3)] ++ rep 3 .deadv ++ [.c (.ptr ⟨⟨.loc 41, []⟩, 0, 0⟩), .c (.mp became8)] ++ rep 35 .deadv ++ [.c (.imm t44), .c (ic t45), .c (ic t46)] ++ rep 91 .deadv, [(.loc 41, [ic loc41_0, ic loc41_1, .own 4 loc41_2, .own 2 loc41_3, .own 4 loc41_4]), (.loc 2, [ic loc2_0, ic loc2_1, .nil, .nil, .nil]), (.loc 1, [ic loc1_0, ic loc1_1, .imm loc1_2, .imm loc1_3, .imm loc1_4])]⟩ (res21 r) (bx21 r)
  | .h4 need3 i4 r6 t28 t29 t30 t36 loc2_0 loc2_1 loc1_0 loc1_1 loc1_2 loc1_3 loc1_4, r => Fin cx21 Try.f21 (kAt body21 [1, 1, 0, 1, 0, 0, 1, 0, 0, 1, 0, 0, 1, 1, 0, 0, 1, 1, 2] []) ⟨[.deadv, .c (.ptr ⟨⟨.loc 1, []⟩, 0, 0⟩), .c (.ptr ⟨⟨.loc 2, []⟩, 0, 0⟩), .c (.mp need3), .c (ic i4), .deadv, .c (ic r6)] ++ rep 21 .deadv ++ [.c (.own 1 t28), .c (ic t29), .c (ic t30)] ++ rep 5 .deadv ++ [.c (bc t36)] ++ rep 101 .deadv, [(.loc 2, [ic loc2_0, ic loc2_1, .nil, .nil, .nil]), (.loc 1, [ic loc1_0, ic loc1_1, .imm loc1_2, .imm loc1_3, .imm loc1_4])]⟩ (res21 r) (bx21 r)
  | .h5 need3 i4 loc2_0 loc2_1 loc1_0 loc1_1 loc1_2 loc1_3 loc1_4, r => Fin cx21 Try.f21 (kAt body21 [1, 1, 0, 1, 0, 0, 1, 1, 2] []) ⟨[.deadv, .c (.ptr ⟨⟨.loc 1, []⟩, 0, 0⟩), .c (.ptr ⟨⟨.loc 2, []⟩, 0, 0⟩), .c (.mp need3), .c (ic i4)] ++ rep 133 .deadv, [(.loc 2, [ic loc2_0, ic loc2_1, .nil, .nil, .nil]), (.loc 1, [ic loc1_0, ic loc1_1, .imm loc1_2, .imm loc1_3, .imm loc1_4])]⟩ (res21 r) (bx21 r)
  | .h6 need3 i4 r6 t28 t29 t30 t36 loc2_0 loc2_1 loc1_0 loc1_1 loc1_2 loc1_3 loc1_4, r => Fin cx21 Try.f21 (kAt body21 [1, 1, 0, 1, 0, 0, 1, 0, 0, 1, 0, 0, 1, 1, 0, 0, 1, 1, 2] []) ⟨[.deadv, .c (.ptr ⟨⟨.loc 1, []⟩, 0, 0⟩), .c (.ptr ⟨⟨.loc 2, []⟩, 0, 0⟩), .c (.mp need3), .c (ic i4), .deadv, .c (ic r6)] ++ rep 21 .deadv ++ [.c (.imm t28), .c (ic t29), .c (ic t30)] ++ rep 5 .deadv ++ [.c (bc t36)] ++ rep 101 .deadv, [(.loc 2, [ic loc2_0, ic loc2_1, .nil, .nil, .nil]), (.loc 1, [ic loc1_0, ic loc1_1, .imm loc1_2, .imm loc1_3, .imm loc1_4])]⟩ (res21 r) (bx21 r)
  | .h7 need3 became8 i9 t44 t45 t46 t54 loc10_0 loc10_1 loc10_2 loc10_3 loc41_0 loc41_1 loc41_2 loc41_3 loc41_4 loc2_0 loc2_1 loc1_0 loc1_1 loc1_2 loc1_3 loc1_4, r => Fin cx21 Try.f21 (kAt body21 [1, 1, 1, 1, 1, 0, 1, 0, 0, 1, 1, 0, 0, 1, 0, 1, 2] []) ⟨[.deadv, .c (.ptr ⟨⟨.loc 1, []⟩, 0, 0⟩), .c (.ptr ⟨⟨.loc 2, []⟩, 0, 0⟩), .c (.mp need3)] ++ rep 3 .deadv ++ [.c (.ptr ⟨⟨.loc 41, []⟩, 0, 0⟩), .c (.mp became8), .c (ic i9), .c (.ptr ⟨⟨.loc 10, []⟩, 0, 0⟩)] ++ rep 33 .deadv ++ [.c (.imm t44), .c (ic t45), .c (ic t46)] ++ rep 7 .deadv ++ [.c (bc t54)] ++ rep 83 .deadv, [(.loc 10, [ic loc10_0, ic loc10_1, ic loc10_2, ic loc10_3]), (.loc 41, [ic loc41_0, ic loc41_1, .own 4 loc41_2, .own 2 loc41_3, .own 4 loc41_4]), (.loc 2, [ic loc2_0, ic loc2_1, .nil, .nil, .nil]), (.loc 1, [ic loc1_0, ic loc1_1, .imm loc1_2, .imm loc1_3, .imm loc1_4])]⟩ (res21 r) (bx21 r)
  | .h8 need3 i4 t28 t29 t30 loc2_0 loc2_1 loc1_0 loc1_1 loc1_2 loc1_3 loc1_4, r => Fin cx21 Try.f21 (kAt body21 [1, 1, 0, 1, 0, 0, 1, 0, 0, 1, 0, 0, 1, 1, 1, 2] []) ⟨[.deadv, .c (.ptr ⟨⟨.loc 1, []⟩, 0, 0⟩), .c (.ptr ⟨⟨.loc 2, []⟩, 0, 0⟩), .c (.mp need3), .c (ic i4)] ++ rep 23 .deadv ++ [.c (.own 1 t28), .c (ic t29), .c (ic t30)] ++ rep 107 .deadv, [(.loc 2, [ic loc2_0, ic loc2_1, .nil, .nil, .nil]), (.loc 1, [ic loc1_0, ic loc1_1, .imm loc1_2, .imm loc1_3, .imm loc1_4])]⟩ (res21 r) (bx21 r)
  | .h9 need3 i4 t28 t29 t30 loc2_0 loc2_1 loc1_0 loc1_1 loc1_2 loc1_3 loc1_4, r => Fin cx21 Try.f21 (kAt body21 [1, 1, 0, 1, 0, 0, 1, 0, 0, 1, 0, 0, 1, 1, 1, 2] []) ⟨[.deadv, .c (.ptr ⟨⟨.loc 1, []⟩, 0, 0⟩), .c (.ptr ⟨⟨.loc 2, []⟩, 0, 0⟩), .c (.mp need3), .c (ic i4)] ++ rep 23 .deadv ++ [.c (.imm t28), .c (ic t29), .c (ic t30)] ++ rep 107 .deadv, [(.loc 2, [ic loc2_0, ic loc2_1, .nil, .nil, .nil]), (.loc 1, [ic loc1_0, ic loc1_1, .imm loc1_2, .imm loc1_3, .imm loc1_4])]⟩ (res21 r) (bx21 r)
  | .h10 need3 became8 t44 t45 t46 loc41_0 loc41_1 loc41_2 loc41_3 loc41_4 loc2_0 loc2_1 loc1_0 loc1_1 loc1_2 loc1_3 loc1_4, r => Fin cx21 Try.f21 (kAt body21 [1, 1, 1, 1, 1, 0, 1, 0, 0, 1, 1, 1, 2] []) ⟨[.deadv, .c (.ptr ⟨⟨.loc 1, []⟩, 0, 0⟩), .c (.ptr ⟨⟨.loc 2, []⟩, 0, 0⟩), .c (.mp need3)] ++ rep 3 .deadv ++ [.c (.ptr ⟨⟨.loc 41, []⟩, 0, 0⟩), .c (.mp became8)] ++ rep 35 .deadv ++ [.c (.imm t44), .c (ic t45), .c (ic t46)] ++ rep 91 .deadv, [(.loc 41, [ic loc41_0, ic loc41_1, .own 4 loc41_2, .own 2 loc41_3, .own 4 loc41_4]), (.loc 2, [ic loc2_0, ic loc2_1, .nil, .nil, .nil]), (.loc 1, [ic loc1_0, ic loc1_1, .imm loc1_2, .imm loc1_3, .imm loc1_4])]⟩ (res21 r) (bx21 r)
  | .h11 need3 became8 i9 a11 b12 t44 t45 t46 t62 loc10_0 loc10_1 loc10_2 loc10_3 loc41_0 loc41_1 loc41_2 loc41_3 loc41_4 loc2_0 loc2_1 loc1_0 loc1_1 loc1_2 loc1_3 loc1_4, r => Fin cx21 Try.f21 (kAt body21 [1, 1, 1, 1, 1, 0, 1, 0, 0, 1, 1, 0, 0, 1, 1, 1, 0, 1, 2] []) ⟨[.deadv, .c (.ptr ⟨⟨.loc 1, []⟩, 0, 0⟩), .c (.ptr ⟨⟨.loc 2, []⟩, 0, 0⟩), .c (.mp need3)] ++ rep 3 .deadv ++ [.c (.ptr ⟨⟨.loc 41, []⟩, 0, 0⟩), .c (.mp became8), .c (ic i9), .c (.ptr ⟨⟨.loc 10, []⟩, 0, 0⟩), .c (ic a11), .c (ic b12)] ++ rep 31 .deadv ++ [.c (.imm t44), .c (ic t45), .c (ic t46)] ++ rep 15 .deadv ++ [.c (bc t62)] ++ rep 75 .deadv, [(.loc 10, [ic loc10_0, ic loc10_1, ic loc10_2, ic loc10_3]), (.loc 41, [ic loc41_0, ic loc41_1, .own 4 loc41_2, .own 2 loc41_3, .own 4 loc41_4]), (.loc 2, [ic loc2_0, ic loc2_1, .nil, .nil, .nil]), (.loc 1, [ic loc1_0, ic loc1_1, .imm loc1_2, .imm loc1_3, .imm loc1_4])]⟩ (res21 r) (bx21 r)
  | .h12 need3 became8 i9 a11 b12 t44 t45 t46 loc10_0 loc10_1 loc10_2 loc10_3 loc41_0 loc41_1 loc41_2 loc41_3 loc41_4 loc2_0 loc2_1 loc1_0 loc1_1 loc1_2 loc1_3 loc1_4, r => Fin cx21 Try.f21 (kAt body21 [1, 1, 1, 1, 1, 0, 1, 0, 0, 1, 1, 0, 0, 1, 1, 1, 1, 2] []) ⟨[.deadv, .c (.ptr ⟨⟨.loc 1, []⟩, 0, 0⟩), .c (.ptr ⟨⟨.loc 2, []⟩, 0, 0⟩), .c (.mp need3)] ++ rep 3 .deadv ++ [.c (.ptr ⟨⟨.loc 41, []⟩, 0, 0⟩), .c (.mp became8), .c (ic i9), .c (.ptr ⟨⟨.loc 10, []⟩, 0, 0⟩), .c (ic a11), .c (ic b12)] ++ rep 31 .deadv ++ [.c (.imm t44), .c (ic t45), .c (ic t46)] ++ rep 91 .deadv, [(.loc 10, [ic loc10_0, ic loc10_1, ic loc10_2, ic loc10_3]), (.loc 41, [ic loc41_0, ic loc41_1, .own 4 loc41_2, .own 2 loc41_3, .own 4 loc41_4]), (.loc 2, [ic loc2_0, ic loc2_1, .nil, .nil, .nil]), (.loc 1, [ic loc1_0, ic loc1_1, .imm loc1_2, .imm loc1_3, .imm loc1_4])]⟩ (res21 r) (bx21 r)
  | .h13 need3 became8 i9 b12 t44 t45 t46 loc10_0 loc10_1 loc10_2 loc10_3 loc41_0 loc41_1 loc41_2 loc41_3 loc41_4 loc2_0 loc2_1 loc1_0 loc1_1 loc1_2 loc1_3 loc1_4, r => Fin cx21 Try.f21 (kAt body21 [1, 1, 1, 1, 1, 0, 1, 0, 0, 1, 1, 0, 0, 1, 1, 1, 1, 0, 1, 0, 2] []) ⟨[.deadv, .c (.ptr ⟨⟨.loc 1, []⟩, 0, 0⟩), .c (.ptr ⟨⟨.loc 2, []⟩, 0, 0⟩), .c (.mp need3)] ++ rep 3 .deadv ++ [.c (.ptr ⟨⟨.loc 41, []⟩, 0, 0⟩), .c (.mp became8), .c (ic i9), .c (.ptr ⟨⟨.loc 10, []⟩, 0, 0⟩), .deadv, .c (ic b12)] ++ rep 31 .deadv ++ [.c (.imm t44), .c (ic t45), .c (ic t46)] ++ rep 91 .deadv, [(.loc 10, [ic loc10_0, ic loc10_1, ic loc10_2, ic loc10_3]), (.loc 41, [ic loc41_0, ic loc41_1, .own 4 loc41_2, .own 2 loc41_3, .own 4 loc41_4]), (.loc 2, [ic loc2_0, ic loc2_1, .nil, .nil, .nil]), (.loc 1, [ic loc1_0, ic loc1_1, .imm loc1_2, .imm loc1_3, .imm loc1_4])]⟩ (res21 r) (bx21 r)
  | .h14 need3 became8 i9 a11 b12 t44 t45 t46 loc10_0 loc10_1 loc10_2 loc10_3 loc41_0 loc41_1 loc41_2 loc41_3 loc41_4 loc2_0 loc2_1 loc1_0 loc1_1 loc1_2 loc1_3 loc1_4, r => Fin cx21 Try.f21 (kAt body21 [1, 1, 1, 1, 1, 0, 1, 0, 0, 1, 1, 0, 0, 1, 1, 1, 1, 1, 2] []) ⟨[.deadv, .c (.ptr ⟨⟨.loc 1, []⟩, 0, 0⟩), .c (.ptr ⟨⟨.loc 2, []⟩, 0, 0⟩), .c (.mp need3)] ++ rep 3 .deadv ++ [.c (.ptr ⟨⟨.loc 41, []⟩, 0, 0⟩), .c (.mp became8), .c (ic i9), .c (.ptr ⟨⟨.loc 10, []⟩, 0, 0⟩), .c (ic a11), .c (ic b12)] ++ rep 31 .deadv ++ [.c (.imm t44), .c (ic t45), .c (ic t46)] ++ rep 91 .deadv, [(.loc 10, [ic loc10_0, ic loc10_1, ic loc10_2, ic loc10_3]), (.loc 41, [ic loc41_0, ic loc41_1, .own 4 loc41_2, .own 2 loc41_3, .own 4 loc41_4]), (.loc 2, [ic loc2_0, ic loc2_1, .nil, .nil, .nil]), (.loc 1, [ic loc1_0, ic loc1_1, .imm loc1_2, .imm loc1_3, .imm loc1_4])]⟩ (res21 r) (bx21 r)
  | .h15 need3 became8 i9 b12 t44 t45 t46 loc10_0 loc10_1 loc10_2 loc10_3 loc41_0 loc41_1 loc41_2 loc41_3 loc41_4 loc2_0 loc2_1 loc1_0 loc1_1 loc1_2 loc1_3 loc1_4, r => Fin cx21 Try.f21 (kAt body21 [1, 1, 1, 1, 1, 0, 1, 0, 0, 1, 1, 0, 0, 1, 1, 1, 1, 1, 0, 1, 0, 2] []) ⟨[.deadv, .c (.ptr ⟨⟨.loc 1, []⟩, 0, 0⟩), .c (.ptr ⟨⟨.loc 2, []⟩, 0, 0⟩), .c (.mp need3)] ++ rep 3 .deadv ++ [.c (.ptr ⟨⟨.loc 41, []⟩, 0, 0⟩), .c (.mp became8), .c (ic i9), .c (.ptr ⟨⟨.loc 10, []⟩, 0, 0⟩), .deadv, .c (ic b12)] ++ rep 31 .deadv ++ [.c (.imm t44), .c (ic t45), .c (ic t46)] ++ rep 91 .deadv, [(.loc 10, [ic loc10_0, ic loc10_1, ic loc10_2, ic loc10_3]), (.loc 41, [ic loc41_0, ic loc41_1, .own 4 loc41_2, .own 2 loc41_3, .own 4 loc41_4]), (.loc 2, [ic loc2_0, ic loc2_1, .nil, .nil, .nil]), (.loc 1, [ic loc1_0, ic loc1_1, .imm loc1_2, .imm loc1_3, .imm loc1_4])]⟩ (res21 r) (bx21 r)
  | .h16 need3 became8 i9 a11 b12 t44 t45 t46 loc10_0 loc10_1 loc10_2 loc10_3 loc41_0 loc41_1 loc41_2 loc41_3 loc41_4 loc2_0 loc2_1 loc1_0 loc1_1 loc1_2 loc1_3 loc1_4, r => Fin cx21 Try.f21 (kAt body21 [1, 1, 1, 1, 1, 0, 1, 0, 0, 1, 1, 0, 0, 1, 1, 1, 1, 1, 1, 2] []) ⟨[.deadv, .c (.ptr ⟨⟨.loc 1, []⟩, 0, 0⟩), .c (.ptr ⟨⟨.loc 2, []⟩, 0, 0⟩), .c (.mp need3)] ++ rep 3 .deadv ++ [.c (.ptr ⟨⟨.loc 41, []⟩, 0, 0⟩), .c (.mp became8), .c (ic i9), .c (.ptr ⟨⟨.loc 10, []⟩, 0, 0⟩), .c (ic a11), .c (ic b12)] ++ rep 31 .deadv ++ [.c (.imm t44), .c (ic t45), .c (ic t46)] ++ rep 91 .deadv, [(.loc 10, [ic loc10_0, ic loc10_1, ic loc10_2, ic loc10_3]), (.loc 41, [ic loc41_0, ic loc41_1, .own 4 loc41_2, .own 2 loc41_3, .own 4 loc41_4]), (.loc 2, [ic loc2_0, ic loc2_1, .nil, .nil, .nil]), (.loc 1, [ic loc1_0, ic loc1_1, .imm loc1_2, .imm loc1_3, .imm loc1_4])]⟩ (res21 r) (bx21 r)
theorem evr21 {c0_0 : Int} {c0_1 : Int} {c0_2 : Rs} {c0_3 : Rs} {c0_4 : Rs} {r : R21} (h : P21 (.e c0_0 c0_1 c0_2 c0_3 c0_4) r) : Ev Try.prog noHand 21 [.ag [ic c0_0, ic c0_1, .imm c0_2, .imm c0_3, .imm c0_4]] [] (res21 r) (bx21 r) := ev_of_fin (fn := Try.f21) (body := body21) (by kernel_rfl) (by kernel_rfl) (by kernel_rfl) rfl h
theorem t21_e_ok (k : Nat) (rec : S21 → Option R21) (ih : ∀ s r, rec s = some r → P21 s r) (c0_0 : Int) (c0_1 : Int) (c0_2 : Rs) (c0_3 : Rs) (c0_4 : Rs) (r : R21) (h : t21_e k rec c0_0 c0_1 c0_2 c0_3 c0_4 = some r) : P21 (.e c0_0 c0_1 c0_2 c0_3 c0_4) r := by
  unfold t21_e at h
  exact mgo_at (nb := 0) hmix (ih _ _ h) (n := 9) (ad := []) (ps := []) (m := bm 138 348449143727040986586495598010130648530913) (ls := []) (cs := []) (by kernel_rfl) trivial
theorem t21_h0_ok (k : Nat) (rec : S21 → Option R21) (ih : ∀ s r, rec s = some r → P21 s r) (need3 : Es) (i4 : Int) (loc2_0 : Int) (loc2_1 : Int) (loc1_0 : Int) (loc1_1 : Int) (loc1_2 : Rs) (loc1_3 : Rs) (loc1_4 : Rs) (r : R21) (h : t21_h0 k rec need3 i4 loc2_0 loc2_1 loc1_0 loc1_1 loc1_2 loc1_3 loc1_4 = some r) : P21 (.h0 need3 i4 loc2_0 loc2_1 loc1_0 loc1_1 loc1_2 loc1_3 loc1_4) r := by
  unfold t21_h0 at h
  rcases bif_or h with ⟨h_x1, h⟩ | ⟨h_x1, h⟩
  ·
    obtain ⟨w_x2, h_x3, h⟩ := ixR_or h
    obtain ⟨op_x4, dst_x4, a_x4, b_x4, hq, h1'⟩ := un_i4_or h
    clear h; subst hq; have h := h1'; clear h1'
    obtain ⟨v_x5, h_x6, h⟩ := bd_or h
    rcases altC_or h with ⟨v_x7, hq, h1'⟩ | ⟨v_x7, hq, h1'⟩
    · clear h; subst hq; have h := h1'; clear h1'
      exact mgo_at (nb := 0) hmix (ih _ _ h) (n := 12) (ad := [(some 20, .test true), (some 26, .row [ic op_x4, ic dst_x4, ic a_x4, ic b_x4]), (some 28, .call (.ret (.c (.own 1 v_x7))) [] false)]) (ps := [_, _, _]) (m := bm 138 348449143727040986586495598010128769482721) (ls := []) (cs := []) (by kernel_rfl) ⟨h_x1, ix_row h_x3 rfl, (ev33 h_x6), trivial⟩
    · clear h; subst hq; have h := h1'; clear h1'
      exact mgo_at (nb := 0) hmix (ih _ _ h) (n := 12) (ad := [(some 20, .test true), (some 26, .row [ic op_x4, ic dst_x4, ic a_x4, ic b_x4]), (some 28, .call (.ret (.c (.imm v_x7))) [] false)]) (ps := [_, _, _]) (m := bm 138 348449143727040986586495598010128769482721) (ls := []) (cs := []) (by kernel_rfl) ⟨h_x1, ix_row h_x3 rfl, (ev33 h_x6), trivial⟩
  ·
    exact mgo_at (nb := 0) hmix (ih _ _ h) (n := 15) (ad := [(some 20, .test false)]) (ps := [_]) (m := bm 138 348449143727040986586495597886985346219633) (ls := []) (cs := [(⟨⟨.loc 41, []⟩, 0, 2⟩, some 4), (⟨⟨.loc 41, []⟩, 0, 3⟩, some 2), (⟨⟨.loc 41, []⟩, 0, 4⟩, some 4)]) (by kernel_rfl) ⟨h_x1, trivial⟩
theorem t21_h1_ok (k : Nat) (rec : S21 → Option R21) (ih : ∀ s r, rec s = some r → P21 s r) (need3 : Es) (i4 : Int) (t28 : Rs) (t29 : Int) (t30 : Int) (loc2_0 : Int) (loc2_1 : Int) (loc1_0 : Int) (loc1_1 : Int) (loc1_2 : Rs) (loc1_3 : Rs) (loc1_4 : Rs) (r : R21) (h : t21_h1 k rec need3 i4 t28 t29 t30 loc2_0 loc2_1 loc1_0 loc1_1 loc1_2 loc1_3 loc1_4 = some r) : P21 (.h1 need3 i4 t28 t29 t30 loc2_0 loc2_1 loc1_0 loc1_1 loc1_2 loc1_3 loc1_4) r := by
  unfold t21_h1 at h
  rcases bif_or h with ⟨h_x1, h⟩ | ⟨h_x1, h⟩
  ·
    obtain ⟨w_x2, h_x3, h⟩ := ixR_or h
    obtain ⟨x_x4, hq, h1'⟩ := un_i_or h
    clear h; subst hq; have h := h1'; clear h1'
    obtain ⟨e_x5, h_x6, h⟩ := bd_or h
    rcases optC_or h with ⟨w_x7, hq, h1'⟩ | ⟨hq, h1'⟩
    · clear h; subst hq; have h := h1'; clear h1'
      obtain ⟨x_x8, hq, h1'⟩ := un_b_or h
      clear h; subst hq; have h := h1'; clear h1'
      exact mgo_at (nb := 0) hmix (ih _ _ h) (n := 12) (ad := [(some 31, .test true), (some 32, .bnd), (some 33, .ld [ic x_x4]), (some 36, .look (some [bc x_x8]))]) (ps := [_, _, _, _]) (m := bm 138 348449143727040986586495598010060050005921) (ls := []) (cs := []) (by kernel_rfl) ⟨h_x1, ix_bnd h_x3, h_x3.2, h_x6, trivial⟩
    · clear h; subst hq; have h := h1'; clear h1'
      exact mgo_at (nb := 0) hmix (ih _ _ h) (n := 12) (ad := [(some 31, .test true), (some 32, .bnd), (some 33, .ld [ic x_x4]), (some 36, .look none)]) (ps := [_, _, _, _]) (m := bm 138 348449143727040986586495598010060050005921) (ls := []) (cs := []) (by kernel_rfl) ⟨h_x1, ix_bnd h_x3, h_x3.2, h_x6, trivial⟩
  ·
    exact mgo_at (nb := 0) hmix (ih _ _ h) (n := 7) (ad := [(some 31, .test false)]) (ps := [_]) (m := bm 138 348449143727040986586495598010130648530913) (ls := []) (cs := []) (by kernel_rfl) ⟨h_x1, trivial⟩
theorem t21_h2_ok (k : Nat) (rec : S21 → Option R21) (ih : ∀ s r, rec s = some r → P21 s r) (need3 : Es) (i4 : Int) (t28 : Rs) (t29 : Int) (t30 : Int) (loc2_0 : Int) (loc2_1 : Int) (loc1_0 : Int) (loc1_1 : Int) (loc1_2 : Rs) (loc1_3 : Rs) (loc1_4 : Rs) (r : R21) (h : t21_h2 k rec need3 i4 t28 t29 t30 loc2_0 loc2_1 loc1_0 loc1_1 loc1_2 loc1_3 loc1_4 = some r) : P21 (.h2 need3 i4 t28 t29 t30 loc2_0 loc2_1 loc1_0 loc1_1 loc1_2 loc1_3 loc1_4) r := by
  unfold t21_h2 at h
  rcases bif_or h with ⟨h_x1, h⟩ | ⟨h_x1, h⟩
  ·
    obtain ⟨w_x2, h_x3, h⟩ := ixR_or h
    obtain ⟨x_x4, hq, h1'⟩ := un_i_or h
    clear h; subst hq; have h := h1'; clear h1'
    obtain ⟨e_x5, h_x6, h⟩ := bd_or h
    rcases optC_or h with ⟨w_x7, hq, h1'⟩ | ⟨hq, h1'⟩
    · clear h; subst hq; have h := h1'; clear h1'
      obtain ⟨x_x8, hq, h1'⟩ := un_b_or h
      clear h; subst hq; have h := h1'; clear h1'
      exact mgo_at (nb := 0) hmix (ih _ _ h) (n := 12) (ad := [(some 31, .test true), (some 32, .row [ic x_x4]), (some 36, .look (some [bc x_x8]))]) (ps := [_, _, _]) (m := bm 138 348449143727040986586495598010060050005921) (ls := []) (cs := []) (by kernel_rfl) ⟨h_x1, ix_row h_x3 rfl, h_x6, trivial⟩
    · clear h; subst hq; have h := h1'; clear h1'
      exact mgo_at (nb := 0) hmix (ih _ _ h) (n := 12) (ad := [(some 31, .test true), (some 32, .row [ic x_x4]), (some 36, .look none)]) (ps := [_, _, _]) (m := bm 138 348449143727040986586495598010060050005921) (ls := []) (cs := []) (by kernel_rfl) ⟨h_x1, ix_row h_x3 rfl, h_x6, trivial⟩
  ·
    exact mgo_at (nb := 0) hmix (ih _ _ h) (n := 7) (ad := [(some 31, .test false)]) (ps := [_]) (m := bm 138 348449143727040986586495598010130648530913) (ls := []) (cs := []) (by kernel_rfl) ⟨h_x1, trivial⟩
theorem t21_h3_ok (k : Nat) (rec : S21 → Option R21) (ih : ∀ s r, rec s = some r → P21 s r) (need3 : Es) (became8 : Es) (t44 : Rs) (t45 : Int) (t46 : Int) (loc41_0 : Int) (loc41_1 : Int) (loc41_2 : Rs) (loc41_3 : Rs) (loc41_4 : Rs) (loc2_0 : Int) (loc2_1 : Int) (loc1_0 : Int) (loc1_1 : Int) (loc1_2 : Rs) (loc1_3 : Rs) (loc1_4 : Rs) (r : R21) (h : t21_h3 k rec need3 became8 t44 t45 t46 loc41_0 loc41_1 loc41_2 loc41_3 loc41_4 loc2_0 loc2_1 loc1_0 loc1_1 loc1_2 loc1_3 loc1_4 = some r) : P21 (.h3 need3 became8 t44 t45 t46 loc41_0 loc41_1 loc41_2 loc41_3 loc41_4 loc2_0 loc2_1 loc1_0 loc1_1 loc1_2 loc1_3 loc1_4) r := by
  unfold t21_h3 at h
  rcases bif_or h with ⟨h_x1, h⟩ | ⟨h_x1, h⟩
  ·
    obtain ⟨w_x2, h_x3, h⟩ := ixR_or h
    obtain ⟨op_x4, dst_x4, a_x4, b_x4, hq, h1'⟩ := un_i4_or h
    clear h; subst hq; have h := h1'; clear h1'
    obtain ⟨e_x5, h_x6, h⟩ := bd_or h
    rcases optC_or h with ⟨w_x7, hq, h1'⟩ | ⟨hq, h1'⟩
    · clear h; subst hq; have h := h1'; clear h1'
      obtain ⟨x_x8, hq, h1'⟩ := un_b_or h
      clear h; subst hq; have h := h1'; clear h1'
      exact mgo_at (nb := 0) hmix (ih _ _ h) (n := 13) (ad := [(some 47, .test true), (some 49, .row [ic op_x4, ic dst_x4, ic a_x4, ic b_x4]), (some 53, .look (some [bc x_x8]))]) (ps := [_, _, _]) (m := bm 138 348449143727040986586495579872586836736113) (ls := []) (cs := []) (by kernel_rfl) ⟨h_x1, ix_row h_x3 rfl, h_x6, trivial⟩
    · clear h; subst hq; have h := h1'; clear h1'
      exact mgo_at (nb := 0) hmix (ih _ _ h) (n := 13) (ad := [(some 47, .test true), (some 49, .row [ic op_x4, ic dst_x4, ic a_x4, ic b_x4]), (some 53, .look none)]) (ps := [_, _, _]) (m := bm 138 348449143727040986586495579872586836736113) (ls := []) (cs := []) (by kernel_rfl) ⟨h_x1, ix_row h_x3 rfl, h_x6, trivial⟩
  ·
    obtain ⟨w_x2, h_x3, h⟩ := ixR_or h
    obtain ⟨op_x4, dst_x4, a_x4, b_x4, hq, h1'⟩ := un_i4_or h
    clear h; subst hq; have h := h1'; clear h1'
    rw [← Option.some.inj h]
    exact mgo_fin (nb := 0) hmix (n := 2000) (ad := [(some 47, .test false), (none, .st), (some 133, .bnd), (none, .st), (none, .st)]) (ps := [_, _, _, _, _, _, _, _, _]) (by kernel_rfl) ⟨h_x1, (⟨_, rfl⟩ : ∃ c0, cellAt [[ic loc41_0, ic loc41_1, .own 4 loc41_2, .own 2 loc41_3, .own 4 loc41_4]] 0 0 = some c0), ix_bnd h_x3, ix_cell (o := 1) h_x3 rfl, (⟨_, rfl⟩ : ∃ c0, cellAt [[ic loc2_0, ic loc2_1, .nil, .nil, .nil]] 0 0 = some c0), (⟨_, rfl⟩ : ∃ c0, cellAt [[ic (IntKind.i64.wrap ((loc41_4.length : Int) - 1)), ic loc2_1, .nil, .nil, .nil]] 0 1 = some c0), (⟨_, rfl⟩ : ∃ c0, cellAt [[ic (IntKind.i64.wrap ((loc41_4.length : Int) - 1)), ic loc41_1, .nil, .nil, .nil]] 0 2 = some c0), (⟨_, rfl⟩ : ∃ c0, cellAt [[ic (IntKind.i64.wrap ((loc41_4.length : Int) - 1)), ic loc41_1, .imm (immRs loc41_2), .nil, .nil]] 0 3 = some c0), (⟨_, rfl⟩ : ∃ c0, cellAt [[ic (IntKind.i64.wrap ((loc41_4.length : Int) - 1)), ic loc41_1, .imm (immRs loc41_2), .imm (immRs loc41_3), .nil]] 0 4 = some c0), trivial⟩
theorem t21_h4_ok (k : Nat) (rec : S21 → Option R21) (ih : ∀ s r, rec s = some r → P21 s r) (need3 : Es) (i4 : Int) (r6 : Int) (t28 : Rs) (t29 : Int) (t30 : Int) (t36 : Bool) (loc2_0 : Int) (loc2_1 : Int) (loc1_0 : Int) (loc1_1 : Int) (loc1_2 : Rs) (loc1_3 : Rs) (loc1_4 : Rs) (r : R21) (h : t21_h4 k rec need3 i4 r6 t28 t29 t30 t36 loc2_0 loc2_1 loc1_0 loc1_1 loc1_2 loc1_3 loc1_4 = some r) : P21 (.h4 need3 i4 r6 t28 t29 t30 t36 loc2_0 loc2_1 loc1_0 loc1_1 loc1_2 loc1_3 loc1_4) r := by
  unfold t21_h4 at h
  rcases bif_or h with ⟨hq, h1'⟩ | ⟨hq, h1'⟩
  · clear h; subst hq; have h := h1'; clear h1'
    obtain ⟨es_x1, h_x2, h⟩ := bd_or h
    exact mgo_at (nb := 0) hmix (ih _ _ h) (n := 3) (ad := [(none, .put es_x1)]) (ps := [_]) (m := bm 138 348449143727040986586495598010128769482721) (ls := []) (cs := []) (by kernel_rfl) ⟨h_x2, trivial⟩
  · clear h; subst hq; have h := h1'; clear h1'
    exact mgo_at (nb := 0) hmix (ih _ _ h) (n := 3) (ad := []) (ps := []) (m := bm 138 348449143727040986586495598010128769482721) (ls := []) (cs := []) (by kernel_rfl) trivial
theorem t21_h5_ok (k : Nat) (rec : S21 → Option R21) (ih : ∀ s r, rec s = some r → P21 s r) (need3 : Es) (i4 : Int) (loc2_0 : Int) (loc2_1 : Int) (loc1_0 : Int) (loc1_1 : Int) (loc1_2 : Rs) (loc1_3 : Rs) (loc1_4 : Rs) (r : R21) (h : t21_h5 k rec need3 i4 loc2_0 loc2_1 loc1_0 loc1_1 loc1_2 loc1_3 loc1_4 = some r) : P21 (.h5 need3 i4 loc2_0 loc2_1 loc1_0 loc1_1 loc1_2 loc1_3 loc1_4) r := by
  unfold t21_h5 at h
  exact mgo_at (nb := 0) hmix (ih _ _ h) (n := 1) (ad := []) (ps := []) (m := bm 138 348449143727040986586495598010130648530913) (ls := []) (cs := []) (by kernel_rfl) trivial
theorem t21_h6_ok (k : Nat) (rec : S21 → Option R21) (ih : ∀ s r, rec s = some r → P21 s r) (need3 : Es) (i4 : Int) (r6 : Int) (t28 : Rs) (t29 : Int) (t30 : Int) (t36 : Bool) (loc2_0 : Int) (loc2_1 : Int) (loc1_0 : Int) (loc1_1 : Int) (loc1_2 : Rs) (loc1_3 : Rs) (loc1_4 : Rs) (r : R21) (h : t21_h6 k rec need3 i4 r6 t28 t29 t30 t36 loc2_0 loc2_1 loc1_0 loc1_1 loc1_2 loc1_3 loc1_4 = some r) : P21 (.h6 need3 i4 r6 t28 t29 t30 t36 loc2_0 loc2_1 loc1_0 loc1_1 loc1_2 loc1_3 loc1_4) r := by
  unfold t21_h6 at h
  rcases bif_or h with ⟨hq, h1'⟩ | ⟨hq, h1'⟩
  · clear h; subst hq; have h := h1'; clear h1'
    obtain ⟨es_x1, h_x2, h⟩ := bd_or h
    exact mgo_at (nb := 0) hmix (ih _ _ h) (n := 3) (ad := [(none, .put es_x1)]) (ps := [_]) (m := bm 138 348449143727040986586495598010128769482721) (ls := []) (cs := []) (by kernel_rfl) ⟨h_x2, trivial⟩
  · clear h; subst hq; have h := h1'; clear h1'
    exact mgo_at (nb := 0) hmix (ih _ _ h) (n := 3) (ad := []) (ps := []) (m := bm 138 348449143727040986586495598010128769482721) (ls := []) (cs := []) (by kernel_rfl) trivial
theorem t21_h7_ok (k : Nat) (rec : S21 → Option R21) (ih : ∀ s r, rec s = some r → P21 s r) (need3 : Es) (became8 : Es) (i9 : Int) (t44 : Rs) (t45 : Int) (t46 : Int) (t54 : Bool) (loc10_0 : Int) (loc10_1 : Int) (loc10_2 : Int) (loc10_3 : Int) (loc41_0 : Int) (loc41_1 : Int) (loc41_2 : Rs) (loc41_3 : Rs) (loc41_4 : Rs) (loc2_0 : Int) (loc2_1 : Int) (loc1_0 : Int) (loc1_1 : Int) (loc1_2 : Rs) (loc1_3 : Rs) (loc1_4 : Rs) (r : R21) (h : t21_h7 k rec need3 became8 i9 t44 t45 t46 t54 loc10_0 loc10_1 loc10_2 loc10_3 loc41_0 loc41_1 loc41_2 loc41_3 loc41_4 loc2_0 loc2_1 loc1_0 loc1_1 loc1_2 loc1_3 loc1_4 = some r) : P21 (.h7 need3 became8 i9 t44 t45 t46 t54 loc10_0 loc10_1 loc10_2 loc10_3 loc41_0 loc41_1 loc41_2 loc41_3 loc41_4 loc2_0 loc2_1 loc1_0 loc1_1 loc1_2 loc1_3 loc1_4) r := by
  unfold t21_h7 at h
  rcases bif_or h with ⟨hq, h1'⟩ | ⟨hq, h1'⟩
  · clear h; subst hq; have h := h1'; clear h1'
    exact mgo_at (nb := 0) hmix (ih _ _ h) (n := 2) (ad := []) (ps := []) (m := bm 138 348449143727040986586495597886985346219633) (ls := [10]) (cs := []) (by kernel_rfl) trivial
  · clear h; subst hq; have h := h1'; clear h1'
    obtain ⟨e_x1, h_x2, h⟩ := bd_or h
    rcases optC_or h with ⟨w_x3, hq, h1'⟩ | ⟨hq, h1'⟩
    · clear h; subst hq; have h := h1'; clear h1'
      obtain ⟨x_x4, hq, h1'⟩ := un_i_or h
      clear h; subst hq; have h := h1'; clear h1'
      obtain ⟨v_x5, h_x6, h⟩ := bd_or h
      exact mgo_at (nb := 0) hmix (ih _ _ h) (n := 7) (ad := [(some 58, .look (some [ic x_x4])), (some 61, .call (.ret (.c (ic v_x5))) [] false)]) (ps := [_, _]) (m := bm 138 348449143727040986586490986200966918824049) (ls := []) (cs := []) (by kernel_rfl) ⟨h_x2, (ev31 h_x6), trivial⟩
    · clear h; subst hq; have h := h1'; clear h1'
      obtain ⟨v_x3, h_x4, h⟩ := bd_or h
      exact mgo_at (nb := 0) hmix (ih _ _ h) (n := 7) (ad := [(some 58, .look none), (some 61, .call (.ret (.c (ic v_x3))) [] false)]) (ps := [_, _]) (m := bm 138 348449143727040986586490986200966918824049) (ls := []) (cs := []) (by kernel_rfl) ⟨h_x2, (ev31 h_x4), trivial⟩
theorem t21_h8_ok (k : Nat) (rec : S21 → Option R21) (ih : ∀ s r, rec s = some r → P21 s r) (need3 : Es) (i4 : Int) (t28 : Rs) (t29 : Int) (t30 : Int) (loc2_0 : Int) (loc2_1 : Int) (loc1_0 : Int) (loc1_1 : Int) (loc1_2 : Rs) (loc1_3 : Rs) (loc1_4 : Rs) (r : R21) (h : t21_h8 k rec need3 i4 t28 t29 t30 loc2_0 loc2_1 loc1_0 loc1_1 loc1_2 loc1_3 loc1_4 = some r) : P21 (.h8 need3 i4 t28 t29 t30 loc2_0 loc2_1 loc1_0 loc1_1 loc1_2 loc1_3 loc1_4) r := by
  unfold t21_h8 at h
  exact mgo_at (nb := 0) hmix (ih _ _ h) (n := 1) (ad := []) (ps := []) (m := bm 138 348449143727040986586495598010128769482721) (ls := []) (cs := []) (by kernel_rfl) trivial
theorem t21_h9_ok (k : Nat) (rec : S21 → Option R21) (ih : ∀ s r, rec s = some r → P21 s r) (need3 : Es) (i4 : Int) (t28 : Rs) (t29 : Int) (t30 : Int) (loc2_0 : Int) (loc2_1 : Int) (loc1_0 : Int) (loc1_1 : Int) (loc1_2 : Rs) (loc1_3 : Rs) (loc1_4 : Rs) (r : R21) (h : t21_h9 k rec need3 i4 t28 t29 t30 loc2_0 loc2_1 loc1_0 loc1_1 loc1_2 loc1_3 loc1_4 = some r) : P21 (.h9 need3 i4 t28 t29 t30 loc2_0 loc2_1 loc1_0 loc1_1 loc1_2 loc1_3 loc1_4) r := by
  unfold t21_h9 at h
  exact mgo_at (nb := 0) hmix (ih _ _ h) (n := 1) (ad := []) (ps := []) (m := bm 138 348449143727040986586495598010128769482721) (ls := []) (cs := []) (by kernel_rfl) trivial
theorem t21_h10_ok (k : Nat) (rec : S21 → Option R21) (ih : ∀ s r, rec s = some r → P21 s r) (need3 : Es) (became8 : Es) (t44 : Rs) (t45 : Int) (t46 : Int) (loc41_0 : Int) (loc41_1 : Int) (loc41_2 : Rs) (loc41_3 : Rs) (loc41_4 : Rs) (loc2_0 : Int) (loc2_1 : Int) (loc1_0 : Int) (loc1_1 : Int) (loc1_2 : Rs) (loc1_3 : Rs) (loc1_4 : Rs) (r : R21) (h : t21_h10 k rec need3 became8 t44 t45 t46 loc41_0 loc41_1 loc41_2 loc41_3 loc41_4 loc2_0 loc2_1 loc1_0 loc1_1 loc1_2 loc1_3 loc1_4 = some r) : P21 (.h10 need3 became8 t44 t45 t46 loc41_0 loc41_1 loc41_2 loc41_3 loc41_4 loc2_0 loc2_1 loc1_0 loc1_1 loc1_2 loc1_3 loc1_4) r := by
  unfold t21_h10 at h
  exact mgo_at (nb := 0) hmix (ih _ _ h) (n := 1) (ad := []) (ps := []) (m := bm 138 348449143727040986586495597886985346219633) (ls := []) (cs := []) (by kernel_rfl) trivial
theorem t21_h11_ok (k : Nat) (rec : S21 → Option R21) (ih : ∀ s r, rec s = some r → P21 s r) (need3 : Es) (became8 : Es) (i9 : Int) (a11 : Int) (b12 : Int) (t44 : Rs) (t45 : Int) (t46 : Int) (t62 : Bool) (loc10_0 : Int) (loc10_1 : Int) (loc10_2 : Int) (loc10_3 : Int) (loc41_0 : Int) (loc41_1 : Int) (loc41_2 : Rs) (loc41_3 : Rs) (loc41_4 : Rs) (loc2_0 : Int) (loc2_1 : Int) (loc1_0 : Int) (loc1_1 : Int) (loc1_2 : Rs) (loc1_3 : Rs) (loc1_4 : Rs) (r : R21) (h : t21_h11 k rec need3 became8 i9 a11 b12 t44 t45 t46 t62 loc10_0 loc10_1 loc10_2 loc10_3 loc41_0 loc41_1 loc41_2 loc41_3 loc41_4 loc2_0 loc2_1 loc1_0 loc1_1 loc1_2 loc1_3 loc1_4 = some r) : P21 (.h11 need3 became8 i9 a11 b12 t44 t45 t46 t62 loc10_0 loc10_1 loc10_2 loc10_3 loc41_0 loc41_1 loc41_2 loc41_3 loc41_4 loc2_0 loc2_1 loc1_0 loc1_1 loc1_2 loc1_3 loc1_4) r := by
  unfold t21_h11 at h
  rcases bif_or h with ⟨hq, h1'⟩ | ⟨hq, h1'⟩
  · clear h; subst hq; have h := h1'; clear h1'
    obtain ⟨e_x1, h_x2, h⟩ := bd_or h
    rcases optC_or h with ⟨w_x3, hq, h1'⟩ | ⟨hq, h1'⟩
    · clear h; subst hq; have h := h1'; clear h1'
      obtain ⟨x_x4, hq, h1'⟩ := un_i_or h
      clear h; subst hq; have h := h1'; clear h1'
      exact mgo_at (nb := 0) hmix (ih _ _ h) (n := 2) (ad := [(some 66, .look (some [ic x_x4]))]) (ps := [_]) (m := bm 138 348449143727040986586495597886985346211953) (ls := []) (cs := []) (by kernel_rfl) ⟨h_x2, trivial⟩
    · clear h; subst hq; have h := h1'; clear h1'
      exact mgo_at (nb := 0) hmix (ih _ _ h) (n := 2) (ad := [(some 66, .look none)]) (ps := [_]) (m := bm 138 348449143727040986586495597886985346211953) (ls := []) (cs := []) (by kernel_rfl) ⟨h_x2, trivial⟩
  · clear h; subst hq; have h := h1'; clear h1'
    exact mgo_at (nb := 0) hmix (ih _ _ h) (n := 2) (ad := []) (ps := []) (m := bm 138 348449143727040986586495597886985346211953) (ls := []) (cs := []) (by kernel_rfl) trivial
theorem t21_h12_ok (k : Nat) (rec : S21 → Option R21) (ih : ∀ s r, rec s = some r → P21 s r) (need3 : Es) (became8 : Es) (i9 : Int) (a11 : Int) (b12 : Int) (t44 : Rs) (t45 : Int) (t46 : Int) (loc10_0 : Int) (loc10_1 : Int) (loc10_2 : Int) (loc10_3 : Int) (loc41_0 : Int) (loc41_1 : Int) (loc41_2 : Rs) (loc41_3 : Rs) (loc41_4 : Rs) (loc2_0 : Int) (loc2_1 : Int) (loc1_0 : Int) (loc1_1 : Int) (loc1_2 : Rs) (loc1_3 : Rs) (loc1_4 : Rs) (r : R21) (h : t21_h12 k rec need3 became8 i9 a11 b12 t44 t45 t46 loc10_0 loc10_1 loc10_2 loc10_3 loc41_0 loc41_1 loc41_2 loc41_3 loc41_4 loc2_0 loc2_1 loc1_0 loc1_1 loc1_2 loc1_3 loc1_4 = some r) : P21 (.h12 need3 became8 i9 a11 b12 t44 t45 t46 loc10_0 loc10_1 loc10_2 loc10_3 loc41_0 loc41_1 loc41_2 loc41_3 loc41_4 loc2_0 loc2_1 loc1_0 loc1_1 loc1_2 loc1_3 loc1_4) r := by
  unfold t21_h12 at h
  rcases bif_or h with ⟨h_x1, h⟩ | ⟨h_x1, h⟩
  ·
    exact mgo_at (nb := 0) hmix (ih _ _ h) (n := 4) (ad := [(some 69, .test true)]) (ps := [_]) (m := bm 138 348449143727040986586495597886985346214001) (ls := []) (cs := []) (by kernel_rfl) ⟨h_x1, trivial⟩
  ·
    exact mgo_at (nb := 0) hmix (ih _ _ h) (n := 5) (ad := [(some 69, .test false)]) (ps := [_]) (m := bm 138 348449143727040986586495597886985346211953) (ls := []) (cs := []) (by kernel_rfl) ⟨h_x1, trivial⟩
theorem t21_h13_ok (k : Nat) (rec : S21 → Option R21) (ih : ∀ s r, rec s = some r → P21 s r) (need3 : Es) (became8 : Es) (i9 : Int) (b12 : Int) (t44 : Rs) (t45 : Int) (t46 : Int) (loc10_0 : Int) (loc10_1 : Int) (loc10_2 : Int) (loc10_3 : Int) (loc41_0 : Int) (loc41_1 : Int) (loc41_2 : Rs) (loc41_3 : Rs) (loc41_4 : Rs) (loc2_0 : Int) (loc2_1 : Int) (loc1_0 : Int) (loc1_1 : Int) (loc1_2 : Rs) (loc1_3 : Rs) (loc1_4 : Rs) (r : R21) (h : t21_h13 k rec need3 became8 i9 b12 t44 t45 t46 loc10_0 loc10_1 loc10_2 loc10_3 loc41_0 loc41_1 loc41_2 loc41_3 loc41_4 loc2_0 loc2_1 loc1_0 loc1_1 loc1_2 loc1_3 loc1_4 = some r) : P21 (.h13 need3 became8 i9 b12 t44 t45 t46 loc10_0 loc10_1 loc10_2 loc10_3 loc41_0 loc41_1 loc41_2 loc41_3 loc41_4 loc2_0 loc2_1 loc1_0 loc1_1 loc1_2 loc1_3 loc1_4) r := by
  unfold t21_h13 at h
  obtain ⟨w_x1, h_x2, h⟩ := ixR_or h
  obtain ⟨op_x3, kind_x3, pos_x3, attr_x3, hq, h1'⟩ := un_i4_or h
  clear h; subst hq; have h := h1'; clear h1'
  obtain ⟨v_x4, h_x5, h⟩ := bd_or h
  obtain ⟨r_x6, rb00_x6, rb01_x6, rb02_x6, rb03_x6, rb04_x6, hq, h1'⟩ := tup6_or h
  clear h; subst hq; have h := h1'; clear h1'
  exact mgo_at (nb := 0) hmix (ih _ _ h) (n := 1) (ad := [(some 75, .row [ic op_x3, ic kind_x3, ic pos_x3, ic attr_x3]), (some 77, .call (.ret (.c (ic r_x6))) [[ic rb00_x6, ic rb01_x6, .own 4 rb02_x6, .own 2 rb03_x6, .own 4 rb04_x6]] false)]) (ps := [_, _]) (m := bm 138 348449143727040986586495597886985346211953) (ls := []) (cs := []) (by kernel_rfl) ⟨ix_row h_x2 rfl, (ev37c h_x5), trivial⟩
theorem t21_h14_ok (k : Nat) (rec : S21 → Option R21) (ih : ∀ s r, rec s = some r → P21 s r) (need3 : Es) (became8 : Es) (i9 : Int) (a11 : Int) (b12 : Int) (t44 : Rs) (t45 : Int) (t46 : Int) (loc10_0 : Int) (loc10_1 : Int) (loc10_2 : Int) (loc10_3 : Int) (loc41_0 : Int) (loc41_1 : Int) (loc41_2 : Rs) (loc41_3 : Rs) (loc41_4 : Rs) (loc2_0 : Int) (loc2_1 : Int) (loc1_0 : Int) (loc1_1 : Int) (loc1_2 : Rs) (loc1_3 : Rs) (loc1_4 : Rs) (r : R21) (h : t21_h14 k rec need3 became8 i9 a11 b12 t44 t45 t46 loc10_0 loc10_1 loc10_2 loc10_3 loc41_0 loc41_1 loc41_2 loc41_3 loc41_4 loc2_0 loc2_1 loc1_0 loc1_1 loc1_2 loc1_3 loc1_4 = some r) : P21 (.h14 need3 became8 i9 a11 b12 t44 t45 t46 loc10_0 loc10_1 loc10_2 loc10_3 loc41_0 loc41_1 loc41_2 loc41_3 loc41_4 loc2_0 loc2_1 loc1_0 loc1_1 loc1_2 loc1_3 loc1_4) r := by
  unfold t21_h14 at h
  rcases bif_or h with ⟨h_x1, h⟩ | ⟨h_x1, h⟩
  ·
    exact mgo_at (nb := 0) hmix (ih _ _ h) (n := 4) (ad := [(some 80, .test true)]) (ps := [_]) (m := bm 138 348449143727040986586495597886985346214001) (ls := []) (cs := []) (by kernel_rfl) ⟨h_x1, trivial⟩
  ·
    exact mgo_at (nb := 0) hmix (ih _ _ h) (n := 5) (ad := [(some 80, .test false)]) (ps := [_]) (m := bm 138 348449143727040986586495597886985346211953) (ls := []) (cs := []) (by kernel_rfl) ⟨h_x1, trivial⟩
theorem t21_h15_ok (k : Nat) (rec : S21 → Option R21) (ih : ∀ s r, rec s = some r → P21 s r) (need3 : Es) (became8 : Es) (i9 : Int) (b12 : Int) (t44 : Rs) (t45 : Int) (t46 : Int) (loc10_0 : Int) (loc10_1 : Int) (loc10_2 : Int) (loc10_3 : Int) (loc41_0 : Int) (loc41_1 : Int) (loc41_2 : Rs) (loc41_3 : Rs) (loc41_4 : Rs) (loc2_0 : Int) (loc2_1 : Int) (loc1_0 : Int) (loc1_1 : Int) (loc1_2 : Rs) (loc1_3 : Rs) (loc1_4 : Rs) (r : R21) (h : t21_h15 k rec need3 became8 i9 b12 t44 t45 t46 loc10_0 loc10_1 loc10_2 loc10_3 loc41_0 loc41_1 loc41_2 loc41_3 loc41_4 loc2_0 loc2_1 loc1_0 loc1_1 loc1_2 loc1_3 loc1_4 = some r) : P21 (.h15 need3 became8 i9 b12 t44 t45 t46 loc10_0 loc10_1 loc10_2 loc10_3 loc41_0 loc41_1 loc41_2 loc41_3 loc41_4 loc2_0 loc2_1 loc1_0 loc1_1 loc1_2 loc1_3 loc1_4) r := by
  unfold t21_h15 at h
  obtain ⟨w_x1, h_x2, h⟩ := ixR_or h
  obtain ⟨kind_x3, bits_x3, hq, h1'⟩ := un_iu_or h
  clear h; subst hq; have h := h1'; clear h1'
  obtain ⟨v_x4, h_x5, h⟩ := bd_or h
  obtain ⟨r_x6, rb00_x6, rb01_x6, rb02_x6, rb03_x6, rb04_x6, hq, h1'⟩ := tup6_or h
  clear h; subst hq; have h := h1'; clear h1'
  exact mgo_at (nb := 0) hmix (ih _ _ h) (n := 1) (ad := [(some 86, .row [ic kind_x3, .val (.int .u64 bits_x3)]), (some 88, .call (.ret (.c (ic r_x6))) [[ic rb00_x6, ic rb01_x6, .own 4 rb02_x6, .own 2 rb03_x6, .own 4 rb04_x6]] false)]) (ps := [_, _]) (m := bm 138 348449143727040986586495597886985346211953) (ls := []) (cs := []) (by kernel_rfl) ⟨ix_row h_x2 rfl, (ev38c h_x5), trivial⟩
theorem t21_h16_ok (k : Nat) (rec : S21 → Option R21) (ih : ∀ s r, rec s = some r → P21 s r) (need3 : Es) (became8 : Es) (i9 : Int) (a11 : Int) (b12 : Int) (t44 : Rs) (t45 : Int) (t46 : Int) (loc10_0 : Int) (loc10_1 : Int) (loc10_2 : Int) (loc10_3 : Int) (loc41_0 : Int) (loc41_1 : Int) (loc41_2 : Rs) (loc41_3 : Rs) (loc41_4 : Rs) (loc2_0 : Int) (loc2_1 : Int) (loc1_0 : Int) (loc1_1 : Int) (loc1_2 : Rs) (loc1_3 : Rs) (loc1_4 : Rs) (r : R21) (h : t21_h16 k rec need3 became8 i9 a11 b12 t44 t45 t46 loc10_0 loc10_1 loc10_2 loc10_3 loc41_0 loc41_1 loc41_2 loc41_3 loc41_4 loc2_0 loc2_1 loc1_0 loc1_1 loc1_2 loc1_3 loc1_4 = some r) : P21 (.h16 need3 became8 i9 a11 b12 t44 t45 t46 loc10_0 loc10_1 loc10_2 loc10_3 loc41_0 loc41_1 loc41_2 loc41_3 loc41_4 loc2_0 loc2_1 loc1_0 loc1_1 loc1_2 loc1_3 loc1_4) r := by
  unfold t21_h16 at h
  obtain ⟨es_x1, h_x2, h⟩ := bd_or h
  obtain ⟨h_x3, h⟩ := gd_or h
  exact mgo_at (nb := 0) hmix (ih _ _ h) (n := 4) (ad := [(none, .put es_x1), (some 112, .okE false), (none, .st)]) (ps := [_, _, _]) (m := bm 138 348449143727040986586495597886985346219633) (ls := [10]) (cs := []) (by kernel_rfl) ⟨h_x2, okF [[ic loc10_0, ic (loc41_4.length : Int), ic a11, ic b12]] h_x3, (⟨_, rfl⟩ : ∃ c0, cellAt [[ic loc41_0, ic loc41_1, .own 4 loc41_2, .own 2 loc41_3, .dead]] 0 4 = some c0), trivial⟩
theorem ok21 : ∀ k s r, itS step21 k s = some r → P21 s r := itS_ok fun k rec ih s r h => match s, h with
  | .e c0_0 c0_1 c0_2 c0_3 c0_4, h => t21_e_ok k rec ih c0_0 c0_1 c0_2 c0_3 c0_4 r h
  | .h0 need3 i4 loc2_0 loc2_1 loc1_0 loc1_1 loc1_2 loc1_3 loc1_4, h => t21_h0_ok k rec ih need3 i4 loc2_0 loc2_1 loc1_0 loc1_1 loc1_2 loc1_3 loc1_4 r h
  | .h1 need3 i4 t28 t29 t30 loc2_0 loc2_1 loc1_0 loc1_1 loc1_2 loc1_3 loc1_4, h => t21_h1_ok k rec ih need3 i4 t28 t29 t30 loc2_0 loc2_1 loc1_0 loc1_1 loc1_2 loc1_3 loc1_4 r h
  | .h2 need3 i4 t28 t29 t30 loc2_0 loc2_1 loc1_0 loc1_1 loc1_2 loc1_3 loc1_4, h => t21_h2_ok k rec ih need3 i4 t28 t29 t30 loc2_0 loc2_1 loc1_0 loc1_1 loc1_2 loc1_3 loc1_4 r h
  | .h3 need3 became8 t44 t45 t46 loc41_0 loc41_1 loc41_2 loc41_3 loc41_4 loc2_0 loc2_1 loc1_0 loc1_1 loc1_2 loc1_3 loc1_4, h => t21_h3_ok k rec ih need3 became8 t44 t45 t46 loc41_0 loc41_1 loc41_2 loc41_3 loc41_4 loc2_0 loc2_1 loc1_0 loc1_1 loc1_2 loc1_3 loc1_4 r h
  | .h4 need3 i4 r6 t28 t29 t30 t36 loc2_0 loc2_1 loc1_0 loc1_1 loc1_2 loc1_3 loc1_4, h => t21_h4_ok k rec ih need3 i4 r6 t28 t29 t30 t36 loc2_0 loc2_1 loc1_0 loc1_1 loc1_2 loc1_3 loc1_4 r h
  | .h5 need3 i4 loc2_0 loc2_1 loc1_0 loc1_1 loc1_2 loc1_3 loc1_4, h => t21_h5_ok k rec ih need3 i4 loc2_0 loc2_1 loc1_0 loc1_1 loc1_2 loc1_3 loc1_4 r h
  | .h6 need3 i4 r6 t28 t29 t30 t36 loc2_0 loc2_1 loc1_0 loc1_1 loc1_2 loc1_3 loc1_4, h => t21_h6_ok k rec ih need3 i4 r6 t28 t29 t30 t36 loc2_0 loc2_1 loc1_0 loc1_1 loc1_2 loc1_3 loc1_4 r h
  | .h7 need3 became8 i9 t44 t45 t46 t54 loc10_0 loc10_1 loc10_2 loc10_3 loc41_0 loc41_1 loc41_2 loc41_3 loc41_4 loc2_0 loc2_1 loc1_0 loc1_1 loc1_2 loc1_3 loc1_4, h => t21_h7_ok k rec ih need3 became8 i9 t44 t45 t46 t54 loc10_0 loc10_1 loc10_2 loc10_3 loc41_0 loc41_1 loc41_2 loc41_3 loc41_4 loc2_0 loc2_1 loc1_0 loc1_1 loc1_2 loc1_3 loc1_4 r h
  | .h8 need3 i4 t28 t29 t30 loc2_0 loc2_1 loc1_0 loc1_1 loc1_2 loc1_3 loc1_4, h => t21_h8_ok k rec ih need3 i4 t28 t29 t30 loc2_0 loc2_1 loc1_0 loc1_1 loc1_2 loc1_3 loc1_4 r h
  | .h9 need3 i4 t28 t29 t30 loc2_0 loc2_1 loc1_0 loc1_1 loc1_2 loc1_3 loc1_4, h => t21_h9_ok k rec ih need3 i4 t28 t29 t30 loc2_0 loc2_1 loc1_0 loc1_1 loc1_2 loc1_3 loc1_4 r h
  | .h10 need3 became8 t44 t45 t46 loc41_0 loc41_1 loc41_2 loc41_3 loc41_4 loc2_0 loc2_1 loc1_0 loc1_1 loc1_2 loc1_3 loc1_4, h => t21_h10_ok k rec ih need3 became8 t44 t45 t46 loc41_0 loc41_1 loc41_2 loc41_3 loc41_4 loc2_0 loc2_1 loc1_0 loc1_1 loc1_2 loc1_3 loc1_4 r h
  | .h11 need3 became8 i9 a11 b12 t44 t45 t46 t62 loc10_0 loc10_1 loc10_2 loc10_3 loc41_0 loc41_1 loc41_2 loc41_3 loc41_4 loc2_0 loc2_1 loc1_0 loc1_1 loc1_2 loc1_3 loc1_4, h => t21_h11_ok k rec ih need3 became8 i9 a11 b12 t44 t45 t46 t62 loc10_0 loc10_1 loc10_2 loc10_3 loc41_0 loc41_1 loc41_2 loc41_3 loc41_4 loc2_0 loc2_1 loc1_0 loc1_1 loc1_2 loc1_3 loc1_4 r h
  | .h12 need3 became8 i9 a11 b12 t44 t45 t46 loc10_0 loc10_1 loc10_2 loc10_3 loc41_0 loc41_1 loc41_2 loc41_3 loc41_4 loc2_0 loc2_1 loc1_0 loc1_1 loc1_2 loc1_3 loc1_4, h => t21_h12_ok k rec ih need3 became8 i9 a11 b12 t44 t45 t46 loc10_0 loc10_1 loc10_2 loc10_3 loc41_0 loc41_1 loc41_2 loc41_3 loc41_4 loc2_0 loc2_1 loc1_0 loc1_1 loc1_2 loc1_3 loc1_4 r h
  | .h13 need3 became8 i9 b12 t44 t45 t46 loc10_0 loc10_1 loc10_2 loc10_3 loc41_0 loc41_1 loc41_2 loc41_3 loc41_4 loc2_0 loc2_1 loc1_0 loc1_1 loc1_2 loc1_3 loc1_4, h => t21_h13_ok k rec ih need3 became8 i9 b12 t44 t45 t46 loc10_0 loc10_1 loc10_2 loc10_3 loc41_0 loc41_1 loc41_2 loc41_3 loc41_4 loc2_0 loc2_1 loc1_0 loc1_1 loc1_2 loc1_3 loc1_4 r h
  | .h14 need3 became8 i9 a11 b12 t44 t45 t46 loc10_0 loc10_1 loc10_2 loc10_3 loc41_0 loc41_1 loc41_2 loc41_3 loc41_4 loc2_0 loc2_1 loc1_0 loc1_1 loc1_2 loc1_3 loc1_4, h => t21_h14_ok k rec ih need3 became8 i9 a11 b12 t44 t45 t46 loc10_0 loc10_1 loc10_2 loc10_3 loc41_0 loc41_1 loc41_2 loc41_3 loc41_4 loc2_0 loc2_1 loc1_0 loc1_1 loc1_2 loc1_3 loc1_4 r h
  | .h15 need3 became8 i9 b12 t44 t45 t46 loc10_0 loc10_1 loc10_2 loc10_3 loc41_0 loc41_1 loc41_2 loc41_3 loc41_4 loc2_0 loc2_1 loc1_0 loc1_1 loc1_2 loc1_3 loc1_4, h => t21_h15_ok k rec ih need3 became8 i9 b12 t44 t45 t46 loc10_0 loc10_1 loc10_2 loc10_3 loc41_0 loc41_1 loc41_2 loc41_3 loc41_4 loc2_0 loc2_1 loc1_0 loc1_1 loc1_2 loc1_3 loc1_4 r h
  | .h16 need3 became8 i9 a11 b12 t44 t45 t46 loc10_0 loc10_1 loc10_2 loc10_3 loc41_0 loc41_1 loc41_2 loc41_3 loc41_4 loc2_0 loc2_1 loc1_0 loc1_1 loc1_2 loc1_3 loc1_4, h => t21_h16_ok k rec ih need3 became8 i9 a11 b12 t44 t45 t46 loc10_0 loc10_1 loc10_2 loc10_3 loc41_0 loc41_1 loc41_2 loc41_3 loc41_4 loc2_0 loc2_1 loc1_0 loc1_1 loc1_2 loc1_3 loc1_4 r h
theorem ev21 {k : Nat} {c0_0 : Int} {c0_1 : Int} {c0_2 : Rs} {c0_3 : Rs} {c0_4 : Rs} {r : R21} (h : g21 k c0_0 c0_1 c0_2 c0_3 c0_4 = some r) : Ev Try.prog noHand 21 [.ag [ic c0_0, ic c0_1, .imm c0_2, .imm c0_3, .imm c0_4]] [] (res21 r) (bx21 r) := evr21 (ok21 _ _ _ h)
-- auspice/auspicelaw17.SsaDrops
inductive S6 where
  | e (c0_0 : Int) (c0_1 : Int) (c0_2 : Rs) (c0_3 : Rs) (c0_4 : Rs)
  | h0 (t12 : Bool) (loc1_0 : Int) (loc1_1 : Int) (loc1_2 : Rs) (loc1_3 : Rs) (loc1_4 : Rs)
abbrev R6 := Bool
def res6 : R6 → ARes
  | r => .ret (.c (bc r))
def bx6 : R6 → List (List Cell)
  | r => []
noncomputable def t6_e (k : Nat) (rec : S6 → Option R6) (c0_0 : Int) (c0_1 : Int) (c0_2 : Rs) (c0_3 : Rs) (c0_4 : Rs) : Option R6 :=
  (g16 k c0_0 c0_1 c0_2 c0_3 c0_4).bind fun v_x1 =>
  bif !v_x1 then
    rec (.h0 true c0_0 c0_1 c0_2 c0_3 c0_4)
  else
    rec (.h0 (decide ((c0_4.length : Int) > 1024)) c0_0 c0_1 c0_2 c0_3 c0_4)
noncomputable def t6_h0 (k : Nat) (rec : S6 → Option R6) (t12 : Bool) (loc1_0 : Int) (loc1_1 : Int) (loc1_2 : Rs) (loc1_3 : Rs) (loc1_4 : Rs) : Option R6 :=
  bif t12 then
    some true
  else
    (g19 k loc1_0 loc1_1 loc1_2 loc1_3 loc1_4).bind fun v_x1 =>
    tup5 v_x1 fun r0_x3 r1_x3 r2_x3 r3_x3 r4_x3 =>
    (g20 k r0_x3 r1_x3 r2_x3 r3_x3 r4_x3).bind fun v_x4 =>
    tup5 v_x4 fun r0_x6 r1_x6 r2_x6 r3_x6 r4_x6 =>
    (g21 k loc1_0 loc1_1 loc1_2 loc1_3 loc1_4).bind fun v_x7 =>
    tup5 v_x7 fun r0_x9 r1_x9 r2_x9 r3_x9 r4_x9 =>
    (g13 k r0_x6 r1_x6 r2_x6 r3_x6 r4_x6 r0_x9 r1_x9 r2_x9 r3_x9 r4_x9).bind fun v_x10 =>
    bif v_x10 then
      (g13 k r0_x3 r1_x3 r2_x3 r3_x3 r4_x3 loc1_0 loc1_1 loc1_2 loc1_3 loc1_4).bind fun v_x12 =>
      some v_x12
    else
      some false
noncomputable def step6 (k : Nat) (rec : S6 → Option R6) : S6 → Option R6
  | .e c0_0 c0_1 c0_2 c0_3 c0_4 => t6_e k rec c0_0 c0_1 c0_2 c0_3 c0_4
  | .h0 t12 loc1_0 loc1_1 loc1_2 loc1_3 loc1_4 => t6_h0 k rec t12 loc1_0 loc1_1 loc1_2 loc1_3 loc1_4
noncomputable def g6 (k : Nat) (c0_0 : Int) (c0_1 : Int) (c0_2 : Rs) (c0_3 : Rs) (c0_4 : Rs) : Option R6 := itS step6 k (.e c0_0 c0_1 c0_2 c0_3 c0_4)
noncomputable def P6 : S6 → R6 → Prop
  | .e c0_0 c0_1 c0_2 c0_3 c0_4, r => Fin cx6 Try.f6 [.code body6] (fr0 Try.f6 [.ag [ic c0_0, ic c0_1, .imm c0_2, .imm c0_3, .imm c0_4]] []) (res6 r) (bx6 r)
  | .h0 t12 loc1_0 loc1_1 loc1_2 loc1_3 loc1_4, r => Fin cx6 Try.f6 (kAt body6 [1, 0, 1, 2] []) ⟨[.deadv, .c (.ptr ⟨⟨.loc 1, []⟩, 0, 0⟩)] ++ rep 10 .deadv ++ [.c (bc t12)] ++ rep 16 .deadv, [(.loc 1, [ic loc1_0, ic loc1_1, .imm loc1_2, .imm loc1_3, .imm loc1_4])]⟩ (res6 r) (bx6 r)
theorem evr6 {c0_0 : Int} {c0_1 : Int} {c0_2 : Rs} {c0_3 : Rs} {c0_4 : Rs} {r : R6} (h : P6 (.e c0_0 c0_1 c0_2 c0_3 c0_4) r) : Ev Try.prog noHand 6 [.ag [ic c0_0, ic c0_1, .imm c0_2, .imm c0_3, .imm c0_4]] [] (res6 r) (bx6 r) := ev_of_fin (fn := Try.f6) (body := body6) (by kernel_rfl) (by kernel_rfl) (by kernel_rfl) rfl h
theorem t6_e_ok (k : Nat) (rec : S6 → Option R6) (ih : ∀ s r, rec s = some r → P6 s r) (c0_0 : Int) (c0_1 : Int) (c0_2 : Rs) (c0_3 : Rs) (c0_4 : Rs) (r : R6) (h : t6_e k rec c0_0 c0_1 c0_2 c0_3 c0_4 = some r) : P6 (.e c0_0 c0_1 c0_2 c0_3 c0_4) r := by
  unfold t6_e at h
  obtain ⟨v_x1, h_x2, h⟩ := bd_or h
  rcases bif_or h with ⟨h_x3, h⟩ | ⟨h_x3, h⟩
  ·
    exact mgo_at (nb := 0) hmix (ih _ _ h) (n := 5) (ad := [(some 5, .call (.ret (.c (bc v_x1))) [] false), (some 6, .test true)]) (ps := [_, _]) (m := bm 29 536866813) (ls := []) (cs := []) (by kernel_rfl) ⟨(ev16 h_x2), h_x3, trivial⟩
  ·
    exact mgo_at (nb := 0) hmix (ih _ _ h) (n := 5) (ad := [(some 5, .call (.ret (.c (bc v_x1))) [] false), (some 6, .test false)]) (ps := [_, _]) (m := bm 29 536866813) (ls := []) (cs := []) (by kernel_rfl) ⟨(ev16 h_x2), h_x3, trivial⟩
theorem t6_h0_ok (k : Nat) (rec : S6 → Option R6) (ih : ∀ s r, rec s = some r → P6 s r) (t12 : Bool) (loc1_0 : Int) (loc1_1 : Int) (loc1_2 : Rs) (loc1_3 : Rs) (loc1_4 : Rs) (r : R6) (h : t6_h0 k rec t12 loc1_0 loc1_1 loc1_2 loc1_3 loc1_4 = some r) : P6 (.h0 t12 loc1_0 loc1_1 loc1_2 loc1_3 loc1_4) r := by
  unfold t6_h0 at h
  rcases bif_or h with ⟨hq, h1'⟩ | ⟨hq, h1'⟩
  · clear h; subst hq; have h := h1'; clear h1'
    rw [← Option.some.inj h]
    exact mgo_fin (nb := 0) hmix (n := 2000) (ad := [(some 13, .call (.ret (.c (bc true))) [] false)]) (ps := [_]) (by kernel_rfl) ⟨clA_89, trivial⟩
  · clear h; subst hq; have h := h1'; clear h1'
    obtain ⟨v_x1, h_x2, h⟩ := bd_or h
    obtain ⟨r0_x3, r1_x3, r2_x3, r3_x3, r4_x3, hq, h1'⟩ := tup5_or h
    clear h; subst hq; have h := h1'; clear h1'
    obtain ⟨v_x4, h_x5, h⟩ := bd_or h
    obtain ⟨r0_x6, r1_x6, r2_x6, r3_x6, r4_x6, hq, h1'⟩ := tup5_or h
    clear h; subst hq; have h := h1'; clear h1'
    obtain ⟨v_x7, h_x8, h⟩ := bd_or h
    obtain ⟨r0_x9, r1_x9, r2_x9, r3_x9, r4_x9, hq, h1'⟩ := tup5_or h
    clear h; subst hq; have h := h1'; clear h1'
    obtain ⟨v_x10, h_x11, h⟩ := bd_or h
    rcases bif_or h with ⟨hq, h1'⟩ | ⟨hq, h1'⟩
    · clear h; subst hq; have h := h1'; clear h1'
      obtain ⟨v_x12, h_x13, h⟩ := bd_or h
      rw [← Option.some.inj h]
      exact mgo_fin (nb := 0) hmix (n := 2000) (ad := [(some 15, .call (.ret (.ag [ic r0_x3, ic r1_x3, .imm r2_x3, .imm r3_x3, .imm r4_x3])) [] false), (some 16, .call (.ret (.c (bc true))) [] false), (some 19, .call (.ret (.ag [ic r0_x6, ic r1_x6, .imm r2_x6, .imm r3_x6, .imm r4_x6])) [] false), (some 21, .call (.ret (.ag [ic r0_x9, ic r1_x9, .imm r2_x9, .imm r3_x9, .imm r4_x9])) [] false), (some 22, .call (.ret (.c (bc true))) [] false), (some 27, .call (.ret (.c (bc v_x12))) [] false)]) (ps := [_, _, _, _, _, _]) (by kernel_rfl) ⟨(ev19 h_x2), clA_89, (ev20 h_x5), (ev21 h_x8), (ev13 h_x11), (ev13 h_x13), trivial⟩
    · clear h; subst hq; have h := h1'; clear h1'
      rw [← Option.some.inj h]
      exact mgo_fin (nb := 0) hmix (n := 2000) (ad := [(some 15, .call (.ret (.ag [ic r0_x3, ic r1_x3, .imm r2_x3, .imm r3_x3, .imm r4_x3])) [] false), (some 16, .call (.ret (.c (bc true))) [] false), (some 19, .call (.ret (.ag [ic r0_x6, ic r1_x6, .imm r2_x6, .imm r3_x6, .imm r4_x6])) [] false), (some 21, .call (.ret (.ag [ic r0_x9, ic r1_x9, .imm r2_x9, .imm r3_x9, .imm r4_x9])) [] false), (some 22, .call (.ret (.c (bc false))) [] false)]) (ps := [_, _, _, _, _]) (by kernel_rfl) ⟨(ev19 h_x2), clA_89, (ev20 h_x5), (ev21 h_x8), (ev13 h_x11), trivial⟩
theorem ok6 : ∀ k s r, itS step6 k s = some r → P6 s r := itS_ok fun k rec ih s r h => match s, h with
  | .e c0_0 c0_1 c0_2 c0_3 c0_4, h => t6_e_ok k rec ih c0_0 c0_1 c0_2 c0_3 c0_4 r h
  | .h0 t12 loc1_0 loc1_1 loc1_2 loc1_3 loc1_4, h => t6_h0_ok k rec ih t12 loc1_0 loc1_1 loc1_2 loc1_3 loc1_4 r h
theorem ev6 {k : Nat} {c0_0 : Int} {c0_1 : Int} {c0_2 : Rs} {c0_3 : Rs} {c0_4 : Rs} {r : R6} (h : g6 k c0_0 c0_1 c0_2 c0_3 c0_4 = some r) : Ev Try.prog noHand 6 [.ag [ic c0_0, ic c0_1, .imm c0_2, .imm c0_3, .imm c0_4]] [] (res6 r) (bx6 r) := evr6 (ok6 _ _ _ h)
end Ab
end Go.Proofs.Ytebmcaceklbopaa
