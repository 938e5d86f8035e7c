/-
 Functions' ways, printed by a program: what each computes, and that this is what the interpreter computes.
-/
import Derived.Test.YtfekohpjaafnhaaDoorFEq
import Derived.KernelRfl
set_option linter.unusedVariables false
set_option linter.unusedSimpArgs false
set_option linter.unusedSectionVars false
set_option maxRecDepth 10000
namespace Go.Proofs.YtfekohpjaafnhaaDoor
namespace Ab
variable [Laid3]
inductive S22 where
 | e_22 (b0_0 : Rs) (b0_1 b0_2 : Int)
 | h0_22 (l3_0 : Int) (l3_1 : Rs) (l3_2 l3_3 : Int) (l3_4 l3_5 : ByteArray) (l3_6 l2_0 l2_2 l2_3 : Int) (l2_4 l2_5 : ByteArray) (l2_6 : Int) (p0_0 : Rs) (p0_1 p0_2 : Int)
 | h1_22 (l3_0 : Int) (l3_1 : Rs) (l3_2 l3_3 : Int) (l3_4 l3_5 : ByteArray) (l3_6 l2_0 l2_2 l2_3 : Int) (l2_4 l2_5 : ByteArray) (l2_6 : Int) (p0_0 : Rs) (p0_1 p0_2 : Int)
 | e_36 (b0_0 : Rs) (b0_1 b0_2 : Int)
 | h0_36 (l3_0 : Int) (l3_1 : Rs) (l3_2 l3_3 : Int) (l3_4 l3_5 : ByteArray) (l3_6 l2_0 l2_2 l2_3 : Int) (l2_4 l2_5 : ByteArray) (l2_6 : Int) (p0_0 : Rs) (p0_1 p0_2 : Int)
 | h1_36 (l3_0 : Int) (l3_1 : Rs) (l3_2 l3_3 : Int) (l3_4 l3_5 : ByteArray) (l3_6 l2_0 l2_2 l2_3 : Int) (l2_4 l2_5 : ByteArray) (l2_6 : Int) (p0_0 : Rs) (p0_1 p0_2 : Int)
 | e_45 (b0_0 : Rs) (b0_1 b0_2 : Int)
 | e_51 (b0_0 : Rs) (b0_1 b0_2 : Int)
 | e_59 (b0_0 : Rs) (b0_1 b0_2 : Int)
 | h0_59 (l3_0 : Int) (l3_1 : Rs) (l3_2 l3_3 : Int) (l3_4 l3_5 : ByteArray) (l3_6 l2_0 l2_2 l2_3 : Int) (l2_4 l2_5 : ByteArray) (l2_6 : Int) (p0_0 : Rs) (p0_1 p0_2 : Int)
 | h1_59 (l3_0 : Int) (l3_1 : Rs) (l3_2 l3_3 : Int) (l3_4 l3_5 : ByteArray) (l3_6 l2_0 l2_2 l2_3 : Int) (l2_4 l2_5 : ByteArray) (l2_6 : Int) (p0_0 : Rs) (p0_1 p0_2 : Int)
 | e_70 (b0_0 : Rs) (b0_1 b0_2 : Int)
 | h0_70 (l3_0 : Int) (l3_1 : Rs) (l3_2 l3_3 : Int) (l3_4 l3_5 : ByteArray) (l3_6 l2_0 l2_2 l2_3 : Int) (l2_4 l2_5 : ByteArray) (l2_6 : Int) (p0_0 : Rs) (p0_1 p0_2 : Int)
 | h1_70 (l3_0 : Int) (l3_1 : Rs) (l3_2 l3_3 : Int) (l3_4 l3_5 : ByteArray) (l3_6 l2_0 l2_2 l2_3 : Int) (l2_4 l2_5 : ByteArray) (l2_6 : Int) (p0_0 : Rs) (p0_1 p0_2 : Int)
 | e_78 (b0_0 : Rs) (b0_1 b0_2 : Int)
 | h0_78 (l2_0 : Int) (l2_1 : Rs) (l2_2 l2_3 : Int) (l2_4 l2_5 : ByteArray) (l2_6 : Int) (p0_0 : Rs) (p0_1 p0_2 : Int)
 | h1_78 (l2_0 : Int) (l2_1 : Rs) (l2_2 l2_3 : Int) (l2_4 l2_5 : ByteArray) (l2_6 : Int) (p0_0 : Rs) (p0_1 p0_2 : Int)
 | h2_78 (l2_0 : Int) (l2_1 : Rs) (l2_2 l2_3 : Int) (l2_4 l2_5 : ByteArray) (l2_6 : Int) (p0_0 : Rs) (p0_1 p0_2 : Int)
 | e_83 (b0_0 : Rs) (b0_1 b0_2 : Int)
 | h0_83 (l2_0 : Int) (l2_1 : Rs) (l2_2 l2_3 : Int) (l2_4 l2_5 : ByteArray) (l2_6 : Int) (p0_0 : Rs) (p0_1 p0_2 : Int)
 | h1_83 (l2_0 : Int) (l2_1 : Rs) (l2_2 l2_3 : Int) (l2_4 l2_5 : ByteArray) (l2_6 : Int) (p0_0 : Rs) (p0_1 p0_2 : Int)
 | h2_83 (l2_0 : Int) (l2_1 : Rs) (l2_2 l2_3 : Int) (l2_4 l2_5 : ByteArray) (l2_6 : Int) (p0_0 : Rs) (p0_1 p0_2 : Int)
 | h3_83 (l2_0 : Int) (l2_1 : Rs) (l2_2 l2_3 : Int) (l2_4 l2_5 : ByteArray) (l2_6 : Int) (p0_0 : Rs) (p0_1 p0_2 : Int)
 | h4_83 (l2_0 : Int) (l2_1 : Rs) (l2_2 l2_3 : Int) (l2_4 l2_5 : ByteArray) (l2_6 : Int) (p0_0 : Rs) (p0_1 p0_2 : Int)
 | h5_83 (l3_0 : Int) (l3_1 : ByteArray) (l3_2 l3_3 l3_4 l2_0 l2_2 l2_3 : Int) (l2_4 l2_5 : ByteArray) (l2_6 : Int) (p0_0 : Rs) (p0_1 p0_2 : Int)
 | h6_83 (l2_0 : Int) (l2_1 : Rs) (l2_2 l2_3 : Int) (l2_4 l2_5 : ByteArray) (l2_6 : Int) (p0_0 : Rs) (p0_1 p0_2 : Int)
 | e_87 (t1_0 : Int) (t1_1 : ByteArray) (t1_2 t1_3 t1_4 : Int) (b0_0 : Rs) (b0_1 b0_2 : Int)
 | h0_87 (t9 : ByteArray) (t10 : Bool) (l4_0 l4_2 l4_3 : Int) (l4_4 l4_5 : ByteArray) (l4_6 l3_0 : Int) (l3_1 : ByteArray) (l3_2 l3_3 l3_4 : Int) (p0_0 : Rs) (p0_1 p0_2 : Int)
 | h1_87 (n5 l4_0 l4_2 l4_3 : Int) (l4_4 l4_5 : ByteArray) (l4_6 l3_0 : Int) (l3_1 : ByteArray) (l3_2 l3_3 l3_4 : Int) (p0_0 : Rs) (p0_1 p0_2 : Int)
 | h2_87 (t27 : Bool) (l4_0 l4_2 l4_3 : Int) (l4_4 l4_5 : ByteArray) (l4_6 l3_0 : Int) (l3_1 : ByteArray) (l3_2 l3_3 l3_4 : Int) (p0_0 : Rs) (p0_1 p0_2 : Int)
 | h3_87 (l4_0 : Int) (l4_1 : Rs) (l4_2 l4_3 : Int) (l4_4 l4_5 : ByteArray) (l4_6 : Int) (p0_0 : Rs) (p0_1 p0_2 : Int)
 | h4_87 (l4_0 : Int) (l4_1 : Rs) (l4_2 l4_3 : Int) (l4_4 l4_5 : ByteArray) (l4_6 : Int) (p0_0 : Rs) (p0_1 p0_2 : Int)
 | h5_87 (l4_0 : Int) (l4_1 : Rs) (l4_2 l4_3 : Int) (l4_4 l4_5 : ByteArray) (l4_6 : Int) (p0_0 : Rs) (p0_1 p0_2 : Int)
 | e_38 (op1 x2_0 : Int) (x2_1 : Rs) (x2_2 x2_3 : Int) (x2_4 x2_5 : ByteArray) (x2_6 : Int) (b0_0 : Rs) (b0_1 b0_2 : Int)
 | e_38b (op1 x2_0 : Int) (x2_1 : Rs) (x2_2 x2_3 : Int) (x2_4 x2_5 : ByteArray) (x2_6 : Int) (b0_0 : Rs) (b0_1 b0_2 : Int)
 | e_38c (op1 x2_0 : Int) (x2_1 : Rs) (x2_2 x2_3 : Int) (x2_4 x2_5 : ByteArray) (x2_6 : Int) (b0_0 : Rs) (b0_1 b0_2 : Int)
 | e_38d (op1 x2_0 : Int) (x2_1 : Rs) (x2_2 x2_3 : Int) (x2_4 x2_5 : ByteArray) (x2_6 : Int) (b0_0 : Rs) (b0_1 b0_2 : Int)
 | e_38e (op1 x2_0 : Int) (x2_1 : Rs) (x2_2 x2_3 : Int) (x2_4 x2_5 : ByteArray) (x2_6 : Int) (b0_0 : Rs) (b0_1 b0_2 : Int)
abbrev R22_22 := (Int × Int × Rs × Int × Int) ⊕ (Int × Rs × Int × Int × ByteArray × ByteArray × Int × Rs × Int × Int)
abbrev R22_36 := (Int × Int × Rs × Int × Int) ⊕ (Int × Rs × Int × Int × ByteArray × ByteArray × Int × Rs × Int × Int)
abbrev R22_45 := (Int × Int × Rs × Int × Int) ⊕ (Int × Rs × Int × Int × ByteArray × ByteArray × Int × Rs × Int × Int) ⊕ (Int × Rs × Int × Int × ByteArray × ByteArray × Int × Rs × Int × Int)
abbrev R22_51 := (Int × Int × Rs × Int × Int) ⊕ (Int × Rs × Int × Int × ByteArray × ByteArray × Int × Rs × Int × Int)
abbrev R22_59 := (Int × Int × Rs × Int × Int) ⊕ (Int × Rs × Int × Int × ByteArray × ByteArray × Int × Rs × Int × Int)
abbrev R22_70 := (Int × Int × Rs × Int × Int) ⊕ (Int × Rs × Int × Int × ByteArray × ByteArray × Int × Rs × Int × Int)
abbrev R22_78 := (Int × Int × Rs × Int × Int) ⊕ (Int × Rs × Int × Int × ByteArray × ByteArray × Int × Rs × Int × Int) ⊕ (Int × Rs × Int × Int × ByteArray × ByteArray × Int × Rs × Int × Int)
abbrev R22_83 := (Int × Int × Rs × Int × Int) ⊕ (Int × Rs × Int × Int × ByteArray × ByteArray × Int × Rs × Int × Int) ⊕ (Int × Rs × Int × Int × ByteArray × ByteArray × Int × Rs × Int × Int)
abbrev R22_87 := (Int × Int × Rs × Int × Int) ⊕ (Int × Rs × Int × Int × ByteArray × ByteArray × Int × Rs × Int × Int)
abbrev R22_38 := Int × Rs × Int × Int × ByteArray × ByteArray × Int × Rs × Int × Int
abbrev R22_38b := Int × Rs × Int × Int × ByteArray × ByteArray × Int × Rs × Int × Int
abbrev R22_38c := Int × Rs × Int × Int × ByteArray × ByteArray × Int × Rs × Int × Int
abbrev R22_38d := Int × Rs × Int × Int × ByteArray × ByteArray × Int × Rs × Int × Int
abbrev R22_38e := Int × Rs × Int × Int × ByteArray × ByteArray × Int × Rs × Int × Int
abbrev R22 := R22_22 ⊕ R22_36 ⊕ R22_45 ⊕ R22_51 ⊕ R22_59 ⊕ R22_70 ⊕ R22_78 ⊕ R22_83 ⊕ R22_87 ⊕ R22_38 ⊕ R22_38b ⊕ R22_38c ⊕ R22_38d ⊕ R22_38e
def sel22 (o : Option R22) : Option R22_22 := o.bind fun r => match r with
 | (.inl x) => some x
 | _ => none
theorem sel22_or {o : Option R22} {v : R22_22} (h : sel22 o = some v) : o = some (.inl v) := by
 cases o with
 | none => cases h
 | some r =>
  unfold sel22 at h
  simp only [Option.bind_some] at h
  split at h
  ·
   injection h with h; rw [h]
  ·
   cases h
def sel36 (o : Option R22) : Option R22_36 := o.bind fun r => match r with
 | (.inr (.inl x)) => some x
 | _ => none
theorem sel36_or {o : Option R22} {v : R22_36} (h : sel36 o = some v) : o = some (.inr (.inl v)) := by
 cases o with
 | none => cases h
 | some r =>
  unfold sel36 at h
  simp only [Option.bind_some] at h
  split at h
  ·
   injection h with h; rw [h]
  ·
   cases h
def sel45 (o : Option R22) : Option R22_45 := o.bind fun r => match r with
 | (.inr (.inr (.inl x))) => some x
 | _ => none
theorem sel45_or {o : Option R22} {v : R22_45} (h : sel45 o = some v) : o = some (.inr (.inr (.inl v))) := by
 cases o with
 | none => cases h
 | some r =>
  unfold sel45 at h
  simp only [Option.bind_some] at h
  split at h
  ·
   injection h with h; rw [h]
  ·
   cases h
def sel51 (o : Option R22) : Option R22_51 := o.bind fun r => match r with
 | (.inr (.inr (.inr (.inl x)))) => some x
 | _ => none
theorem sel51_or {o : Option R22} {v : R22_51} (h : sel51 o = some v) : o = some (.inr (.inr (.inr (.inl v)))) := by
 cases o with
 | none => cases h
 | some r =>
  unfold sel51 at h
  simp only [Option.bind_some] at h
  split at h
  ·
   injection h with h; rw [h]
  ·
   cases h
def sel59 (o : Option R22) : Option R22_59 := o.bind fun r => match r with
 | (.inr (.inr (.inr (.inr (.inl x))))) => some x
 | _ => none
theorem sel59_or {o : Option R22} {v : R22_59} (h : sel59 o = some v) : o = some (.inr (.inr (.inr (.inr (.inl v))))) := by
 cases o with
 | none => cases h
 | some r =>
  unfold sel59 at h
  simp only [Option.bind_some] at h
  split at h
  ·
   injection h with h; rw [h]
  ·
   cases h
def sel70 (o : Option R22) : Option R22_70 := o.bind fun r => match r with
 | (.inr (.inr (.inr (.inr (.inr (.inl x)))))) => some x
 | _ => none
theorem sel70_or {o : Option R22} {v : R22_70} (h : sel70 o = some v) : o = some (.inr (.inr (.inr (.inr (.inr (.inl v)))))) := by
 cases o with
 | none => cases h
 | some r =>
  unfold sel70 at h
  simp only [Option.bind_some] at h
  split at h
  ·
   injection h with h; rw [h]
  ·
   cases h
def sel78 (o : Option R22) : Option R22_78 := o.bind fun r => match r with
 | (.inr (.inr (.inr (.inr (.inr (.inr (.inl x))))))) => some x
 | _ => none
theorem sel78_or {o : Option R22} {v : R22_78} (h : sel78 o = some v) : o = some (.inr (.inr (.inr (.inr (.inr (.inr (.inl v))))))) := by
 cases o with
 | none => cases h
 | some r =>
  unfold sel78 at h
  simp only [Option.bind_some] at h
  split at h
  ·
   injection h with h; rw [h]
  ·
   cases h
def sel83 (o : Option R22) : Option R22_83 := o.bind fun r => match r with
 | (.inr (.inr (.inr (.inr (.inr (.inr (.inr (.inl x)))))))) => some x
 | _ => none
theorem sel83_or {o : Option R22} {v : R22_83} (h : sel83 o = some v) : o = some (.inr (.inr (.inr (.inr (.inr (.inr (.inr (.inl v)))))))) := by
 cases o with
 | none => cases h
 | some r =>
  unfold sel83 at h
  simp only [Option.bind_some] at h
  split at h
  ·
   injection h with h; rw [h]
  ·
   cases h
def sel87 (o : Option R22) : Option R22_87 := o.bind fun r => match r with
 | (.inr (.inr (.inr (.inr (.inr (.inr (.inr (.inr (.inl x))))))))) => some x
 | _ => none
theorem sel87_or {o : Option R22} {v : R22_87} (h : sel87 o = some v) : o = some (.inr (.inr (.inr (.inr (.inr (.inr (.inr (.inr (.inl v))))))))) := by
 cases o with
 | none => cases h
 | some r =>
  unfold sel87 at h
  simp only [Option.bind_some] at h
  split at h
  ·
   injection h with h; rw [h]
  ·
   cases h
def sel38 (o : Option R22) : Option R22_38 := o.bind fun r => match r with
 | (.inr (.inr (.inr (.inr (.inr (.inr (.inr (.inr (.inr (.inl x)))))))))) => some x
 | _ => none
theorem sel38_or {o : Option R22} {v : R22_38} (h : sel38 o = some v) : o = some (.inr (.inr (.inr (.inr (.inr (.inr (.inr (.inr (.inr (.inl v)))))))))) := by
 cases o with
 | none => cases h
 | some r =>
  unfold sel38 at h
  simp only [Option.bind_some] at h
  split at h
  ·
   injection h with h; rw [h]
  ·
   cases h
def sel38b (o : Option R22) : Option R22_38b := o.bind fun r => match r with
 | (.inr (.inr (.inr (.inr (.inr (.inr (.inr (.inr (.inr (.inr (.inl x))))))))))) => some x
 | _ => none
theorem sel38b_or {o : Option R22} {v : R22_38b} (h : sel38b o = some v) : o = some (.inr (.inr (.inr (.inr (.inr (.inr (.inr (.inr (.inr (.inr (.inl v))))))))))) := by
 cases o with
 | none => cases h
 | some r =>
  unfold sel38b at h
  simp only [Option.bind_some] at h
  split at h
  ·
   injection h with h; rw [h]
  ·
   cases h
def sel38c (o : Option R22) : Option R22_38c := o.bind fun r => match r with
 | (.inr (.inr (.inr (.inr (.inr (.inr (.inr (.inr (.inr (.inr (.inr (.inl x)))))))))))) => some x
 | _ => none
theorem sel38c_or {o : Option R22} {v : R22_38c} (h : sel38c o = some v) : o = some (.inr (.inr (.inr (.inr (.inr (.inr (.inr (.inr (.inr (.inr (.inr (.inl v)))))))))))) := by
 cases o with
 | none => cases h
 | some r =>
  unfold sel38c at h
  simp only [Option.bind_some] at h
  split at h
  ·
   injection h with h; rw [h]
  ·
   cases h
def sel38d (o : Option R22) : Option R22_38d := o.bind fun r => match r with
 | (.inr (.inr (.inr (.inr (.inr (.inr (.inr (.inr (.inr (.inr (.inr (.inr (.inl x))))))))))))) => some x
 | _ => none
theorem sel38d_or {o : Option R22} {v : R22_38d} (h : sel38d o = some v) : o = some (.inr (.inr (.inr (.inr (.inr (.inr (.inr (.inr (.inr (.inr (.inr (.inr (.inl v))))))))))))) := by
 cases o with
 | none => cases h
 | some r =>
  unfold sel38d at h
  simp only [Option.bind_some] at h
  split at h
  ·
   injection h with h; rw [h]
  ·
   cases h
def sel38e (o : Option R22) : Option R22_38e := o.bind fun r => match r with
 | (.inr (.inr (.inr (.inr (.inr (.inr (.inr (.inr (.inr (.inr (.inr (.inr (.inr x))))))))))))) => some x
 | _ => none
theorem sel38e_or {o : Option R22} {v : R22_38e} (h : sel38e o = some v) : o = some (.inr (.inr (.inr (.inr (.inr (.inr (.inr (.inr (.inr (.inr (.inr (.inr (.inr v))))))))))))) := by
 cases o with
 | none => cases h
 | some r =>
  unfold sel38e at h
  simp only [Option.bind_some] at h
  split at h
  ·
   injection h with h; rw [h]
  ·
   cases h
def res22 : R22_22 → ARes
 | (.inl (r_i00, r_i01, r_b0_0, r_b0_1, r_b0_2)) => .panic (.iface 58 (.agg #[.int .i64 r_i00, .int .i64 r_i01]))
 | (.inr (r_0, r_1, r_2, r_3, r_4, r_5, r_6, r_b0_0, r_b0_1, r_b0_2)) => .ret (.ag [ic r_0, .imm r_1, ic r_2, ic r_3, sc r_4, sc r_5, ic r_6])
def bx22 : R22_22 → List (List Cell)
 | (.inl (r_i00, r_i01, r_b0_0, r_b0_1, r_b0_2)) => [[.imm r_b0_0, ic r_b0_1, ic r_b0_2]]
 | (.inr (r_0, r_1, r_2, r_3, r_4, r_5, r_6, r_b0_0, r_b0_1, r_b0_2)) => [[.imm r_b0_0, ic r_b0_1, ic r_b0_2]]
def rs22 : R22 → ARes
 | (.inl x) => res22 x
 | _ => .panic .nilIface
def bs22 : R22 → List (List Cell)
 | (.inl x) => bx22 x
 | _ => []
noncomputable def t22_e (k : Nat) (rec : S22 → Option R22) (b0_0 : Rs) (b0_1 b0_2 : Int) : Option R22 :=
 (sel36 (rec (.e_36 b0_0 b0_1 b0_2))).bind fun v_x1 =>
 altC v_x1 (fun v_x3 => 
   tup5 v_x3 fun ri00_x4 ri01_x4 rb00_x4 rb01_x4 rb02_x4 =>
   some (.inl (.inl (ri00_x4, ri01_x4, rb00_x4, rb01_x4, rb02_x4)))) (fun v_x3 => 
   tup10 v_x3 fun r0_x4 r1_x4 r2_x4 r3_x4 r4_x4 r5_x4 r6_x4 rb00_x4 rb01_x4 rb02_x4 =>
   rec (.h0_22 r0_x4 r1_x4 r2_x4 r3_x4 r4_x4 r5_x4 r6_x4 0 0 0 (strB []) (strB []) 0 rb00_x4 rb01_x4 rb02_x4))
noncomputable def t22_h0 (k : Nat) (rec : S22 → Option R22) (l3_0 : Int) (l3_1 : Rs) (l3_2 l3_3 : Int) (l3_4 l3_5 : ByteArray) (l3_6 l2_0 l2_2 l2_3 : Int) (l2_4 l2_5 : ByteArray) (l2_6 : Int) (p0_0 : Rs) (p0_1 p0_2 : Int) : Option R22 :=
 (g37 k (strB [79, 82]) p0_0 p0_1 p0_2).bind fun v_x1 =>
 tup2 v_x1 fun r_x3 rb00_x3 =>
 bif r_x3 then
  (sel38e (rec (.e_38e 14 l3_0 l3_1 l3_2 l3_3 l3_4 l3_5 l3_6 rb00_x3 p0_1 p0_2))).bind fun v_x4 =>
  tup10 v_x4 fun r0_x6 r1_x6 r2_x6 r3_x6 r4_x6 r5_x6 r6_x6 rb00_x6 rb01_x6 rb02_x6 =>
  rec (.h1_22 r0_x6 r1_x6 r2_x6 r3_x6 r4_x6 r5_x6 r6_x6 l2_0 l2_2 l2_3 l2_4 l2_5 l2_6 rb00_x6 rb01_x6 rb02_x6)
 else
  some (.inl (.inr (l3_0, l3_1, l3_2, l3_3, l3_4, l3_5, l3_6, rb00_x3, p0_1, p0_2)))
noncomputable def t22_h1 (k : Nat) (rec : S22 → Option R22) (l3_0 : Int) (l3_1 : Rs) (l3_2 l3_3 : Int) (l3_4 l3_5 : ByteArray) (l3_6 l2_0 l2_2 l2_3 : Int) (l2_4 l2_5 : ByteArray) (l2_6 : Int) (p0_0 : Rs) (p0_1 p0_2 : Int) : Option R22 :=
 (g37 k (strB [79, 82]) p0_0 p0_1 p0_2).bind fun v_x1 =>
 tup2 v_x1 fun r_x3 rb00_x3 =>
 bif r_x3 then
  (sel38e (rec (.e_38e 14 l3_0 (immRs l3_1) l3_2 l3_3 l3_4 l3_5 l3_6 rb00_x3 p0_1 p0_2))).bind fun v_x4 =>
  tup10 v_x4 fun r0_x6 r1_x6 r2_x6 r3_x6 r4_x6 r5_x6 r6_x6 rb00_x6 rb01_x6 rb02_x6 =>
  rec (.h1_22 r0_x6 r1_x6 r2_x6 r3_x6 r4_x6 r5_x6 r6_x6 l2_0 l2_2 l2_3 l2_4 l2_5 l2_6 rb00_x6 rb01_x6 rb02_x6)
 else
  some (.inl (.inr (l3_0, immRs l3_1, l3_2, l3_3, l3_4, l3_5, l3_6, rb00_x3, p0_1, p0_2)))
def res36 : R22_36 → ARes
 | (.inl (r_i00, r_i01, r_b0_0, r_b0_1, r_b0_2)) => .panic (.iface 58 (.agg #[.int .i64 r_i00, .int .i64 r_i01]))
 | (.inr (r_0, r_1, r_2, r_3, r_4, r_5, r_6, r_b0_0, r_b0_1, r_b0_2)) => .ret (.ag [ic r_0, .imm r_1, ic r_2, ic r_3, sc r_4, sc r_5, ic r_6])
def bx36 : R22_36 → List (List Cell)
 | (.inl (r_i00, r_i01, r_b0_0, r_b0_1, r_b0_2)) => [[.imm r_b0_0, ic r_b0_1, ic r_b0_2]]
 | (.inr (r_0, r_1, r_2, r_3, r_4, r_5, r_6, r_b0_0, r_b0_1, r_b0_2)) => [[.imm r_b0_0, ic r_b0_1, ic r_b0_2]]
def rs36 : R22 → ARes
 | (.inr (.inl x)) => res36 x
 | _ => .panic .nilIface
def bs36 : R22 → List (List Cell)
 | (.inr (.inl x)) => bx36 x
 | _ => []
noncomputable def t36_e (k : Nat) (rec : S22 → Option R22) (b0_0 : Rs) (b0_1 b0_2 : Int) : Option R22 :=
 (sel45 (rec (.e_45 b0_0 b0_1 b0_2))).bind fun v_x1 =>
 altC v_x1 (fun v_x3 => 
   tup5 v_x3 fun ri00_x4 ri01_x4 rb00_x4 rb01_x4 rb02_x4 =>
   some (.inr (.inl (.inl (ri00_x4, ri01_x4, rb00_x4, rb01_x4, rb02_x4))))) (fun v_x1_0 => altC v_x1_0 (fun v_x3 => 
   tup10 v_x3 fun r0_x4 r1_x4 r2_x4 r3_x4 r4_x4 r5_x4 r6_x4 rb00_x4 rb01_x4 rb02_x4 =>
   rec (.h0_36 r0_x4 r1_x4 r2_x4 r3_x4 r4_x4 r5_x4 r6_x4 0 0 0 (strB []) (strB []) 0 rb00_x4 rb01_x4 rb02_x4)) (fun v_x3 => 
   tup10 v_x3 fun r0_x4 r1_x4 r2_x4 r3_x4 r4_x4 r5_x4 r6_x4 rb00_x4 rb01_x4 rb02_x4 =>
   rec (.h1_36 r0_x4 r1_x4 r2_x4 r3_x4 r4_x4 r5_x4 r6_x4 0 0 0 (strB []) (strB []) 0 rb00_x4 rb01_x4 rb02_x4)))
noncomputable def t36_h0 (k : Nat) (rec : S22 → Option R22) (l3_0 : Int) (l3_1 : Rs) (l3_2 l3_3 : Int) (l3_4 l3_5 : ByteArray) (l3_6 l2_0 l2_2 l2_3 : Int) (l2_4 l2_5 : ByteArray) (l2_6 : Int) (p0_0 : Rs) (p0_1 p0_2 : Int) : Option R22 :=
 (g37 k (strB [65, 78, 68]) p0_0 p0_1 p0_2).bind fun v_x1 =>
 tup2 v_x1 fun r_x3 rb00_x3 =>
 bif r_x3 then
  (sel38d (rec (.e_38d 13 l3_0 l3_1 l3_2 l3_3 l3_4 l3_5 l3_6 rb00_x3 p0_1 p0_2))).bind fun v_x4 =>
  tup10 v_x4 fun r0_x6 r1_x6 r2_x6 r3_x6 r4_x6 r5_x6 r6_x6 rb00_x6 rb01_x6 rb02_x6 =>
  rec (.h1_36 r0_x6 r1_x6 r2_x6 r3_x6 r4_x6 r5_x6 r6_x6 l2_0 l2_2 l2_3 l2_4 l2_5 l2_6 rb00_x6 rb01_x6 rb02_x6)
 else
  some (.inr (.inl (.inr (l3_0, l3_1, l3_2, l3_3, l3_4, l3_5, l3_6, rb00_x3, p0_1, p0_2))))
noncomputable def t36_h1 (k : Nat) (rec : S22 → Option R22) (l3_0 : Int) (l3_1 : Rs) (l3_2 l3_3 : Int) (l3_4 l3_5 : ByteArray) (l3_6 l2_0 l2_2 l2_3 : Int) (l2_4 l2_5 : ByteArray) (l2_6 : Int) (p0_0 : Rs) (p0_1 p0_2 : Int) : Option R22 :=
 (g37 k (strB [65, 78, 68]) p0_0 p0_1 p0_2).bind fun v_x1 =>
 tup2 v_x1 fun r_x3 rb00_x3 =>
 bif r_x3 then
  (sel38d (rec (.e_38d 13 l3_0 (immRs l3_1) l3_2 l3_3 l3_4 l3_5 l3_6 rb00_x3 p0_1 p0_2))).bind fun v_x4 =>
  tup10 v_x4 fun r0_x6 r1_x6 r2_x6 r3_x6 r4_x6 r5_x6 r6_x6 rb00_x6 rb01_x6 rb02_x6 =>
  rec (.h1_36 r0_x6 r1_x6 r2_x6 r3_x6 r4_x6 r5_x6 r6_x6 l2_0 l2_2 l2_3 l2_4 l2_5 l2_6 rb00_x6 rb01_x6 rb02_x6)
 else
  some (.inr (.inl (.inr (l3_0, immRs l3_1, l3_2, l3_3, l3_4, l3_5, l3_6, rb00_x3, p0_1, p0_2))))
def res45 : R22_45 → ARes
 | (.inl (r_i00, r_i01, r_b0_0, r_b0_1, r_b0_2)) => .panic (.iface 58 (.agg #[.int .i64 r_i00, .int .i64 r_i01]))
 | (.inr (.inl (r_0, r_1, r_2, r_3, r_4, r_5, r_6, r_b0_0, r_b0_1, r_b0_2))) => .ret (.ag [ic r_0, .imm r_1, ic r_2, ic r_3, sc r_4, sc r_5, ic r_6])
 | (.inr (.inr (r_0, r_1, r_2, r_3, r_4, r_5, r_6, r_b0_0, r_b0_1, r_b0_2))) => .ret (.ag [ic r_0, .own 7 r_1, ic r_2, ic r_3, sc r_4, sc r_5, ic r_6])
def bx45 : R22_45 → List (List Cell)
 | (.inl (r_i00, r_i01, r_b0_0, r_b0_1, r_b0_2)) => [[.imm r_b0_0, ic r_b0_1, ic r_b0_2]]
 | (.inr (.inl (r_0, r_1, r_2, r_3, r_4, r_5, r_6, r_b0_0, r_b0_1, r_b0_2))) => [[.imm r_b0_0, ic r_b0_1, ic r_b0_2]]
 | (.inr (.inr (r_0, r_1, r_2, r_3, r_4, r_5, r_6, r_b0_0, r_b0_1, r_b0_2))) => [[.imm r_b0_0, ic r_b0_1, ic r_b0_2]]
def rs45 : R22 → ARes
 | (.inr (.inr (.inl x))) => res45 x
 | _ => .panic .nilIface
def bs45 : R22 → List (List Cell)
 | (.inr (.inr (.inl x))) => bx45 x
 | _ => []
noncomputable def t45_e (k : Nat) (rec : S22 → Option R22) (b0_0 : Rs) (b0_1 b0_2 : Int) : Option R22 :=
 (g37 k (strB [78, 79, 84]) b0_0 b0_1 b0_2).bind fun v_x1 =>
 tup2 v_x1 fun r_x3 rb00_x3 =>
 bif !r_x3 then
  (sel51 (rec (.e_51 rb00_x3 b0_1 b0_2))).bind fun v_x5 =>
  altC v_x5 (fun v_x7 => 
    tup5 v_x7 fun ri00_x8 ri01_x8 rb00_x8 rb01_x8 rb02_x8 =>
    some (.inr (.inr (.inl (.inl (ri00_x8, ri01_x8, rb00_x8, rb01_x8, rb02_x8)))))) (fun v_x7 => 
    tup10 v_x7 fun r0_x8 r1_x8 r2_x8 r3_x8 r4_x8 r5_x8 r6_x8 rb00_x8 rb01_x8 rb02_x8 =>
    some (.inr (.inr (.inl (.inr (.inl (r0_x8, r1_x8, r2_x8, r3_x8, r4_x8, r5_x8, r6_x8, rb00_x8, rb01_x8, rb02_x8)))))))
 else
  (g52 k rb00_x3 b0_1 b0_2).bind fun v_x5 =>
  altC v_x5 (fun v_x7 => 
    tup5 v_x7 fun ri00_x8 ri01_x8 rb00_x8 rb01_x8 rb02_x8 =>
    some (.inr (.inr (.inl (.inl (ri00_x8, ri01_x8, rb00_x8, rb01_x8, rb02_x8)))))) (fun v_x7 => 
    tup4 v_x7 fun r_x8 rb00_x8 rb01_x8 rb02_x8 =>
    (sel45 (rec (.e_45 rb00_x8 rb01_x8 rb02_x8))).bind fun v_x9 =>
    altC v_x9 (fun v_x11 => 
      tup5 v_x11 fun ri00_x12 ri01_x12 rb00_x12 rb01_x12 rb02_x12 =>
      some (.inr (.inr (.inl (.inl (ri00_x12, ri01_x12, rb00_x12, rb01_x12, rb02_x12)))))) (fun v_x9_0 => altC v_x9_0 (fun v_x11 => 
      tup10 v_x11 fun r0_x12 r1_x12 r2_x12 r3_x12 r4_x12 r5_x12 r6_x12 rb00_x12 rb01_x12 rb02_x12 =>
      some (.inr (.inr (.inl (.inr (.inr (15, [[ic r0_x12, .imm r1_x12, ic r2_x12, ic r3_x12, sc r4_x12, sc r5_x12, ic r6_x12]], 0, 0, strB [], strB [], r_x8, rb00_x12, rb01_x12, IntKind.i64.wrap (rb02_x12 - 1)))))))) (fun v_x11 => 
      tup10 v_x11 fun r0_x12 r1_x12 r2_x12 r3_x12 r4_x12 r5_x12 r6_x12 rb00_x12 rb01_x12 rb02_x12 =>
      some (.inr (.inr (.inl (.inr (.inr (15, [[ic r0_x12, .imm (immRs r1_x12), ic r2_x12, ic r3_x12, sc r4_x12, sc r5_x12, ic r6_x12]], 0, 0, strB [], strB [], r_x8, rb00_x12, rb01_x12, IntKind.i64.wrap (rb02_x12 - 1))))))))))
def res51 : R22_51 → ARes
 | (.inl (r_i00, r_i01, r_b0_0, r_b0_1, r_b0_2)) => .panic (.iface 58 (.agg #[.int .i64 r_i00, .int .i64 r_i01]))
 | (.inr (r_0, r_1, r_2, r_3, r_4, r_5, r_6, r_b0_0, r_b0_1, r_b0_2)) => .ret (.ag [ic r_0, .imm r_1, ic r_2, ic r_3, sc r_4, sc r_5, ic r_6])
def bx51 : R22_51 → List (List Cell)
 | (.inl (r_i00, r_i01, r_b0_0, r_b0_1, r_b0_2)) => [[.imm r_b0_0, ic r_b0_1, ic r_b0_2]]
 | (.inr (r_0, r_1, r_2, r_3, r_4, r_5, r_6, r_b0_0, r_b0_1, r_b0_2)) => [[.imm r_b0_0, ic r_b0_1, ic r_b0_2]]
def rs51 : R22 → ARes
 | (.inr (.inr (.inr (.inl x)))) => res51 x
 | _ => .panic .nilIface
def bs51 : R22 → List (List Cell)
 | (.inr (.inr (.inr (.inl x)))) => bx51 x
 | _ => []
noncomputable def t51_e (k : Nat) (rec : S22 → Option R22) (b0_0 : Rs) (b0_1 b0_2 : Int) : Option R22 :=
 (sel59 (rec (.e_59 b0_0 b0_1 b0_2))).bind fun v_x1 =>
 altC v_x1 (fun v_x3 => 
   tup5 v_x3 fun ri00_x4 ri01_x4 rb00_x4 rb01_x4 rb02_x4 =>
   some (.inr (.inr (.inr (.inl (.inl (ri00_x4, ri01_x4, rb00_x4, rb01_x4, rb02_x4))))))) (fun v_x3 => 
   tup10 v_x3 fun r0_x4 r1_x4 r2_x4 r3_x4 r4_x4 r5_x4 r6_x4 rb00_x4 rb01_x4 rb02_x4 =>
   (g60 k (strB [61, 32, 33, 61, 32, 60, 32, 60, 61, 32, 62, 32, 62, 61]) 7 rb00_x4 rb01_x4 rb02_x4).bind fun v_x5 =>
   tup2 v_x5 fun r_x7 rb00_x7 =>
   bif r_x7 != 0 then
    (sel38c (rec (.e_38c r_x7 r0_x4 r1_x4 r2_x4 r3_x4 r4_x4 r5_x4 r6_x4 rb00_x7 rb01_x4 rb02_x4))).bind fun v_x9 =>
    tup10 v_x9 fun r0_x11 r1_x11 r2_x11 r3_x11 r4_x11 r5_x11 r6_x11 rb00_x11 rb01_x11 rb02_x11 =>
    some (.inr (.inr (.inr (.inl (.inr (r0_x11, immRs r1_x11, r2_x11, r3_x11, r4_x11, r5_x11, r6_x11, rb00_x11, rb01_x11, rb02_x11))))))
   else
    some (.inr (.inr (.inr (.inl (.inr (r0_x4, r1_x4, r2_x4, r3_x4, r4_x4, r5_x4, r6_x4, rb00_x7, rb01_x4, rb02_x4)))))))
def res59 : R22_59 → ARes
 | (.inl (r_i00, r_i01, r_b0_0, r_b0_1, r_b0_2)) => .panic (.iface 58 (.agg #[.int .i64 r_i00, .int .i64 r_i01]))
 | (.inr (r_0, r_1, r_2, r_3, r_4, r_5, r_6, r_b0_0, r_b0_1, r_b0_2)) => .ret (.ag [ic r_0, .imm r_1, ic r_2, ic r_3, sc r_4, sc r_5, ic r_6])
def bx59 : R22_59 → List (List Cell)
 | (.inl (r_i00, r_i01, r_b0_0, r_b0_1, r_b0_2)) => [[.imm r_b0_0, ic r_b0_1, ic r_b0_2]]
 | (.inr (r_0, r_1, r_2, r_3, r_4, r_5, r_6, r_b0_0, r_b0_1, r_b0_2)) => [[.imm r_b0_0, ic r_b0_1, ic r_b0_2]]
def rs59 : R22 → ARes
 | (.inr (.inr (.inr (.inr (.inl x))))) => res59 x
 | _ => .panic .nilIface
def bs59 : R22 → List (List Cell)
 | (.inr (.inr (.inr (.inr (.inl x))))) => bx59 x
 | _ => []
noncomputable def t59_e (k : Nat) (rec : S22 → Option R22) (b0_0 : Rs) (b0_1 b0_2 : Int) : Option R22 :=
 (sel70 (rec (.e_70 b0_0 b0_1 b0_2))).bind fun v_x1 =>
 altC v_x1 (fun v_x3 => 
   tup5 v_x3 fun ri00_x4 ri01_x4 rb00_x4 rb01_x4 rb02_x4 =>
   some (.inr (.inr (.inr (.inr (.inl (.inl (ri00_x4, ri01_x4, rb00_x4, rb01_x4, rb02_x4)))))))) (fun v_x3 => 
   tup10 v_x3 fun r0_x4 r1_x4 r2_x4 r3_x4 r4_x4 r5_x4 r6_x4 rb00_x4 rb01_x4 rb02_x4 =>
   rec (.h0_59 r0_x4 r1_x4 r2_x4 r3_x4 r4_x4 r5_x4 r6_x4 0 0 0 (strB []) (strB []) 0 rb00_x4 rb01_x4 rb02_x4))
noncomputable def t59_h0 (k : Nat) (rec : S22 → Option R22) (l3_0 : Int) (l3_1 : Rs) (l3_2 l3_3 : Int) (l3_4 l3_5 : ByteArray) (l3_6 l2_0 l2_2 l2_3 : Int) (l2_4 l2_5 : ByteArray) (l2_6 : Int) (p0_0 : Rs) (p0_1 p0_2 : Int) : Option R22 :=
 (g60 k (strB [43, 32, 45]) 1 p0_0 p0_1 p0_2).bind fun v_x1 =>
 tup2 v_x1 fun r_x3 rb00_x3 =>
 bif r_x3 == 0 then
  some (.inr (.inr (.inr (.inr (.inl (.inr (l3_0, l3_1, l3_2, l3_3, l3_4, l3_5, l3_6, rb00_x3, p0_1, p0_2)))))))
 else
  (sel38b (rec (.e_38b r_x3 l3_0 l3_1 l3_2 l3_3 l3_4 l3_5 l3_6 rb00_x3 p0_1 p0_2))).bind fun v_x5 =>
  tup10 v_x5 fun r0_x7 r1_x7 r2_x7 r3_x7 r4_x7 r5_x7 r6_x7 rb00_x7 rb01_x7 rb02_x7 =>
  rec (.h1_59 r0_x7 r1_x7 r2_x7 r3_x7 r4_x7 r5_x7 r6_x7 l2_0 l2_2 l2_3 l2_4 l2_5 l2_6 rb00_x7 rb01_x7 rb02_x7)
noncomputable def t59_h1 (k : Nat) (rec : S22 → Option R22) (l3_0 : Int) (l3_1 : Rs) (l3_2 l3_3 : Int) (l3_4 l3_5 : ByteArray) (l3_6 l2_0 l2_2 l2_3 : Int) (l2_4 l2_5 : ByteArray) (l2_6 : Int) (p0_0 : Rs) (p0_1 p0_2 : Int) : Option R22 :=
 (g60 k (strB [43, 32, 45]) 1 p0_0 p0_1 p0_2).bind fun v_x1 =>
 tup2 v_x1 fun r_x3 rb00_x3 =>
 bif r_x3 == 0 then
  some (.inr (.inr (.inr (.inr (.inl (.inr (l3_0, immRs l3_1, l3_2, l3_3, l3_4, l3_5, l3_6, rb00_x3, p0_1, p0_2)))))))
 else
  (sel38b (rec (.e_38b r_x3 l3_0 (immRs l3_1) l3_2 l3_3 l3_4 l3_5 l3_6 rb00_x3 p0_1 p0_2))).bind fun v_x5 =>
  tup10 v_x5 fun r0_x7 r1_x7 r2_x7 r3_x7 r4_x7 r5_x7 r6_x7 rb00_x7 rb01_x7 rb02_x7 =>
  rec (.h1_59 r0_x7 r1_x7 r2_x7 r3_x7 r4_x7 r5_x7 r6_x7 l2_0 l2_2 l2_3 l2_4 l2_5 l2_6 rb00_x7 rb01_x7 rb02_x7)
def res70 : R22_70 → ARes
 | (.inl (r_i00, r_i01, r_b0_0, r_b0_1, r_b0_2)) => .panic (.iface 58 (.agg #[.int .i64 r_i00, .int .i64 r_i01]))
 | (.inr (r_0, r_1, r_2, r_3, r_4, r_5, r_6, r_b0_0, r_b0_1, r_b0_2)) => .ret (.ag [ic r_0, .imm r_1, ic r_2, ic r_3, sc r_4, sc r_5, ic r_6])
def bx70 : R22_70 → List (List Cell)
 | (.inl (r_i00, r_i01, r_b0_0, r_b0_1, r_b0_2)) => [[.imm r_b0_0, ic r_b0_1, ic r_b0_2]]
 | (.inr (r_0, r_1, r_2, r_3, r_4, r_5, r_6, r_b0_0, r_b0_1, r_b0_2)) => [[.imm r_b0_0, ic r_b0_1, ic r_b0_2]]
def rs70 : R22 → ARes
 | (.inr (.inr (.inr (.inr (.inr (.inl x)))))) => res70 x
 | _ => .panic .nilIface
def bs70 : R22 → List (List Cell)
 | (.inr (.inr (.inr (.inr (.inr (.inl x)))))) => bx70 x
 | _ => []
noncomputable def t70_e (k : Nat) (rec : S22 → Option R22) (b0_0 : Rs) (b0_1 b0_2 : Int) : Option R22 :=
 (sel78 (rec (.e_78 b0_0 b0_1 b0_2))).bind fun v_x1 =>
 altC v_x1 (fun v_x3 => 
   tup5 v_x3 fun ri00_x4 ri01_x4 rb00_x4 rb01_x4 rb02_x4 =>
   some (.inr (.inr (.inr (.inr (.inr (.inl (.inl (ri00_x4, ri01_x4, rb00_x4, rb01_x4, rb02_x4))))))))) (fun v_x1_0 => altC v_x1_0 (fun v_x3 => 
   tup10 v_x3 fun r0_x4 r1_x4 r2_x4 r3_x4 r4_x4 r5_x4 r6_x4 rb00_x4 rb01_x4 rb02_x4 =>
   rec (.h0_70 r0_x4 r1_x4 r2_x4 r3_x4 r4_x4 r5_x4 r6_x4 0 0 0 (strB []) (strB []) 0 rb00_x4 rb01_x4 rb02_x4)) (fun v_x3 => 
   tup10 v_x3 fun r0_x4 r1_x4 r2_x4 r3_x4 r4_x4 r5_x4 r6_x4 rb00_x4 rb01_x4 rb02_x4 =>
   rec (.h1_70 r0_x4 r1_x4 r2_x4 r3_x4 r4_x4 r5_x4 r6_x4 0 0 0 (strB []) (strB []) 0 rb00_x4 rb01_x4 rb02_x4)))
noncomputable def t70_h0 (k : Nat) (rec : S22 → Option R22) (l3_0 : Int) (l3_1 : Rs) (l3_2 l3_3 : Int) (l3_4 l3_5 : ByteArray) (l3_6 l2_0 l2_2 l2_3 : Int) (l2_4 l2_5 : ByteArray) (l2_6 : Int) (p0_0 : Rs) (p0_1 p0_2 : Int) : Option R22 :=
 (g60 k (strB [42, 32, 47, 32, 37]) 3 p0_0 p0_1 p0_2).bind fun v_x1 =>
 tup2 v_x1 fun r_x3 rb00_x3 =>
 bif r_x3 == 0 then
  some (.inr (.inr (.inr (.inr (.inr (.inl (.inr (l3_0, immRs l3_1, l3_2, l3_3, l3_4, l3_5, l3_6, rb00_x3, p0_1, p0_2))))))))
 else
  (sel38 (rec (.e_38 r_x3 l3_0 (immRs l3_1) l3_2 l3_3 l3_4 l3_5 l3_6 rb00_x3 p0_1 p0_2))).bind fun v_x5 =>
  tup10 v_x5 fun r0_x7 r1_x7 r2_x7 r3_x7 r4_x7 r5_x7 r6_x7 rb00_x7 rb01_x7 rb02_x7 =>
  rec (.h0_70 r0_x7 r1_x7 r2_x7 r3_x7 r4_x7 r5_x7 r6_x7 l2_0 l2_2 l2_3 l2_4 l2_5 l2_6 rb00_x7 rb01_x7 rb02_x7)
noncomputable def t70_h1 (k : Nat) (rec : S22 → Option R22) (l3_0 : Int) (l3_1 : Rs) (l3_2 l3_3 : Int) (l3_4 l3_5 : ByteArray) (l3_6 l2_0 l2_2 l2_3 : Int) (l2_4 l2_5 : ByteArray) (l2_6 : Int) (p0_0 : Rs) (p0_1 p0_2 : Int) : Option R22 :=
 (g60 k (strB [42, 32, 47, 32, 37]) 3 p0_0 p0_1 p0_2).bind fun v_x1 =>
 tup2 v_x1 fun r_x3 rb00_x3 =>
 bif r_x3 == 0 then
  some (.inr (.inr (.inr (.inr (.inr (.inl (.inr (l3_0, l3_1, l3_2, l3_3, l3_4, l3_5, l3_6, rb00_x3, p0_1, p0_2))))))))
 else
  (sel38 (rec (.e_38 r_x3 l3_0 l3_1 l3_2 l3_3 l3_4 l3_5 l3_6 rb00_x3 p0_1 p0_2))).bind fun v_x5 =>
  tup10 v_x5 fun r0_x7 r1_x7 r2_x7 r3_x7 r4_x7 r5_x7 r6_x7 rb00_x7 rb01_x7 rb02_x7 =>
  rec (.h0_70 r0_x7 r1_x7 r2_x7 r3_x7 r4_x7 r5_x7 r6_x7 l2_0 l2_2 l2_3 l2_4 l2_5 l2_6 rb00_x7 rb01_x7 rb02_x7)
def res78 : R22_78 → ARes
 | (.inl (r_i00, r_i01, r_b0_0, r_b0_1, r_b0_2)) => .panic (.iface 58 (.agg #[.int .i64 r_i00, .int .i64 r_i01]))
 | (.inr (.inl (r_0, r_1, r_2, r_3, r_4, r_5, r_6, r_b0_0, r_b0_1, r_b0_2))) => .ret (.ag [ic r_0, .own 7 r_1, ic r_2, ic r_3, sc r_4, sc r_5, ic r_6])
 | (.inr (.inr (r_0, r_1, r_2, r_3, r_4, r_5, r_6, r_b0_0, r_b0_1, r_b0_2))) => .ret (.ag [ic r_0, .imm r_1, ic r_2, ic r_3, sc r_4, sc r_5, ic r_6])
def bx78 : R22_78 → List (List Cell)
 | (.inl (r_i00, r_i01, r_b0_0, r_b0_1, r_b0_2)) => [[.imm r_b0_0, ic r_b0_1, ic r_b0_2]]
 | (.inr (.inl (r_0, r_1, r_2, r_3, r_4, r_5, r_6, r_b0_0, r_b0_1, r_b0_2))) => [[.imm r_b0_0, ic r_b0_1, ic r_b0_2]]
 | (.inr (.inr (r_0, r_1, r_2, r_3, r_4, r_5, r_6, r_b0_0, r_b0_1, r_b0_2))) => [[.imm r_b0_0, ic r_b0_1, ic r_b0_2]]
def rs78 : R22 → ARes
 | (.inr (.inr (.inr (.inr (.inr (.inr (.inl x))))))) => res78 x
 | _ => .panic .nilIface
def bs78 : R22 → List (List Cell)
 | (.inr (.inr (.inr (.inr (.inr (.inr (.inl x))))))) => bx78 x
 | _ => []
noncomputable def t78_e (k : Nat) (rec : S22 → Option R22) (b0_0 : Rs) (b0_1 b0_2 : Int) : Option R22 :=
 (g37 k (strB [45]) b0_0 b0_1 b0_2).bind fun v_x1 =>
 tup2 v_x1 fun r_x3 rb00_x3 =>
 bif !r_x3 then
  (sel83 (rec (.e_83 rb00_x3 b0_1 b0_2))).bind fun v_x5 =>
  altC v_x5 (fun v_x7 => 
    tup5 v_x7 fun ri00_x8 ri01_x8 rb00_x8 rb01_x8 rb02_x8 =>
    some (.inr (.inr (.inr (.inr (.inr (.inr (.inl (.inl (ri00_x8, ri01_x8, rb00_x8, rb01_x8, rb02_x8)))))))))) (fun v_x5_0 => altC v_x5_0 (fun v_x7 => 
    tup10 v_x7 fun r0_x8 r1_x8 r2_x8 r3_x8 r4_x8 r5_x8 r6_x8 rb00_x8 rb01_x8 rb02_x8 =>
    rec (.h0_78 r0_x8 r1_x8 r2_x8 r3_x8 r4_x8 r5_x8 r6_x8 rb00_x8 rb01_x8 rb02_x8)) (fun v_x7 => 
    tup10 v_x7 fun r0_x8 r1_x8 r2_x8 r3_x8 r4_x8 r5_x8 r6_x8 rb00_x8 rb01_x8 rb02_x8 =>
    rec (.h1_78 r0_x8 r1_x8 r2_x8 r3_x8 r4_x8 r5_x8 r6_x8 rb00_x8 rb01_x8 rb02_x8)))
 else
  (g52 k rb00_x3 b0_1 b0_2).bind fun v_x5 =>
  altC v_x5 (fun v_x7 => 
    tup5 v_x7 fun ri00_x8 ri01_x8 rb00_x8 rb01_x8 rb02_x8 =>
    some (.inr (.inr (.inr (.inr (.inr (.inr (.inl (.inl (ri00_x8, ri01_x8, rb00_x8, rb01_x8, rb02_x8)))))))))) (fun v_x7 => 
    tup4 v_x7 fun r_x8 rb00_x8 rb01_x8 rb02_x8 =>
    (sel78 (rec (.e_78 rb00_x8 rb01_x8 rb02_x8))).bind fun v_x9 =>
    altC v_x9 (fun v_x11 => 
      tup5 v_x11 fun ri00_x12 ri01_x12 rb00_x12 rb01_x12 rb02_x12 =>
      some (.inr (.inr (.inr (.inr (.inr (.inr (.inl (.inl (ri00_x12, ri01_x12, rb00_x12, rb01_x12, rb02_x12)))))))))) (fun v_x9_0 => altC v_x9_0 (fun v_x11 => 
      tup10 v_x11 fun r0_x12 r1_x12 r2_x12 r3_x12 r4_x12 r5_x12 r6_x12 rb00_x12 rb01_x12 rb02_x12 =>
      rec (.h2_78 6 [[ic r0_x12, .imm (immRs r1_x12), ic r2_x12, ic r3_x12, sc r4_x12, sc r5_x12, ic r6_x12]] 0 0 (strB []) (strB []) r_x8 rb00_x12 rb01_x12 (IntKind.i64.wrap (rb02_x12 - 1)))) (fun v_x11 => 
      tup10 v_x11 fun r0_x12 r1_x12 r2_x12 r3_x12 r4_x12 r5_x12 r6_x12 rb00_x12 rb01_x12 rb02_x12 =>
      rec (.h2_78 6 [[ic r0_x12, .imm r1_x12, ic r2_x12, ic r3_x12, sc r4_x12, sc r5_x12, ic r6_x12]] 0 0 (strB []) (strB []) r_x8 rb00_x12 rb01_x12 (IntKind.i64.wrap (rb02_x12 - 1))))))
noncomputable def t78_h0 (k : Nat) (rec : S22 → Option R22) (l2_0 : Int) (l2_1 : Rs) (l2_2 l2_3 : Int) (l2_4 l2_5 : ByteArray) (l2_6 : Int) (p0_0 : Rs) (p0_1 p0_2 : Int) : Option R22 :=
 some (.inr (.inr (.inr (.inr (.inr (.inr (.inl (.inr (.inr (l2_0, l2_1, l2_2, l2_3, l2_4, l2_5, l2_6, p0_0, p0_1, p0_2))))))))))
noncomputable def t78_h1 (k : Nat) (rec : S22 → Option R22) (l2_0 : Int) (l2_1 : Rs) (l2_2 l2_3 : Int) (l2_4 l2_5 : ByteArray) (l2_6 : Int) (p0_0 : Rs) (p0_1 p0_2 : Int) : Option R22 :=
 some (.inr (.inr (.inr (.inr (.inr (.inr (.inl (.inr (.inl (l2_0, l2_1, l2_2, l2_3, l2_4, l2_5, l2_6, p0_0, p0_1, p0_2))))))))))
noncomputable def t78_h2 (k : Nat) (rec : S22 → Option R22) (l2_0 : Int) (l2_1 : Rs) (l2_2 l2_3 : Int) (l2_4 l2_5 : ByteArray) (l2_6 : Int) (p0_0 : Rs) (p0_1 p0_2 : Int) : Option R22 :=
 some (.inr (.inr (.inr (.inr (.inr (.inr (.inl (.inr (.inl (l2_0, l2_1, l2_2, l2_3, l2_4, l2_5, l2_6, p0_0, p0_1, p0_2))))))))))
def res83 : R22_83 → ARes
 | (.inl (r_i00, r_i01, r_b0_0, r_b0_1, r_b0_2)) => .panic (.iface 58 (.agg #[.int .i64 r_i00, .int .i64 r_i01]))
 | (.inr (.inl (r_0, r_1, r_2, r_3, r_4, r_5, r_6, r_b0_0, r_b0_1, r_b0_2))) => .ret (.ag [ic r_0, .imm r_1, ic r_2, ic r_3, sc r_4, sc r_5, ic r_6])
 | (.inr (.inr (r_0, r_1, r_2, r_3, r_4, r_5, r_6, r_b0_0, r_b0_1, r_b0_2))) => .ret (.ag [ic r_0, .own 7 r_1, ic r_2, ic r_3, sc r_4, sc r_5, ic r_6])
def bx83 : R22_83 → List (List Cell)
 | (.inl (r_i00, r_i01, r_b0_0, r_b0_1, r_b0_2)) => [[.imm r_b0_0, ic r_b0_1, ic r_b0_2]]
 | (.inr (.inl (r_0, r_1, r_2, r_3, r_4, r_5, r_6, r_b0_0, r_b0_1, r_b0_2))) => [[.imm r_b0_0, ic r_b0_1, ic r_b0_2]]
 | (.inr (.inr (r_0, r_1, r_2, r_3, r_4, r_5, r_6, r_b0_0, r_b0_1, r_b0_2))) => [[.imm r_b0_0, ic r_b0_1, ic r_b0_2]]
def rs83 : R22 → ARes
 | (.inr (.inr (.inr (.inr (.inr (.inr (.inr (.inl x)))))))) => res83 x
 | _ => .panic .nilIface
def bs83 : R22 → List (List Cell)
 | (.inr (.inr (.inr (.inr (.inr (.inr (.inr (.inl x)))))))) => bx83 x
 | _ => []
noncomputable def t83_e (k : Nat) (rec : S22 → Option R22) (b0_0 : Rs) (b0_1 b0_2 : Int) : Option R22 :=
 (g46 k b0_0 b0_1 b0_2).bind fun v_x1 =>
 tup6 v_x1 fun r0_x3 r1_x3 r2_x3 r3_x3 r4_x3 rb00_x3 =>
 bif r0_x3 == 3 then
  rec (.h0_83 20 [] r2_x3 0 (strB []) (strB []) r4_x3 rb00_x3 (IntKind.i64.wrap (b0_1 + 1)) b0_2)
 else
  bif r0_x3 == 4 then
   rec (.h1_83 21 [] r2_x3 r3_x3 (strB []) (strB []) r4_x3 rb00_x3 (IntKind.i64.wrap (b0_1 + 1)) b0_2)
  else
   bif r0_x3 == 5 then
    rec (.h2_83 23 [] 0 0 r1_x3 (strB []) r4_x3 rb00_x3 (IntKind.i64.wrap (b0_1 + 1)) b0_2)
   else
    bif r0_x3 == 2 then
     (g85 k rb00_x3 b0_1 b0_2).bind fun v_x8 =>
     altC v_x8 (fun v_x10 => 
       tup4 v_x10 fun ri00_x11 ri01_x11 rb00_x11 rb01_x11 =>
       some (.inr (.inr (.inr (.inr (.inr (.inr (.inr (.inl (.inl (ri00_x11, ri01_x11, rb00_x11, rb01_x11, b0_2))))))))))) (fun v_x10 => 
       tup4 v_x10 fun r00_x11 r10_x11 rb00_x11 rb01_x11 =>
       rec (.h3_83 24 [] 0 0 r00_x11 r10_x11 r4_x3 rb00_x11 rb01_x11 b0_2))
    else
     bif r0_x3 == 6 then
      bif r1_x3.toList == (strB [40]).toList then
       (g52 k rb00_x3 b0_1 b0_2).bind fun v_x10 =>
       altC v_x10 (fun v_x12 => 
         tup5 v_x12 fun ri00_x13 ri01_x13 rb00_x13 rb01_x13 rb02_x13 =>
         some (.inr (.inr (.inr (.inr (.inr (.inr (.inr (.inl (.inl (ri00_x13, ri01_x13, rb00_x13, rb01_x13, rb02_x13))))))))))) (fun v_x12 => 
         tup4 v_x12 fun r_x13 rb00_x13 rb01_x13 rb02_x13 =>
         (sel22 (rec (.e_22 rb00_x13 rb01_x13 rb02_x13))).bind fun v_x14 =>
         altC v_x14 (fun v_x16 => 
           tup5 v_x16 fun ri00_x17 ri01_x17 rb00_x17 rb01_x17 rb02_x17 =>
           some (.inr (.inr (.inr (.inr (.inr (.inr (.inr (.inl (.inl (ri00_x17, ri01_x17, rb00_x17, rb01_x17, rb02_x17))))))))))) (fun v_x16 => 
           tup10 v_x16 fun r0_x17 r1_x17 r2_x17 r3_x17 r4_x17 r5_x17 r6_x17 rb00_x17 rb01_x17 rb02_x17 =>
           (g86 k (strB [41]) rb00_x17 rb01_x17 rb02_x17).bind fun v_x18 =>
           altC v_x18 (fun v_x20 => 
             tup4 v_x20 fun ri00_x21 ri01_x21 rb00_x21 rb01_x21 =>
             some (.inr (.inr (.inr (.inr (.inr (.inr (.inr (.inl (.inl (ri00_x21, ri01_x21, rb00_x21, rb01_x21, rb02_x17))))))))))) (fun v_x20 => 
             tup2 v_x20 fun rb00_x21 rb01_x21 =>
             rec (.h4_83 r0_x17 r1_x17 r2_x17 r3_x17 r4_x17 r5_x17 r6_x17 rb00_x21 rb01_x21 (IntKind.i64.wrap (rb02_x17 - 1))))))
      else
       rec (.h5_83 r0_x3 r1_x3 r2_x3 r3_x3 r4_x3 0 0 0 (strB []) (strB []) 0 rb00_x3 b0_1 b0_2)
     else
      bif r0_x3 == 1 then
       (sel87 (rec (.e_87 r0_x3 r1_x3 r2_x3 r3_x3 r4_x3 rb00_x3 b0_1 b0_2))).bind fun v_x10 =>
       altC v_x10 (fun v_x12 => 
         tup5 v_x12 fun ri00_x13 ri01_x13 rb00_x13 rb01_x13 rb02_x13 =>
         some (.inr (.inr (.inr (.inr (.inr (.inr (.inr (.inl (.inl (ri00_x13, ri01_x13, rb00_x13, rb01_x13, rb02_x13))))))))))) (fun v_x12 => 
         tup10 v_x12 fun r0_x13 r1_x13 r2_x13 r3_x13 r4_x13 r5_x13 r6_x13 rb00_x13 rb01_x13 rb02_x13 =>
         rec (.h6_83 r0_x13 r1_x13 r2_x13 r3_x13 r4_x13 r5_x13 r6_x13 rb00_x13 rb01_x13 rb02_x13))
      else
       rec (.h5_83 r0_x3 r1_x3 r2_x3 r3_x3 r4_x3 0 0 0 (strB []) (strB []) 0 rb00_x3 b0_1 b0_2)
noncomputable def t83_h0 (k : Nat) (rec : S22 → Option R22) (l2_0 : Int) (l2_1 : Rs) (l2_2 l2_3 : Int) (l2_4 l2_5 : ByteArray) (l2_6 : Int) (p0_0 : Rs) (p0_1 p0_2 : Int) : Option R22 :=
 some (.inr (.inr (.inr (.inr (.inr (.inr (.inr (.inl (.inr (.inl (l2_0, l2_1, l2_2, l2_3, l2_4, l2_5, l2_6, p0_0, p0_1, p0_2)))))))))))
noncomputable def t83_h1 (k : Nat) (rec : S22 → Option R22) (l2_0 : Int) (l2_1 : Rs) (l2_2 l2_3 : Int) (l2_4 l2_5 : ByteArray) (l2_6 : Int) (p0_0 : Rs) (p0_1 p0_2 : Int) : Option R22 :=
 some (.inr (.inr (.inr (.inr (.inr (.inr (.inr (.inl (.inr (.inl (l2_0, l2_1, l2_2, l2_3, l2_4, l2_5, l2_6, p0_0, p0_1, p0_2)))))))))))
noncomputable def t83_h2 (k : Nat) (rec : S22 → Option R22) (l2_0 : Int) (l2_1 : Rs) (l2_2 l2_3 : Int) (l2_4 l2_5 : ByteArray) (l2_6 : Int) (p0_0 : Rs) (p0_1 p0_2 : Int) : Option R22 :=
 some (.inr (.inr (.inr (.inr (.inr (.inr (.inr (.inl (.inr (.inl (l2_0, l2_1, l2_2, l2_3, l2_4, l2_5, l2_6, p0_0, p0_1, p0_2)))))))))))
noncomputable def t83_h3 (k : Nat) (rec : S22 → Option R22) (l2_0 : Int) (l2_1 : Rs) (l2_2 l2_3 : Int) (l2_4 l2_5 : ByteArray) (l2_6 : Int) (p0_0 : Rs) (p0_1 p0_2 : Int) : Option R22 :=
 some (.inr (.inr (.inr (.inr (.inr (.inr (.inr (.inl (.inr (.inl (l2_0, l2_1, l2_2, l2_3, l2_4, l2_5, l2_6, p0_0, p0_1, p0_2)))))))))))
noncomputable def t83_h4 (k : Nat) (rec : S22 → Option R22) (l2_0 : Int) (l2_1 : Rs) (l2_2 l2_3 : Int) (l2_4 l2_5 : ByteArray) (l2_6 : Int) (p0_0 : Rs) (p0_1 p0_2 : Int) : Option R22 :=
 some (.inr (.inr (.inr (.inr (.inr (.inr (.inr (.inl (.inr (.inl (l2_0, l2_1, l2_2, l2_3, l2_4, l2_5, l2_6, p0_0, p0_1, p0_2)))))))))))
noncomputable def t83_h5 (k : Nat) (rec : S22 → Option R22) (l3_0 : Int) (l3_1 : ByteArray) (l3_2 l3_3 l3_4 l2_0 l2_2 l2_3 : Int) (l2_4 l2_5 : ByteArray) (l2_6 : Int) (p0_0 : Rs) (p0_1 p0_2 : Int) : Option R22 :=
 some (.inr (.inr (.inr (.inr (.inr (.inr (.inr (.inl (.inl (l3_4, 13, p0_0, p0_1, p0_2))))))))))
noncomputable def t83_h6 (k : Nat) (rec : S22 → Option R22) (l2_0 : Int) (l2_1 : Rs) (l2_2 l2_3 : Int) (l2_4 l2_5 : ByteArray) (l2_6 : Int) (p0_0 : Rs) (p0_1 p0_2 : Int) : Option R22 :=
 some (.inr (.inr (.inr (.inr (.inr (.inr (.inr (.inl (.inr (.inr (l2_0, l2_1, l2_2, l2_3, l2_4, l2_5, l2_6, p0_0, p0_1, p0_2)))))))))))
def res87 : R22_87 → ARes
 | (.inl (r_i00, r_i01, r_b0_0, r_b0_1, r_b0_2)) => .panic (.iface 58 (.agg #[.int .i64 r_i00, .int .i64 r_i01]))
 | (.inr (r_0, r_1, r_2, r_3, r_4, r_5, r_6, r_b0_0, r_b0_1, r_b0_2)) => .ret (.ag [ic r_0, .own 7 r_1, ic r_2, ic r_3, sc r_4, sc r_5, ic r_6])
def bx87 : R22_87 → List (List Cell)
 | (.inl (r_i00, r_i01, r_b0_0, r_b0_1, r_b0_2)) => [[.imm r_b0_0, ic r_b0_1, ic r_b0_2]]
 | (.inr (r_0, r_1, r_2, r_3, r_4, r_5, r_6, r_b0_0, r_b0_1, r_b0_2)) => [[.imm r_b0_0, ic r_b0_1, ic r_b0_2]]
def rs87 : R22 → ARes
 | (.inr (.inr (.inr (.inr (.inr (.inr (.inr (.inr (.inl x))))))))) => res87 x
 | _ => .panic .nilIface
def bs87 : R22 → List (List Cell)
 | (.inr (.inr (.inr (.inr (.inr (.inr (.inr (.inr (.inl x))))))))) => bx87 x
 | _ => []
noncomputable def t87_e (k : Nat) (rec : S22 → Option R22) (t1_0 : Int) (t1_1 : ByteArray) (t1_2 t1_3 t1_4 : Int) (b0_0 : Rs) (b0_1 b0_2 : Int) : Option R22 :=
 bif t1_1.toList == (strB [84, 82, 85, 69]).toList then
  rec (.h0_87 t1_1 true 0 0 0 (strB []) (strB []) 0 t1_0 t1_1 t1_2 t1_3 t1_4 b0_0 b0_1 b0_2)
 else
  rec (.h0_87 t1_1 (t1_1.toList == (strB [70, 65, 76, 83, 69]).toList) 0 0 0 (strB []) (strB []) 0 t1_0 t1_1 t1_2 t1_3 t1_4 b0_0 b0_1 b0_2)
noncomputable def t87_h0 (k : Nat) (rec : S22 → Option R22) (t9 : ByteArray) (t10 : Bool) (l4_0 l4_2 l4_3 : Int) (l4_4 l4_5 : ByteArray) (l4_6 l3_0 : Int) (l3_1 : ByteArray) (l3_2 l3_3 l3_4 : Int) (p0_0 : Rs) (p0_1 p0_2 : Int) : Option R22 :=
 bif t10 then
  bif l3_1.toList == (strB [84, 82, 85, 69]).toList then
   rec (.h1_87 1 l4_0 l4_2 l4_3 l4_4 l4_5 l4_6 l3_0 l3_1 l3_2 l3_3 l3_4 p0_0 (IntKind.i64.wrap (p0_1 + 1)) p0_2)
  else
   rec (.h1_87 0 l4_0 l4_2 l4_3 l4_4 l4_5 l4_6 l3_0 l3_1 l3_2 l3_3 l3_4 p0_0 (IntKind.i64.wrap (p0_1 + 1)) p0_2)
 else
  bif t9.toList == (strB [82, 69, 65, 76]).toList then
   rec (.h2_87 true l4_0 l4_2 l4_3 l4_4 l4_5 l4_6 l3_0 l3_1 l3_2 l3_3 l3_4 p0_0 p0_1 p0_2)
  else
   rec (.h2_87 (t9.toList == (strB [73, 83, 78, 65, 78]).toList) l4_0 l4_2 l4_3 l4_4 l4_5 l4_6 l3_0 l3_1 l3_2 l3_3 l3_4 p0_0 p0_1 p0_2)
noncomputable def t87_h1 (k : Nat) (rec : S22 → Option R22) (n5 l4_0 l4_2 l4_3 : Int) (l4_4 l4_5 : ByteArray) (l4_6 l3_0 : Int) (l3_1 : ByteArray) (l3_2 l3_3 l3_4 : Int) (p0_0 : Rs) (p0_1 p0_2 : Int) : Option R22 :=
 rec (.h3_87 22 [] n5 0 (strB []) (strB []) l3_4 p0_0 p0_1 p0_2)
noncomputable def t87_h2 (k : Nat) (rec : S22 → Option R22) (t27 : Bool) (l4_0 l4_2 l4_3 : Int) (l4_4 l4_5 : ByteArray) (l4_6 l3_0 : Int) (l3_1 : ByteArray) (l3_2 l3_3 l3_4 : Int) (p0_0 : Rs) (p0_1 p0_2 : Int) : Option R22 :=
 bif t27 then
  (g52 k p0_0 p0_1 p0_2).bind fun v_x1 =>
  altC v_x1 (fun v_x3 => 
    tup5 v_x3 fun ri00_x4 ri01_x4 rb00_x4 rb01_x4 rb02_x4 =>
    some (.inr (.inr (.inr (.inr (.inr (.inr (.inr (.inr (.inl (.inl (ri00_x4, ri01_x4, rb00_x4, rb01_x4, rb02_x4)))))))))))) (fun v_x3 => 
    tup4 v_x3 fun r_x4 rb00_x4 rb01_x4 rb02_x4 =>
    (g86 k (strB [40]) rb00_x4 rb01_x4 rb02_x4).bind fun v_x5 =>
    altC v_x5 (fun v_x7 => 
      tup4 v_x7 fun ri00_x8 ri01_x8 rb00_x8 rb01_x8 =>
      some (.inr (.inr (.inr (.inr (.inr (.inr (.inr (.inr (.inl (.inl (ri00_x8, ri01_x8, rb00_x8, rb01_x8, rb02_x4)))))))))))) (fun v_x7 => 
      tup2 v_x7 fun rb00_x8 rb01_x8 =>
      (sel22 (rec (.e_22 rb00_x8 rb01_x8 rb02_x4))).bind fun v_x9 =>
      altC v_x9 (fun v_x11 => 
        tup5 v_x11 fun ri00_x12 ri01_x12 rb00_x12 rb01_x12 rb02_x12 =>
        some (.inr (.inr (.inr (.inr (.inr (.inr (.inr (.inr (.inl (.inl (ri00_x12, ri01_x12, rb00_x12, rb01_x12, rb02_x12)))))))))))) (fun v_x11 => 
        tup10 v_x11 fun r0_x12 r1_x12 r2_x12 r3_x12 r4_x12 r5_x12 r6_x12 rb00_x12 rb01_x12 rb02_x12 =>
        (g86 k (strB [41]) rb00_x12 rb01_x12 rb02_x12).bind fun v_x13 =>
        altC v_x13 (fun v_x15 => 
          tup4 v_x15 fun ri00_x16 ri01_x16 rb00_x16 rb01_x16 =>
          some (.inr (.inr (.inr (.inr (.inr (.inr (.inr (.inr (.inl (.inl (ri00_x16, ri01_x16, rb00_x16, rb01_x16, rb02_x12)))))))))))) (fun v_x15 => 
          tup2 v_x15 fun rb00_x16 rb01_x16 =>
          bif l3_1.toList == (strB [73, 83, 78, 65, 78]).toList then
           rec (.h4_87 17 [[ic r0_x12, .imm r1_x12, ic r2_x12, ic r3_x12, sc r4_x12, sc r5_x12, ic r6_x12]] 0 0 (strB []) (strB []) l3_4 rb00_x16 rb01_x16 (IntKind.i64.wrap (rb02_x12 - 1)))
          else
           rec (.h4_87 16 [[ic r0_x12, .imm r1_x12, ic r2_x12, ic r3_x12, sc r4_x12, sc r5_x12, ic r6_x12]] 0 0 (strB []) (strB []) l3_4 rb00_x16 rb01_x16 (IntKind.i64.wrap (rb02_x12 - 1)))))))
 else
  (g91 k l3_0 l3_1 l3_2 l3_3 l3_4 p0_0 p0_1 p0_2).bind fun v_x1 =>
  altC v_x1 (fun v_x3 => 
    tup4 v_x3 fun ri00_x4 ri01_x4 rb00_x4 rb01_x4 =>
    some (.inr (.inr (.inr (.inr (.inr (.inr (.inr (.inr (.inl (.inl (ri00_x4, ri01_x4, rb00_x4, rb01_x4, p0_2)))))))))))) (fun v_x3 => 
    tup8 v_x3 fun r0_x4 r2_x4 r3_x4 r4_x4 r5_x4 r6_x4 rb00_x4 rb01_x4 =>
    rec (.h5_87 r0_x4 [] r2_x4 r3_x4 r4_x4 r5_x4 r6_x4 rb00_x4 rb01_x4 p0_2))
noncomputable def t87_h3 (k : Nat) (rec : S22 → Option R22) (l4_0 : Int) (l4_1 : Rs) (l4_2 l4_3 : Int) (l4_4 l4_5 : ByteArray) (l4_6 : Int) (p0_0 : Rs) (p0_1 p0_2 : Int) : Option R22 :=
 some (.inr (.inr (.inr (.inr (.inr (.inr (.inr (.inr (.inl (.inr (l4_0, l4_1, l4_2, l4_3, l4_4, l4_5, l4_6, p0_0, p0_1, p0_2)))))))))))
noncomputable def t87_h4 (k : Nat) (rec : S22 → Option R22) (l4_0 : Int) (l4_1 : Rs) (l4_2 l4_3 : Int) (l4_4 l4_5 : ByteArray) (l4_6 : Int) (p0_0 : Rs) (p0_1 p0_2 : Int) : Option R22 :=
 some (.inr (.inr (.inr (.inr (.inr (.inr (.inr (.inr (.inl (.inr (l4_0, l4_1, l4_2, l4_3, l4_4, l4_5, l4_6, p0_0, p0_1, p0_2)))))))))))
noncomputable def t87_h5 (k : Nat) (rec : S22 → Option R22) (l4_0 : Int) (l4_1 : Rs) (l4_2 l4_3 : Int) (l4_4 l4_5 : ByteArray) (l4_6 : Int) (p0_0 : Rs) (p0_1 p0_2 : Int) : Option R22 :=
 some (.inr (.inr (.inr (.inr (.inr (.inr (.inr (.inr (.inl (.inr (l4_0, l4_1, l4_2, l4_3, l4_4, l4_5, l4_6, p0_0, p0_1, p0_2)))))))))))
def res38 : R22_38 → ARes
 | (r_0, r_1, r_2, r_3, r_4, r_5, r_6, r_b0_0, r_b0_1, r_b0_2) => .ret (.ag [ic r_0, .own 7 r_1, ic r_2, ic r_3, sc r_4, sc r_5, ic r_6])
def bx38 : R22_38 → List (List Cell)
 | (r_0, r_1, r_2, r_3, r_4, r_5, r_6, r_b0_0, r_b0_1, r_b0_2) => [[.imm r_b0_0, ic r_b0_1, ic r_b0_2]]
def rs38 : R22 → ARes
 | (.inr (.inr (.inr (.inr (.inr (.inr (.inr (.inr (.inr (.inl x)))))))))) => res38 x
 | _ => .panic .nilIface
def bs38 : R22 → List (List Cell)
 | (.inr (.inr (.inr (.inr (.inr (.inr (.inr (.inr (.inr (.inl x)))))))))) => bx38 x
 | _ => []
noncomputable def t38_e (k : Nat) (rec : S22 → Option R22) (op1 x2_0 : Int) (x2_1 : Rs) (x2_2 x2_3 : Int) (x2_4 x2_5 : ByteArray) (x2_6 : Int) (b0_0 : Rs) (b0_1 b0_2 : Int) : Option R22 :=
 (g46 k b0_0 b0_1 b0_2).bind fun v_x1 =>
 tup6 v_x1 fun r0_x3 r1_x3 r2_x3 r3_x3 r4_x3 rb00_x3 =>
 (sel78 (rec (.e_78 rb00_x3 (IntKind.i64.wrap (b0_1 + 1)) b0_2))).bind fun v_x4 =>
 altC v_x4 (fun v_x6 => 
   tup5 v_x6 fun ri00_x7 ri01_x7 rb00_x7 rb01_x7 rb02_x7 =>
   none   /- a panic in a drawn region -/) (fun v_x4_0 => altC v_x4_0 (fun v_x6 => 
   tup10 v_x6 fun r0_x7 r1_x7 r2_x7 r3_x7 r4_x7 r5_x7 r6_x7 rb00_x7 rb01_x7 rb02_x7 =>
   some (.inr (.inr (.inr (.inr (.inr (.inr (.inr (.inr (.inr (.inl (op1, [[ic x2_0, .imm x2_1, ic x2_2, ic x2_3, sc x2_4, sc x2_5, ic x2_6], [ic r0_x7, .own 7 r1_x7, ic r2_x7, ic r3_x7, sc r4_x7, sc r5_x7, ic r6_x7]], 0, 0, strB [], strB [], r4_x3, rb00_x7, rb01_x7, rb02_x7)))))))))))) (fun v_x6 => 
   tup10 v_x6 fun r0_x7 r1_x7 r2_x7 r3_x7 r4_x7 r5_x7 r6_x7 rb00_x7 rb01_x7 rb02_x7 =>
   some (.inr (.inr (.inr (.inr (.inr (.inr (.inr (.inr (.inr (.inl (op1, [[ic x2_0, .imm x2_1, ic x2_2, ic x2_3, sc x2_4, sc x2_5, ic x2_6], [ic r0_x7, .imm r1_x7, ic r2_x7, ic r3_x7, sc r4_x7, sc r5_x7, ic r6_x7]], 0, 0, strB [], strB [], r4_x3, rb00_x7, rb01_x7, rb02_x7)))))))))))))
def res38b : R22_38b → ARes
 | (r_0, r_1, r_2, r_3, r_4, r_5, r_6, r_b0_0, r_b0_1, r_b0_2) => .ret (.ag [ic r_0, .own 7 r_1, ic r_2, ic r_3, sc r_4, sc r_5, ic r_6])
def bx38b : R22_38b → List (List Cell)
 | (r_0, r_1, r_2, r_3, r_4, r_5, r_6, r_b0_0, r_b0_1, r_b0_2) => [[.imm r_b0_0, ic r_b0_1, ic r_b0_2]]
def rs38b : R22 → ARes
 | (.inr (.inr (.inr (.inr (.inr (.inr (.inr (.inr (.inr (.inr (.inl x))))))))))) => res38b x
 | _ => .panic .nilIface
def bs38b : R22 → List (List Cell)
 | (.inr (.inr (.inr (.inr (.inr (.inr (.inr (.inr (.inr (.inr (.inl x))))))))))) => bx38b x
 | _ => []
noncomputable def t38b_e (k : Nat) (rec : S22 → Option R22) (op1 x2_0 : Int) (x2_1 : Rs) (x2_2 x2_3 : Int) (x2_4 x2_5 : ByteArray) (x2_6 : Int) (b0_0 : Rs) (b0_1 b0_2 : Int) : Option R22 :=
 (g46 k b0_0 b0_1 b0_2).bind fun v_x1 =>
 tup6 v_x1 fun r0_x3 r1_x3 r2_x3 r3_x3 r4_x3 rb00_x3 =>
 (sel70 (rec (.e_70 rb00_x3 (IntKind.i64.wrap (b0_1 + 1)) b0_2))).bind fun v_x4 =>
 altC v_x4 (fun v_x6 => 
   tup5 v_x6 fun ri00_x7 ri01_x7 rb00_x7 rb01_x7 rb02_x7 =>
   none   /- a panic in a drawn region -/) (fun v_x6 => 
   tup10 v_x6 fun r0_x7 r1_x7 r2_x7 r3_x7 r4_x7 r5_x7 r6_x7 rb00_x7 rb01_x7 rb02_x7 =>
   some (.inr (.inr (.inr (.inr (.inr (.inr (.inr (.inr (.inr (.inr (.inl (op1, [[ic x2_0, .imm x2_1, ic x2_2, ic x2_3, sc x2_4, sc x2_5, ic x2_6], [ic r0_x7, .imm r1_x7, ic r2_x7, ic r3_x7, sc r4_x7, sc r5_x7, ic r6_x7]], 0, 0, strB [], strB [], r4_x3, rb00_x7, rb01_x7, rb02_x7)))))))))))))
def res38c : R22_38c → ARes
 | (r_0, r_1, r_2, r_3, r_4, r_5, r_6, r_b0_0, r_b0_1, r_b0_2) => .ret (.ag [ic r_0, .own 7 r_1, ic r_2, ic r_3, sc r_4, sc r_5, ic r_6])
def bx38c : R22_38c → List (List Cell)
 | (r_0, r_1, r_2, r_3, r_4, r_5, r_6, r_b0_0, r_b0_1, r_b0_2) => [[.imm r_b0_0, ic r_b0_1, ic r_b0_2]]
def rs38c : R22 → ARes
 | (.inr (.inr (.inr (.inr (.inr (.inr (.inr (.inr (.inr (.inr (.inr (.inl x)))))))))))) => res38c x
 | _ => .panic .nilIface
def bs38c : R22 → List (List Cell)
 | (.inr (.inr (.inr (.inr (.inr (.inr (.inr (.inr (.inr (.inr (.inr (.inl x)))))))))))) => bx38c x
 | _ => []
noncomputable def t38c_e (k : Nat) (rec : S22 → Option R22) (op1 x2_0 : Int) (x2_1 : Rs) (x2_2 x2_3 : Int) (x2_4 x2_5 : ByteArray) (x2_6 : Int) (b0_0 : Rs) (b0_1 b0_2 : Int) : Option R22 :=
 (g46 k b0_0 b0_1 b0_2).bind fun v_x1 =>
 tup6 v_x1 fun r0_x3 r1_x3 r2_x3 r3_x3 r4_x3 rb00_x3 =>
 (sel59 (rec (.e_59 rb00_x3 (IntKind.i64.wrap (b0_1 + 1)) b0_2))).bind fun v_x4 =>
 altC v_x4 (fun v_x6 => 
   tup5 v_x6 fun ri00_x7 ri01_x7 rb00_x7 rb01_x7 rb02_x7 =>
   none   /- a panic in a drawn region -/) (fun v_x6 => 
   tup10 v_x6 fun r0_x7 r1_x7 r2_x7 r3_x7 r4_x7 r5_x7 r6_x7 rb00_x7 rb01_x7 rb02_x7 =>
   some (.inr (.inr (.inr (.inr (.inr (.inr (.inr (.inr (.inr (.inr (.inr (.inl (op1, [[ic x2_0, .imm x2_1, ic x2_2, ic x2_3, sc x2_4, sc x2_5, ic x2_6], [ic r0_x7, .imm r1_x7, ic r2_x7, ic r3_x7, sc r4_x7, sc r5_x7, ic r6_x7]], 0, 0, strB [], strB [], r4_x3, rb00_x7, rb01_x7, rb02_x7))))))))))))))
def res38d : R22_38d → ARes
 | (r_0, r_1, r_2, r_3, r_4, r_5, r_6, r_b0_0, r_b0_1, r_b0_2) => .ret (.ag [ic r_0, .own 7 r_1, ic r_2, ic r_3, sc r_4, sc r_5, ic r_6])
def bx38d : R22_38d → List (List Cell)
 | (r_0, r_1, r_2, r_3, r_4, r_5, r_6, r_b0_0, r_b0_1, r_b0_2) => [[.imm r_b0_0, ic r_b0_1, ic r_b0_2]]
def rs38d : R22 → ARes
 | (.inr (.inr (.inr (.inr (.inr (.inr (.inr (.inr (.inr (.inr (.inr (.inr (.inl x))))))))))))) => res38d x
 | _ => .panic .nilIface
def bs38d : R22 → List (List Cell)
 | (.inr (.inr (.inr (.inr (.inr (.inr (.inr (.inr (.inr (.inr (.inr (.inr (.inl x))))))))))))) => bx38d x
 | _ => []
noncomputable def t38d_e (k : Nat) (rec : S22 → Option R22) (op1 x2_0 : Int) (x2_1 : Rs) (x2_2 x2_3 : Int) (x2_4 x2_5 : ByteArray) (x2_6 : Int) (b0_0 : Rs) (b0_1 b0_2 : Int) : Option R22 :=
 (g46 k b0_0 b0_1 b0_2).bind fun v_x1 =>
 tup6 v_x1 fun r0_x3 r1_x3 r2_x3 r3_x3 r4_x3 rb00_x3 =>
 (sel45 (rec (.e_45 rb00_x3 (IntKind.i64.wrap (b0_1 + 1)) b0_2))).bind fun v_x4 =>
 altC v_x4 (fun v_x6 => 
   tup5 v_x6 fun ri00_x7 ri01_x7 rb00_x7 rb01_x7 rb02_x7 =>
   none   /- a panic in a drawn region -/) (fun v_x4_0 => altC v_x4_0 (fun v_x6 => 
   tup10 v_x6 fun r0_x7 r1_x7 r2_x7 r3_x7 r4_x7 r5_x7 r6_x7 rb00_x7 rb01_x7 rb02_x7 =>
   some (.inr (.inr (.inr (.inr (.inr (.inr (.inr (.inr (.inr (.inr (.inr (.inr (.inl (op1, [[ic x2_0, .imm x2_1, ic x2_2, ic x2_3, sc x2_4, sc x2_5, ic x2_6], [ic r0_x7, .imm r1_x7, ic r2_x7, ic r3_x7, sc r4_x7, sc r5_x7, ic r6_x7]], 0, 0, strB [], strB [], r4_x3, rb00_x7, rb01_x7, rb02_x7))))))))))))))) (fun v_x6 => 
   tup10 v_x6 fun r0_x7 r1_x7 r2_x7 r3_x7 r4_x7 r5_x7 r6_x7 rb00_x7 rb01_x7 rb02_x7 =>
   some (.inr (.inr (.inr (.inr (.inr (.inr (.inr (.inr (.inr (.inr (.inr (.inr (.inl (op1, [[ic x2_0, .imm x2_1, ic x2_2, ic x2_3, sc x2_4, sc x2_5, ic x2_6], [ic r0_x7, .own 7 r1_x7, ic r2_x7, ic r3_x7, sc r4_x7, sc r5_x7, ic r6_x7]], 0, 0, strB [], strB [], r4_x3, rb00_x7, rb01_x7, rb02_x7))))))))))))))))
def res38e : R22_38e → ARes
 | (r_0, r_1, r_2, r_3, r_4, r_5, r_6, r_b0_0, r_b0_1, r_b0_2) => .ret (.ag [ic r_0, .own 7 r_1, ic r_2, ic r_3, sc r_4, sc r_5, ic r_6])
def bx38e : R22_38e → List (List Cell)
 | (r_0, r_1, r_2, r_3, r_4, r_5, r_6, r_b0_0, r_b0_1, r_b0_2) => [[.imm r_b0_0, ic r_b0_1, ic r_b0_2]]
def rs38e : R22 → ARes
 | (.inr (.inr (.inr (.inr (.inr (.inr (.inr (.inr (.inr (.inr (.inr (.inr (.inr x))))))))))))) => res38e x
 | _ => .panic .nilIface
def bs38e : R22 → List (List Cell)
 | (.inr (.inr (.inr (.inr (.inr (.inr (.inr (.inr (.inr (.inr (.inr (.inr (.inr x))))))))))))) => bx38e x
 | _ => []
noncomputable def t38e_e (k : Nat) (rec : S22 → Option R22) (op1 x2_0 : Int) (x2_1 : Rs) (x2_2 x2_3 : Int) (x2_4 x2_5 : ByteArray) (x2_6 : Int) (b0_0 : Rs) (b0_1 b0_2 : Int) : Option R22 :=
 (g46 k b0_0 b0_1 b0_2).bind fun v_x1 =>
 tup6 v_x1 fun r0_x3 r1_x3 r2_x3 r3_x3 r4_x3 rb00_x3 =>
 (sel36 (rec (.e_36 rb00_x3 (IntKind.i64.wrap (b0_1 + 1)) b0_2))).bind fun v_x4 =>
 altC v_x4 (fun v_x6 => 
   tup5 v_x6 fun ri00_x7 ri01_x7 rb00_x7 rb01_x7 rb02_x7 =>
   none   /- a panic in a drawn region -/) (fun v_x6 => 
   tup10 v_x6 fun r0_x7 r1_x7 r2_x7 r3_x7 r4_x7 r5_x7 r6_x7 rb00_x7 rb01_x7 rb02_x7 =>
   some (.inr (.inr (.inr (.inr (.inr (.inr (.inr (.inr (.inr (.inr (.inr (.inr (.inr (op1, [[ic x2_0, .imm x2_1, ic x2_2, ic x2_3, sc x2_4, sc x2_5, ic x2_6], [ic r0_x7, .imm r1_x7, ic r2_x7, ic r3_x7, sc r4_x7, sc r5_x7, ic r6_x7]], 0, 0, strB [], strB [], r4_x3, rb00_x7, rb01_x7, rb02_x7)))))))))))))))
noncomputable def step22 (k : Nat) (rec : S22 → Option R22) : S22 → Option R22
 | .e_22 b0_0 b0_1 b0_2 => t22_e k rec b0_0 b0_1 b0_2
 | .h0_22 l3_0 l3_1 l3_2 l3_3 l3_4 l3_5 l3_6 l2_0 l2_2 l2_3 l2_4 l2_5 l2_6 p0_0 p0_1 p0_2 => t22_h0 k rec l3_0 l3_1 l3_2 l3_3 l3_4 l3_5 l3_6 l2_0 l2_2 l2_3 l2_4 l2_5 l2_6 p0_0 p0_1 p0_2
 | .h1_22 l3_0 l3_1 l3_2 l3_3 l3_4 l3_5 l3_6 l2_0 l2_2 l2_3 l2_4 l2_5 l2_6 p0_0 p0_1 p0_2 => t22_h1 k rec l3_0 l3_1 l3_2 l3_3 l3_4 l3_5 l3_6 l2_0 l2_2 l2_3 l2_4 l2_5 l2_6 p0_0 p0_1 p0_2
 | .e_36 b0_0 b0_1 b0_2 => t36_e k rec b0_0 b0_1 b0_2
 | .h0_36 l3_0 l3_1 l3_2 l3_3 l3_4 l3_5 l3_6 l2_0 l2_2 l2_3 l2_4 l2_5 l2_6 p0_0 p0_1 p0_2 => t36_h0 k rec l3_0 l3_1 l3_2 l3_3 l3_4 l3_5 l3_6 l2_0 l2_2 l2_3 l2_4 l2_5 l2_6 p0_0 p0_1 p0_2
 | .h1_36 l3_0 l3_1 l3_2 l3_3 l3_4 l3_5 l3_6 l2_0 l2_2 l2_3 l2_4 l2_5 l2_6 p0_0 p0_1 p0_2 => t36_h1 k rec l3_0 l3_1 l3_2 l3_3 l3_4 l3_5 l3_6 l2_0 l2_2 l2_3 l2_4 l2_5 l2_6 p0_0 p0_1 p0_2
 | .e_45 b0_0 b0_1 b0_2 => t45_e k rec b0_0 b0_1 b0_2
 | .e_51 b0_0 b0_1 b0_2 => t51_e k rec b0_0 b0_1 b0_2
 | .e_59 b0_0 b0_1 b0_2 => t59_e k rec b0_0 b0_1 b0_2
 | .h0_59 l3_0 l3_1 l3_2 l3_3 l3_4 l3_5 l3_6 l2_0 l2_2 l2_3 l2_4 l2_5 l2_6 p0_0 p0_1 p0_2 => t59_h0 k rec l3_0 l3_1 l3_2 l3_3 l3_4 l3_5 l3_6 l2_0 l2_2 l2_3 l2_4 l2_5 l2_6 p0_0 p0_1 p0_2
 | .h1_59 l3_0 l3_1 l3_2 l3_3 l3_4 l3_5 l3_6 l2_0 l2_2 l2_3 l2_4 l2_5 l2_6 p0_0 p0_1 p0_2 => t59_h1 k rec l3_0 l3_1 l3_2 l3_3 l3_4 l3_5 l3_6 l2_0 l2_2 l2_3 l2_4 l2_5 l2_6 p0_0 p0_1 p0_2
 | .e_70 b0_0 b0_1 b0_2 => t70_e k rec b0_0 b0_1 b0_2
 | .h0_70 l3_0 l3_1 l3_2 l3_3 l3_4 l3_5 l3_6 l2_0 l2_2 l2_3 l2_4 l2_5 l2_6 p0_0 p0_1 p0_2 => t70_h0 k rec l3_0 l3_1 l3_2 l3_3 l3_4 l3_5 l3_6 l2_0 l2_2 l2_3 l2_4 l2_5 l2_6 p0_0 p0_1 p0_2
 | .h1_70 l3_0 l3_1 l3_2 l3_3 l3_4 l3_5 l3_6 l2_0 l2_2 l2_3 l2_4 l2_5 l2_6 p0_0 p0_1 p0_2 => t70_h1 k rec l3_0 l3_1 l3_2 l3_3 l3_4 l3_5 l3_6 l2_0 l2_2 l2_3 l2_4 l2_5 l2_6 p0_0 p0_1 p0_2
 | .e_78 b0_0 b0_1 b0_2 => t78_e k rec b0_0 b0_1 b0_2
 | .h0_78 l2_0 l2_1 l2_2 l2_3 l2_4 l2_5 l2_6 p0_0 p0_1 p0_2 => t78_h0 k rec l2_0 l2_1 l2_2 l2_3 l2_4 l2_5 l2_6 p0_0 p0_1 p0_2
 | .h1_78 l2_0 l2_1 l2_2 l2_3 l2_4 l2_5 l2_6 p0_0 p0_1 p0_2 => t78_h1 k rec l2_0 l2_1 l2_2 l2_3 l2_4 l2_5 l2_6 p0_0 p0_1 p0_2
 | .h2_78 l2_0 l2_1 l2_2 l2_3 l2_4 l2_5 l2_6 p0_0 p0_1 p0_2 => t78_h2 k rec l2_0 l2_1 l2_2 l2_3 l2_4 l2_5 l2_6 p0_0 p0_1 p0_2
 | .e_83 b0_0 b0_1 b0_2 => t83_e k rec b0_0 b0_1 b0_2
 | .h0_83 l2_0 l2_1 l2_2 l2_3 l2_4 l2_5 l2_6 p0_0 p0_1 p0_2 => t83_h0 k rec l2_0 l2_1 l2_2 l2_3 l2_4 l2_5 l2_6 p0_0 p0_1 p0_2
 | .h1_83 l2_0 l2_1 l2_2 l2_3 l2_4 l2_5 l2_6 p0_0 p0_1 p0_2 => t83_h1 k rec l2_0 l2_1 l2_2 l2_3 l2_4 l2_5 l2_6 p0_0 p0_1 p0_2
 | .h2_83 l2_0 l2_1 l2_2 l2_3 l2_4 l2_5 l2_6 p0_0 p0_1 p0_2 => t83_h2 k rec l2_0 l2_1 l2_2 l2_3 l2_4 l2_5 l2_6 p0_0 p0_1 p0_2
 | .h3_83 l2_0 l2_1 l2_2 l2_3 l2_4 l2_5 l2_6 p0_0 p0_1 p0_2 => t83_h3 k rec l2_0 l2_1 l2_2 l2_3 l2_4 l2_5 l2_6 p0_0 p0_1 p0_2
 | .h4_83 l2_0 l2_1 l2_2 l2_3 l2_4 l2_5 l2_6 p0_0 p0_1 p0_2 => t83_h4 k rec l2_0 l2_1 l2_2 l2_3 l2_4 l2_5 l2_6 p0_0 p0_1 p0_2
 | .h5_83 l3_0 l3_1 l3_2 l3_3 l3_4 l2_0 l2_2 l2_3 l2_4 l2_5 l2_6 p0_0 p0_1 p0_2 => t83_h5 k rec l3_0 l3_1 l3_2 l3_3 l3_4 l2_0 l2_2 l2_3 l2_4 l2_5 l2_6 p0_0 p0_1 p0_2
 | .h6_83 l2_0 l2_1 l2_2 l2_3 l2_4 l2_5 l2_6 p0_0 p0_1 p0_2 => t83_h6 k rec l2_0 l2_1 l2_2 l2_3 l2_4 l2_5 l2_6 p0_0 p0_1 p0_2
 | .e_87 t1_0 t1_1 t1_2 t1_3 t1_4 b0_0 b0_1 b0_2 => t87_e k rec t1_0 t1_1 t1_2 t1_3 t1_4 b0_0 b0_1 b0_2
 | .h0_87 t9 t10 l4_0 l4_2 l4_3 l4_4 l4_5 l4_6 l3_0 l3_1 l3_2 l3_3 l3_4 p0_0 p0_1 p0_2 => t87_h0 k rec t9 t10 l4_0 l4_2 l4_3 l4_4 l4_5 l4_6 l3_0 l3_1 l3_2 l3_3 l3_4 p0_0 p0_1 p0_2
 | .h1_87 n5 l4_0 l4_2 l4_3 l4_4 l4_5 l4_6 l3_0 l3_1 l3_2 l3_3 l3_4 p0_0 p0_1 p0_2 => t87_h1 k rec n5 l4_0 l4_2 l4_3 l4_4 l4_5 l4_6 l3_0 l3_1 l3_2 l3_3 l3_4 p0_0 p0_1 p0_2
 | .h2_87 t27 l4_0 l4_2 l4_3 l4_4 l4_5 l4_6 l3_0 l3_1 l3_2 l3_3 l3_4 p0_0 p0_1 p0_2 => t87_h2 k rec t27 l4_0 l4_2 l4_3 l4_4 l4_5 l4_6 l3_0 l3_1 l3_2 l3_3 l3_4 p0_0 p0_1 p0_2
 | .h3_87 l4_0 l4_1 l4_2 l4_3 l4_4 l4_5 l4_6 p0_0 p0_1 p0_2 => t87_h3 k rec l4_0 l4_1 l4_2 l4_3 l4_4 l4_5 l4_6 p0_0 p0_1 p0_2
 | .h4_87 l4_0 l4_1 l4_2 l4_3 l4_4 l4_5 l4_6 p0_0 p0_1 p0_2 => t87_h4 k rec l4_0 l4_1 l4_2 l4_3 l4_4 l4_5 l4_6 p0_0 p0_1 p0_2
 | .h5_87 l4_0 l4_1 l4_2 l4_3 l4_4 l4_5 l4_6 p0_0 p0_1 p0_2 => t87_h5 k rec l4_0 l4_1 l4_2 l4_3 l4_4 l4_5 l4_6 p0_0 p0_1 p0_2
 | .e_38 op1 x2_0 x2_1 x2_2 x2_3 x2_4 x2_5 x2_6 b0_0 b0_1 b0_2 => t38_e k rec op1 x2_0 x2_1 x2_2 x2_3 x2_4 x2_5 x2_6 b0_0 b0_1 b0_2
 | .e_38b op1 x2_0 x2_1 x2_2 x2_3 x2_4 x2_5 x2_6 b0_0 b0_1 b0_2 => t38b_e k rec op1 x2_0 x2_1 x2_2 x2_3 x2_4 x2_5 x2_6 b0_0 b0_1 b0_2
 | .e_38c op1 x2_0 x2_1 x2_2 x2_3 x2_4 x2_5 x2_6 b0_0 b0_1 b0_2 => t38c_e k rec op1 x2_0 x2_1 x2_2 x2_3 x2_4 x2_5 x2_6 b0_0 b0_1 b0_2
 | .e_38d op1 x2_0 x2_1 x2_2 x2_3 x2_4 x2_5 x2_6 b0_0 b0_1 b0_2 => t38d_e k rec op1 x2_0 x2_1 x2_2 x2_3 x2_4 x2_5 x2_6 b0_0 b0_1 b0_2
 | .e_38e op1 x2_0 x2_1 x2_2 x2_3 x2_4 x2_5 x2_6 b0_0 b0_1 b0_2 => t38e_e k rec op1 x2_0 x2_1 x2_2 x2_3 x2_4 x2_5 x2_6 b0_0 b0_1 b0_2
noncomputable def g22 (k : Nat) (b0_0 : Rs) (b0_1 b0_2 : Int) : Option R22_22 := sel22 (itS step22 k (.e_22 b0_0 b0_1 b0_2))
noncomputable def P22 : S22 → R22 → Prop
 | .e_22 b0_0 b0_1 b0_2, r => Fin cx22 Tryd.f22 [.code body22] (fr0 Tryd.f22 [pP 0] [[.imm b0_0, ic b0_1, ic b0_2]]) (rs22 r) (bs22 r)
 | .h0_22 l3_0 l3_1 l3_2 l3_3 l3_4 l3_5 l3_6 l2_0 l2_2 l2_3 l2_4 l2_5 l2_6 p0_0 p0_1 p0_2, r => Fin cx22 Tryd.f22 (kAt body22 [1, 1, 0, 0, 4] []) ⟨[pP 0, .deadv, pL 2, pL 3] ++ rep 10 .deadv, [(.loc 3, [ic l3_0, .imm l3_1, ic l3_2, ic l3_3, sc l3_4, sc l3_5, ic l3_6]), (.loc 2, [ic l2_0, .nil, ic l2_2, ic l2_3, sc l2_4, sc l2_5, ic l2_6]), (.par 0, [.imm p0_0, ic p0_1, ic p0_2])]⟩ (rs22 r) (bs22 r)
 | .h1_22 l3_0 l3_1 l3_2 l3_3 l3_4 l3_5 l3_6 l2_0 l2_2 l2_3 l2_4 l2_5 l2_6 p0_0 p0_1 p0_2, r => Fin cx22 Tryd.f22 (kAt body22 [1, 1, 0, 0, 4] []) ⟨[pP 0, .deadv, pL 2, pL 3] ++ rep 10 .deadv, [(.loc 3, [ic l3_0, .own 7 l3_1, ic l3_2, ic l3_3, sc l3_4, sc l3_5, ic l3_6]), (.loc 2, [ic l2_0, .nil, ic l2_2, ic l2_3, sc l2_4, sc l2_5, ic l2_6]), (.par 0, [.imm p0_0, ic p0_1, ic p0_2])]⟩ (rs22 r) (bs22 r)
 | .e_36 b0_0 b0_1 b0_2, r => Fin cx36 Tryd.f36 [.code body36] (fr0 Tryd.f36 [pP 0] [[.imm b0_0, ic b0_1, ic b0_2]]) (rs36 r) (bs36 r)
 | .h0_36 l3_0 l3_1 l3_2 l3_3 l3_4 l3_5 l3_6 l2_0 l2_2 l2_3 l2_4 l2_5 l2_6 p0_0 p0_1 p0_2, r => Fin cx36 Tryd.f36 (kAt body36 [1, 1, 0, 0, 4] []) ⟨[pP 0, .deadv, pL 2, pL 3] ++ rep 10 .deadv, [(.loc 3, [ic l3_0, .imm l3_1, ic l3_2, ic l3_3, sc l3_4, sc l3_5, ic l3_6]), (.loc 2, [ic l2_0, .nil, ic l2_2, ic l2_3, sc l2_4, sc l2_5, ic l2_6]), (.par 0, [.imm p0_0, ic p0_1, ic p0_2])]⟩ (rs36 r) (bs36 r)
 | .h1_36 l3_0 l3_1 l3_2 l3_3 l3_4 l3_5 l3_6 l2_0 l2_2 l2_3 l2_4 l2_5 l2_6 p0_0 p0_1 p0_2, r => Fin cx36 Tryd.f36 (kAt body36 [1, 1, 0, 0, 4] []) ⟨[pP 0, .deadv, pL 2, pL 3] ++ rep 10 .deadv, [(.loc 3, [ic l3_0, .own 7 l3_1, ic l3_2, ic l3_3, sc l3_4, sc l3_5, ic l3_6]), (.loc 2, [ic l2_0, .nil, ic l2_2, ic l2_3, sc l2_4, sc l2_5, ic l2_6]), (.par 0, [.imm p0_0, ic p0_1, ic p0_2])]⟩ (rs36 r) (bs36 r)
 | .e_45 b0_0 b0_1 b0_2, r => Fin cx45 Tryd.f45 [.code body45] (fr0 Tryd.f45 [pP 0] [[.imm b0_0, ic b0_1, ic b0_2]]) (rs45 r) (bs45 r)
 | .e_51 b0_0 b0_1 b0_2, r => Fin cx51 Tryd.f51 [.code body51] (fr0 Tryd.f51 [pP 0] [[.imm b0_0, ic b0_1, ic b0_2]]) (rs51 r) (bs51 r)
 | .e_59 b0_0 b0_1 b0_2, r => Fin cx59 Tryd.f59 [.code body59] (fr0 Tryd.f59 [pP 0] [[.imm b0_0, ic b0_1, ic b0_2]]) (rs59 r) (bs59 r)
 | .h0_59 l3_0 l3_1 l3_2 l3_3 l3_4 l3_5 l3_6 l2_0 l2_2 l2_3 l2_4 l2_5 l2_6 p0_0 p0_1 p0_2, r => Fin cx59 Tryd.f59 (kAt body59 [1, 1, 0, 4] []) ⟨[pP 0, .deadv, pL 2, pL 3] ++ rep 14 .deadv, [(.loc 3, [ic l3_0, .imm l3_1, ic l3_2, ic l3_3, sc l3_4, sc l3_5, ic l3_6]), (.loc 2, [ic l2_0, .nil, ic l2_2, ic l2_3, sc l2_4, sc l2_5, ic l2_6]), (.par 0, [.imm p0_0, ic p0_1, ic p0_2])]⟩ (rs59 r) (bs59 r)
 | .h1_59 l3_0 l3_1 l3_2 l3_3 l3_4 l3_5 l3_6 l2_0 l2_2 l2_3 l2_4 l2_5 l2_6 p0_0 p0_1 p0_2, r => Fin cx59 Tryd.f59 (kAt body59 [1, 1, 0, 4] []) ⟨[pP 0, .deadv, pL 2, pL 3] ++ rep 14 .deadv, [(.loc 3, [ic l3_0, .own 7 l3_1, ic l3_2, ic l3_3, sc l3_4, sc l3_5, ic l3_6]), (.loc 2, [ic l2_0, .nil, ic l2_2, ic l2_3, sc l2_4, sc l2_5, ic l2_6]), (.par 0, [.imm p0_0, ic p0_1, ic p0_2])]⟩ (rs59 r) (bs59 r)
 | .e_70 b0_0 b0_1 b0_2, r => Fin cx70 Tryd.f70 [.code body70] (fr0 Tryd.f70 [pP 0] [[.imm b0_0, ic b0_1, ic b0_2]]) (rs70 r) (bs70 r)
 | .h0_70 l3_0 l3_1 l3_2 l3_3 l3_4 l3_5 l3_6 l2_0 l2_2 l2_3 l2_4 l2_5 l2_6 p0_0 p0_1 p0_2, r => Fin cx70 Tryd.f70 (kAt body70 [1, 1, 0, 4] []) ⟨[pP 0, .deadv, pL 2, pL 3] ++ rep 14 .deadv, [(.loc 3, [ic l3_0, .own 7 l3_1, ic l3_2, ic l3_3, sc l3_4, sc l3_5, ic l3_6]), (.loc 2, [ic l2_0, .nil, ic l2_2, ic l2_3, sc l2_4, sc l2_5, ic l2_6]), (.par 0, [.imm p0_0, ic p0_1, ic p0_2])]⟩ (rs70 r) (bs70 r)
 | .h1_70 l3_0 l3_1 l3_2 l3_3 l3_4 l3_5 l3_6 l2_0 l2_2 l2_3 l2_4 l2_5 l2_6 p0_0 p0_1 p0_2, r => Fin cx70 Tryd.f70 (kAt body70 [1, 1, 0, 4] []) ⟨[pP 0, .deadv, pL 2, pL 3] ++ rep 14 .deadv, [(.loc 3, [ic l3_0, .imm l3_1, ic l3_2, ic l3_3, sc l3_4, sc l3_5, ic l3_6]), (.loc 2, [ic l2_0, .nil, ic l2_2, ic l2_3, sc l2_4, sc l2_5, ic l2_6]), (.par 0, [.imm p0_0, ic p0_1, ic p0_2])]⟩ (rs70 r) (bs70 r)
 | .e_78 b0_0 b0_1 b0_2, r => Fin cx78 Tryd.f78 [.code body78] (fr0 Tryd.f78 [pP 0] [[.imm b0_0, ic b0_1, ic b0_2]]) (rs78 r) (bs78 r)
 | .h0_78 l2_0 l2_1 l2_2 l2_3 l2_4 l2_5 l2_6 p0_0 p0_1 p0_2, r => Fin cx78 Tryd.f78 (kAt body78 [1, 0, 1, 0, 1, 2] []) ⟨[.deadv, .deadv, pL 2] ++ rep 22 .deadv, [(.loc 2, [ic l2_0, .imm l2_1, ic l2_2, ic l2_3, sc l2_4, sc l2_5, ic l2_6]), (.par 0, [.imm p0_0, ic p0_1, ic p0_2])]⟩ (rs78 r) (bs78 r)
 | .h1_78 l2_0 l2_1 l2_2 l2_3 l2_4 l2_5 l2_6 p0_0 p0_1 p0_2, r => Fin cx78 Tryd.f78 (kAt body78 [1, 0, 1, 0, 1, 2] []) ⟨[.deadv, .deadv, pL 2] ++ rep 22 .deadv, [(.loc 2, [ic l2_0, .own 7 l2_1, ic l2_2, ic l2_3, sc l2_4, sc l2_5, ic l2_6]), (.par 0, [.imm p0_0, ic p0_1, ic p0_2])]⟩ (rs78 r) (bs78 r)
 | .h2_78 l2_0 l2_1 l2_2 l2_3 l2_4 l2_5 l2_6 p0_0 p0_1 p0_2, r => Fin cx78 Tryd.f78 (kAt body78 [1, 1, 1, 1, 1, 1, 2] []) ⟨[.deadv, .deadv, pL 2] ++ rep 22 .deadv, [(.loc 2, [ic l2_0, .own 7 l2_1, ic l2_2, ic l2_3, sc l2_4, sc l2_5, ic l2_6]), (.par 0, [.imm p0_0, ic p0_1, ic p0_2])]⟩ (rs78 r) (bs78 r)
 | .e_83 b0_0 b0_1 b0_2, r => Fin cx83 Tryd.f83 [.code body83] (fr0 Tryd.f83 [pP 0] [[.imm b0_0, ic b0_1, ic b0_2]]) (rs83 r) (bs83 r)
 | .h0_83 l2_0 l2_1 l2_2 l2_3 l2_4 l2_5 l2_6 p0_0 p0_1 p0_2, r => Fin cx83 Tryd.f83 (kAt body83 [1, 1, 0, 1, 0, 1, 0, 1, 1, 2] []) ⟨[.deadv, .deadv, pL 2] ++ rep 92 .deadv, [(.loc 2, [ic l2_0, .imm l2_1, ic l2_2, ic l2_3, sc l2_4, sc l2_5, ic l2_6]), (.par 0, [.imm p0_0, ic p0_1, ic p0_2])]⟩ (rs83 r) (bs83 r)
 | .h1_83 l2_0 l2_1 l2_2 l2_3 l2_4 l2_5 l2_6 p0_0 p0_1 p0_2, r => Fin cx83 Tryd.f83 (kAt body83 [1, 1, 0, 1, 0, 1, 1, 1, 0, 1, 1, 2] []) ⟨[.deadv, .deadv, pL 2] ++ rep 92 .deadv, [(.loc 2, [ic l2_0, .imm l2_1, ic l2_2, ic l2_3, sc l2_4, sc l2_5, ic l2_6]), (.par 0, [.imm p0_0, ic p0_1, ic p0_2])]⟩ (rs83 r) (bs83 r)
 | .h2_83 l2_0 l2_1 l2_2 l2_3 l2_4 l2_5 l2_6 p0_0 p0_1 p0_2, r => Fin cx83 Tryd.f83 (kAt body83 [1, 1, 0, 1, 0, 1, 1, 1, 1, 1, 0, 1, 1, 2] []) ⟨[.deadv, .deadv, pL 2] ++ rep 92 .deadv, [(.loc 2, [ic l2_0, .imm l2_1, ic l2_2, ic l2_3, sc l2_4, sc l2_5, ic l2_6]), (.par 0, [.imm p0_0, ic p0_1, ic p0_2])]⟩ (rs83 r) (bs83 r)
 | .h3_83 l2_0 l2_1 l2_2 l2_3 l2_4 l2_5 l2_6 p0_0 p0_1 p0_2, r => Fin cx83 Tryd.f83 (kAt body83 [1, 1, 0, 1, 0, 1, 1, 1, 1, 1, 1, 1, 0, 1, 1, 2] []) ⟨[.deadv, .deadv, pL 2] ++ rep 92 .deadv, [(.loc 2, [ic l2_0, .imm l2_1, ic l2_2, ic l2_3, sc l2_4, sc l2_5, ic l2_6]), (.par 0, [.imm p0_0, ic p0_1, ic p0_2])]⟩ (rs83 r) (bs83 r)
 | .h4_83 l2_0 l2_1 l2_2 l2_3 l2_4 l2_5 l2_6 p0_0 p0_1 p0_2, r => Fin cx83 Tryd.f83 (kAt body83 [1, 1, 0, 1, 0, 1, 1, 1, 1, 1, 1, 1, 1, 1, 0, 1, 0, 1, 1, 1, 1, 1, 2] []) ⟨[.deadv, .deadv, pL 2] ++ rep 92 .deadv, [(.loc 2, [ic l2_0, .imm l2_1, ic l2_2, ic l2_3, sc l2_4, sc l2_5, ic l2_6]), (.par 0, [.imm p0_0, ic p0_1, ic p0_2])]⟩ (rs83 r) (bs83 r)
 | .h5_83 l3_0 l3_1 l3_2 l3_3 l3_4 l2_0 l2_2 l2_3 l2_4 l2_5 l2_6 p0_0 p0_1 p0_2, r => Fin cx83 Tryd.f83 (kAt body83 [1, 1, 1, 2] []) ⟨[.deadv, .deadv, pL 2, pL 3] ++ rep 91 .deadv, [(.loc 3, [ic l3_0, sc l3_1, ic l3_2, ic l3_3, ic l3_4]), (.loc 2, [ic l2_0, .nil, ic l2_2, ic l2_3, sc l2_4, sc l2_5, ic l2_6]), (.par 0, [.imm p0_0, ic p0_1, ic p0_2])]⟩ (rs83 r) (bs83 r)
 | .h6_83 l2_0 l2_1 l2_2 l2_3 l2_4 l2_5 l2_6 p0_0 p0_1 p0_2, r => Fin cx83 Tryd.f83 (kAt body83 [1, 1, 0, 1, 0, 1, 1, 1, 1, 1, 1, 1, 1, 1, 1, 1, 0, 1, 2] []) ⟨[.deadv, .deadv, pL 2] ++ rep 92 .deadv, [(.loc 2, [ic l2_0, .own 7 l2_1, ic l2_2, ic l2_3, sc l2_4, sc l2_5, ic l2_6]), (.par 0, [.imm p0_0, ic p0_1, ic p0_2])]⟩ (rs83 r) (bs83 r)
 | .e_87 t1_0 t1_1 t1_2 t1_3 t1_4 b0_0 b0_1 b0_2, r => Fin cx87 Tryd.f87 [.code body87] (fr0 Tryd.f87 [pP 0, .ag [ic t1_0, sc t1_1, ic t1_2, ic t1_3, ic t1_4]] [[.imm b0_0, ic b0_1, ic b0_2]]) (rs87 r) (bs87 r)
 | .h0_87 t9 t10 l4_0 l4_2 l4_3 l4_4 l4_5 l4_6 l3_0 l3_1 l3_2 l3_3 l3_4 p0_0 p0_1 p0_2, r => Fin cx87 Tryd.f87 (kAt body87 [1, 0, 1, 0, 1, 2] []) ⟨[pP 0, .deadv, .deadv, pL 3, pL 4] ++ rep 4 .deadv ++ [.c (sc t9), .c (bc t10)] ++ rep 46 .deadv, [(.loc 4, [ic l4_0, .nil, ic l4_2, ic l4_3, sc l4_4, sc l4_5, ic l4_6]), (.loc 3, [ic l3_0, sc l3_1, ic l3_2, ic l3_3, ic l3_4]), (.par 0, [.imm p0_0, ic p0_1, ic p0_2])]⟩ (rs87 r) (bs87 r)
 | .h1_87 n5 l4_0 l4_2 l4_3 l4_4 l4_5 l4_6 l3_0 l3_1 l3_2 l3_3 l3_4 p0_0 p0_1 p0_2, r => Fin cx87 Tryd.f87 (kAt body87 [1, 0, 1, 0, 1, 0, 1, 1, 1, 2] []) ⟨rep 3 .deadv ++ [pL 3, pL 4, .c (ic n5)] ++ rep 51 .deadv, [(.loc 4, [ic l4_0, .nil, ic l4_2, ic l4_3, sc l4_4, sc l4_5, ic l4_6]), (.loc 3, [ic l3_0, sc l3_1, ic l3_2, ic l3_3, ic l3_4]), (.par 0, [.imm p0_0, ic p0_1, ic p0_2])]⟩ (rs87 r) (bs87 r)
 | .h2_87 t27 l4_0 l4_2 l4_3 l4_4 l4_5 l4_6 l3_0 l3_1 l3_2 l3_3 l3_4 p0_0 p0_1 p0_2, r => Fin cx87 Tryd.f87 (kAt body87 [1, 0, 1, 0, 1, 1, 1, 2] []) ⟨[pP 0, .deadv, .deadv, pL 3, pL 4] ++ rep 22 .deadv ++ [.c (bc t27)] ++ rep 29 .deadv, [(.loc 4, [ic l4_0, .nil, ic l4_2, ic l4_3, sc l4_4, sc l4_5, ic l4_6]), (.loc 3, [ic l3_0, sc l3_1, ic l3_2, ic l3_3, ic l3_4]), (.par 0, [.imm p0_0, ic p0_1, ic p0_2])]⟩ (rs87 r) (bs87 r)
 | .h3_87 l4_0 l4_1 l4_2 l4_3 l4_4 l4_5 l4_6 p0_0 p0_1 p0_2, r => Fin cx87 Tryd.f87 (kAt body87 [1, 0, 1, 0, 1, 0, 1, 1, 1, 1, 2] []) ⟨rep 4 .deadv ++ [pL 4] ++ rep 52 .deadv, [(.loc 4, [ic l4_0, .own 7 l4_1, ic l4_2, ic l4_3, sc l4_4, sc l4_5, ic l4_6]), (.par 0, [.imm p0_0, ic p0_1, ic p0_2])]⟩ (rs87 r) (bs87 r)
 | .h4_87 l4_0 l4_1 l4_2 l4_3 l4_4 l4_5 l4_6 p0_0 p0_1 p0_2, r => Fin cx87 Tryd.f87 (kAt body87 [1, 0, 1, 0, 1, 1, 1, 0, 1, 1, 1, 1, 1, 1, 1, 1, 2] []) ⟨rep 4 .deadv ++ [pL 4] ++ rep 52 .deadv, [(.loc 4, [ic l4_0, .own 7 l4_1, ic l4_2, ic l4_3, sc l4_4, sc l4_5, ic l4_6]), (.par 0, [.imm p0_0, ic p0_1, ic p0_2])]⟩ (rs87 r) (bs87 r)
 | .h5_87 l4_0 l4_1 l4_2 l4_3 l4_4 l4_5 l4_6 p0_0 p0_1 p0_2, r => Fin cx87 Tryd.f87 (kAt body87 [1, 1, 1, 2] []) ⟨rep 4 .deadv ++ [pL 4] ++ rep 52 .deadv, [(.loc 4, [ic l4_0, .own 7 l4_1, ic l4_2, ic l4_3, sc l4_4, sc l4_5, ic l4_6]), (.par 0, [.imm p0_0, ic p0_1, ic p0_2])]⟩ (rs87 r) (bs87 r)
 | .e_38 op1 x2_0 x2_1 x2_2 x2_3 x2_4 x2_5 x2_6 b0_0 b0_1 b0_2, r => Fin cx38 Tryd.f38 [.code body38] (fr0 Tryd.f38 [pP 0, .c (ic op1), .ag [ic x2_0, .imm x2_1, ic x2_2, ic x2_3, sc x2_4, sc x2_5, ic x2_6], .c (.clo 78 [.ptr ⟨⟨.par 0, []⟩, 0, 0⟩] [])] [[.imm b0_0, ic b0_1, ic b0_2]]) (rs38 r) (bs38 r)
 | .e_38b op1 x2_0 x2_1 x2_2 x2_3 x2_4 x2_5 x2_6 b0_0 b0_1 b0_2, r => Fin cx38 Tryd.f38 [.code body38] (fr0 Tryd.f38 [pP 0, .c (ic op1), .ag [ic x2_0, .imm x2_1, ic x2_2, ic x2_3, sc x2_4, sc x2_5, ic x2_6], .c (.clo 70 [.ptr ⟨⟨.par 0, []⟩, 0, 0⟩] [])] [[.imm b0_0, ic b0_1, ic b0_2]]) (rs38b r) (bs38b r)
 | .e_38c op1 x2_0 x2_1 x2_2 x2_3 x2_4 x2_5 x2_6 b0_0 b0_1 b0_2, r => Fin cx38 Tryd.f38 [.code body38] (fr0 Tryd.f38 [pP 0, .c (ic op1), .ag [ic x2_0, .imm x2_1, ic x2_2, ic x2_3, sc x2_4, sc x2_5, ic x2_6], .c (.clo 59 [.ptr ⟨⟨.par 0, []⟩, 0, 0⟩] [])] [[.imm b0_0, ic b0_1, ic b0_2]]) (rs38c r) (bs38c r)
 | .e_38d op1 x2_0 x2_1 x2_2 x2_3 x2_4 x2_5 x2_6 b0_0 b0_1 b0_2, r => Fin cx38 Tryd.f38 [.code body38] (fr0 Tryd.f38 [pP 0, .c (ic op1), .ag [ic x2_0, .imm x2_1, ic x2_2, ic x2_3, sc x2_4, sc x2_5, ic x2_6], .c (.clo 45 [.ptr ⟨⟨.par 0, []⟩, 0, 0⟩] [])] [[.imm b0_0, ic b0_1, ic b0_2]]) (rs38d r) (bs38d r)
 | .e_38e op1 x2_0 x2_1 x2_2 x2_3 x2_4 x2_5 x2_6 b0_0 b0_1 b0_2, r => Fin cx38 Tryd.f38 [.code body38] (fr0 Tryd.f38 [pP 0, .c (ic op1), .ag [ic x2_0, .imm x2_1, ic x2_2, ic x2_3, sc x2_4, sc x2_5, ic x2_6], .c (.clo 36 [.ptr ⟨⟨.par 0, []⟩, 0, 0⟩] [])] [[.imm b0_0, ic b0_1, ic b0_2]]) (rs38e r) (bs38e r)
theorem evr22 {b0_0 : Rs} {b0_1 b0_2 : Int} {r : R22_22} (h : P22 (.e_22 b0_0 b0_1 b0_2) (.inl r)) : Ev Tryd.prog noHand 22 [pP 0] [[.imm b0_0, ic b0_1, ic b0_2]] (res22 r) (bx22 r) := ev_of_fin (fn := Tryd.f22) (body := body22) (by kernel_rfl) (by kernel_rfl) (by kernel_rfl) rfl h
theorem evr36 {b0_0 : Rs} {b0_1 b0_2 : Int} {r : R22_36} (h : P22 (.e_36 b0_0 b0_1 b0_2) (.inr (.inl r))) : Ev Tryd.prog noHand 36 [pP 0] [[.imm b0_0, ic b0_1, ic b0_2]] (res36 r) (bx36 r) := ev_of_fin (fn := Tryd.f36) (body := body36) (by kernel_rfl) (by kernel_rfl) (by kernel_rfl) rfl h
theorem evr45 {b0_0 : Rs} {b0_1 b0_2 : Int} {r : R22_45} (h : P22 (.e_45 b0_0 b0_1 b0_2) (.inr (.inr (.inl r)))) : Ev Tryd.prog noHand 45 [pP 0] [[.imm b0_0, ic b0_1, ic b0_2]] (res45 r) (bx45 r) := ev_of_fin (fn := Tryd.f45) (body := body45) (by kernel_rfl) (by kernel_rfl) (by kernel_rfl) rfl h
theorem evr51 {b0_0 : Rs} {b0_1 b0_2 : Int} {r : R22_51} (h : P22 (.e_51 b0_0 b0_1 b0_2) (.inr (.inr (.inr (.inl r))))) : Ev Tryd.prog noHand 51 [pP 0] [[.imm b0_0, ic b0_1, ic b0_2]] (res51 r) (bx51 r) := ev_of_fin (fn := Tryd.f51) (body := body51) (by kernel_rfl) (by kernel_rfl) (by kernel_rfl) rfl h
theorem evr59 {b0_0 : Rs} {b0_1 b0_2 : Int} {r : R22_59} (h : P22 (.e_59 b0_0 b0_1 b0_2) (.inr (.inr (.inr (.inr (.inl r)))))) : Ev Tryd.prog noHand 59 [pP 0] [[.imm b0_0, ic b0_1, ic b0_2]] (res59 r) (bx59 r) := ev_of_fin (fn := Tryd.f59) (body := body59) (by kernel_rfl) (by kernel_rfl) (by kernel_rfl) rfl h
theorem evr70 {b0_0 : Rs} {b0_1 b0_2 : Int} {r : R22_70} (h : P22 (.e_70 b0_0 b0_1 b0_2) (.inr (.inr (.inr (.inr (.inr (.inl r))))))) : Ev Tryd.prog noHand 70 [pP 0] [[.imm b0_0, ic b0_1, ic b0_2]] (res70 r) (bx70 r) := ev_of_fin (fn := Tryd.f70) (body := body70) (by kernel_rfl) (by kernel_rfl) (by kernel_rfl) rfl h
theorem evr78 {b0_0 : Rs} {b0_1 b0_2 : Int} {r : R22_78} (h : P22 (.e_78 b0_0 b0_1 b0_2) (.inr (.inr (.inr (.inr (.inr (.inr (.inl r)))))))) : Ev Tryd.prog noHand 78 [pP 0] [[.imm b0_0, ic b0_1, ic b0_2]] (res78 r) (bx78 r) := ev_of_fin (fn := Tryd.f78) (body := body78) (by kernel_rfl) (by kernel_rfl) (by kernel_rfl) rfl h
theorem evr83 {b0_0 : Rs} {b0_1 b0_2 : Int} {r : R22_83} (h : P22 (.e_83 b0_0 b0_1 b0_2) (.inr (.inr (.inr (.inr (.inr (.inr (.inr (.inl r))))))))) : Ev Tryd.prog noHand 83 [pP 0] [[.imm b0_0, ic b0_1, ic b0_2]] (res83 r) (bx83 r) := ev_of_fin (fn := Tryd.f83) (body := body83) (by kernel_rfl) (by kernel_rfl) (by kernel_rfl) rfl h
theorem evr87 {t1_0 : Int} {t1_1 : ByteArray} {t1_2 t1_3 t1_4 : Int} {b0_0 : Rs} {b0_1 b0_2 : Int} {r : R22_87} (h : P22 (.e_87 t1_0 t1_1 t1_2 t1_3 t1_4 b0_0 b0_1 b0_2) (.inr (.inr (.inr (.inr (.inr (.inr (.inr (.inr (.inl r)))))))))) : Ev Tryd.prog noHand 87 [pP 0, .ag [ic t1_0, sc t1_1, ic t1_2, ic t1_3, ic t1_4]] [[.imm b0_0, ic b0_1, ic b0_2]] (res87 r) (bx87 r) := ev_of_fin (fn := Tryd.f87) (body := body87) (by kernel_rfl) (by kernel_rfl) (by kernel_rfl) rfl h
theorem evr38 {op1 x2_0 : Int} {x2_1 : Rs} {x2_2 x2_3 : Int} {x2_4 x2_5 : ByteArray} {x2_6 : Int} {b0_0 : Rs} {b0_1 b0_2 : Int} {r : R22_38} (h : P22 (.e_38 op1 x2_0 x2_1 x2_2 x2_3 x2_4 x2_5 x2_6 b0_0 b0_1 b0_2) (.inr (.inr (.inr (.inr (.inr (.inr (.inr (.inr (.inr (.inl r))))))))))) : Ev Tryd.prog noHand 38 [pP 0, .c (ic op1), .ag [ic x2_0, .imm x2_1, ic x2_2, ic x2_3, sc x2_4, sc x2_5, ic x2_6], .c (.clo 78 [.ptr ⟨⟨.par 0, []⟩, 0, 0⟩] [])] [[.imm b0_0, ic b0_1, ic b0_2]] (res38 r) (bx38 r) := ev_of_fin (fn := Tryd.f38) (body := body38) (by kernel_rfl) (by kernel_rfl) (by kernel_rfl) rfl h
theorem evr38b {op1 x2_0 : Int} {x2_1 : Rs} {x2_2 x2_3 : Int} {x2_4 x2_5 : ByteArray} {x2_6 : Int} {b0_0 : Rs} {b0_1 b0_2 : Int} {r : R22_38b} (h : P22 (.e_38b op1 x2_0 x2_1 x2_2 x2_3 x2_4 x2_5 x2_6 b0_0 b0_1 b0_2) (.inr (.inr (.inr (.inr (.inr (.inr (.inr (.inr (.inr (.inr (.inl r)))))))))))) : Ev Tryd.prog noHand 38 [pP 0, .c (ic op1), .ag [ic x2_0, .imm x2_1, ic x2_2, ic x2_3, sc x2_4, sc x2_5, ic x2_6], .c (.clo 70 [.ptr ⟨⟨.par 0, []⟩, 0, 0⟩] [])] [[.imm b0_0, ic b0_1, ic b0_2]] (res38b r) (bx38b r) := ev_of_fin (fn := Tryd.f38) (body := body38) (by kernel_rfl) (by kernel_rfl) (by kernel_rfl) rfl h
theorem evr38c {op1 x2_0 : Int} {x2_1 : Rs} {x2_2 x2_3 : Int} {x2_4 x2_5 : ByteArray} {x2_6 : Int} {b0_0 : Rs} {b0_1 b0_2 : Int} {r : R22_38c} (h : P22 (.e_38c op1 x2_0 x2_1 x2_2 x2_3 x2_4 x2_5 x2_6 b0_0 b0_1 b0_2) (.inr (.inr (.inr (.inr (.inr (.inr (.inr (.inr (.inr (.inr (.inr (.inl r))))))))))))) : Ev Tryd.prog noHand 38 [pP 0, .c (ic op1), .ag [ic x2_0, .imm x2_1, ic x2_2, ic x2_3, sc x2_4, sc x2_5, ic x2_6], .c (.clo 59 [.ptr ⟨⟨.par 0, []⟩, 0, 0⟩] [])] [[.imm b0_0, ic b0_1, ic b0_2]] (res38c r) (bx38c r) := ev_of_fin (fn := Tryd.f38) (body := body38) (by kernel_rfl) (by kernel_rfl) (by kernel_rfl) rfl h
theorem evr38d {op1 x2_0 : Int} {x2_1 : Rs} {x2_2 x2_3 : Int} {x2_4 x2_5 : ByteArray} {x2_6 : Int} {b0_0 : Rs} {b0_1 b0_2 : Int} {r : R22_38d} (h : P22 (.e_38d op1 x2_0 x2_1 x2_2 x2_3 x2_4 x2_5 x2_6 b0_0 b0_1 b0_2) (.inr (.inr (.inr (.inr (.inr (.inr (.inr (.inr (.inr (.inr (.inr (.inr (.inl r)))))))))))))) : Ev Tryd.prog noHand 38 [pP 0, .c (ic op1), .ag [ic x2_0, .imm x2_1, ic x2_2, ic x2_3, sc x2_4, sc x2_5, ic x2_6], .c (.clo 45 [.ptr ⟨⟨.par 0, []⟩, 0, 0⟩] [])] [[.imm b0_0, ic b0_1, ic b0_2]] (res38d r) (bx38d r) := ev_of_fin (fn := Tryd.f38) (body := body38) (by kernel_rfl) (by kernel_rfl) (by kernel_rfl) rfl h
theorem evr38e {op1 x2_0 : Int} {x2_1 : Rs} {x2_2 x2_3 : Int} {x2_4 x2_5 : ByteArray} {x2_6 : Int} {b0_0 : Rs} {b0_1 b0_2 : Int} {r : R22_38e} (h : P22 (.e_38e op1 x2_0 x2_1 x2_2 x2_3 x2_4 x2_5 x2_6 b0_0 b0_1 b0_2) (.inr (.inr (.inr (.inr (.inr (.inr (.inr (.inr (.inr (.inr (.inr (.inr (.inr r)))))))))))))) : Ev Tryd.prog noHand 38 [pP 0, .c (ic op1), .ag [ic x2_0, .imm x2_1, ic x2_2, ic x2_3, sc x2_4, sc x2_5, ic x2_6], .c (.clo 36 [.ptr ⟨⟨.par 0, []⟩, 0, 0⟩] [])] [[.imm b0_0, ic b0_1, ic b0_2]] (res38e r) (bx38e r) := ev_of_fin (fn := Tryd.f38) (body := body38) (by kernel_rfl) (by kernel_rfl) (by kernel_rfl) rfl h
theorem t22_e_ok (k) {rec} (ih : ∀ s r, rec s = some r → P22 s r) {b0_0 b0_1 b0_2 r} (h : t22_e k rec b0_0 b0_1 b0_2 = some r) : P22 (.e_22 b0_0 b0_1 b0_2) r := by
 unfold t22_e at h
 obtain ⟨v_x1, h_x2, h⟩ := bd_or h
 replace h := altC_or h; rcases h with ⟨v_x3, rfl, h⟩ | ⟨v_x3, rfl, h⟩
 ·
  replace h := tup5_or h; obtain ⟨ri00_x4, ri01_x4, rb00_x4, rb01_x4, rb02_x4, rfl, h⟩ := h
  rw [← Option.some.inj h]
  exact mF 1 hmix [(some 5, .call (.panic (.iface 58 (.agg #[.int .i64 ri00_x4, .int .i64 ri01_x4]))) [[.imm rb00_x4, ic rb01_x4, ic rb02_x4]] false)] [_] (by kernel_rfl) ⟨(evr36 (ih _ _ (sel36_or h_x2))), trivial⟩
 ·
  replace h := tup10_or h; obtain ⟨r0_x4, r1_x4, r2_x4, r3_x4, r4_x4, r5_x4, r6_x4, rb00_x4, rb01_x4, rb02_x4, rfl, h⟩ := h
  exact mA 1 hmix (ih _ _ h) 7 [(some 5, .call (.ret (.ag [ic r0_x4, .imm r1_x4, ic r2_x4, ic r3_x4, sc r4_x4, sc r5_x4, ic r6_x4])) [[.imm rb00_x4, ic rb01_x4, ic rb02_x4]] false)] [_] (bm 14 16370) (by kernel_rfl) ⟨(evr36 (ih _ _ (sel36_or h_x2))), trivial⟩
theorem t22_h0_ok (k) {rec} (ih : ∀ s r, rec s = some r → P22 s r) {l3_0 l3_1 l3_2 l3_3 l3_4 l3_5 l3_6 l2_0 l2_2 l2_3 l2_4 l2_5 l2_6 p0_0 p0_1 p0_2 r} (h : t22_h0 k rec l3_0 l3_1 l3_2 l3_3 l3_4 l3_5 l3_6 l2_0 l2_2 l2_3 l2_4 l2_5 l2_6 p0_0 p0_1 p0_2 = some r) : P22 (.h0_22 l3_0 l3_1 l3_2 l3_3 l3_4 l3_5 l3_6 l2_0 l2_2 l2_3 l2_4 l2_5 l2_6 p0_0 p0_1 p0_2) r := by
 unfold t22_h0 at h
 obtain ⟨v_x1, h_x2, h⟩ := bd_or h
 replace h := tup2_or h; obtain ⟨r_x3, rb00_x3, rfl, h⟩ := h
 replace h := bif_or h; rcases h with ⟨rfl, h⟩ | ⟨rfl, h⟩
 ·
  obtain ⟨v_x4, h_x5, h⟩ := bd_or h
  replace h := tup10_or h; obtain ⟨r0_x6, r1_x6, r2_x6, r3_x6, r4_x6, r5_x6, r6_x6, rb00_x6, rb01_x6, rb02_x6, rfl, h⟩ := h
  exact mA 1 hmix (ih _ _ h) 9 [(some 7, .call (.ret (.c (bc true))) [[.imm rb00_x3, ic p0_1, ic p0_2]] false), (some 12, .call (.ret (.ag [ic r0_x6, .own 7 r1_x6, ic r2_x6, ic r3_x6, sc r4_x6, sc r5_x6, ic r6_x6])) [[.imm rb00_x6, ic rb01_x6, ic rb02_x6]] false)] [_, _] (bm 14 16370) (by kernel_rfl) ⟨(ev37 h_x2), (evr38e (ih _ _ (sel38e_or h_x5))), trivial⟩
 ·
  rw [← Option.some.inj h]
  exact mF 1 hmix [(some 7, .call (.ret (.c (bc false))) [[.imm rb00_x3, ic p0_1, ic p0_2]] false)] [_] (by kernel_rfl) ⟨(ev37 h_x2), trivial⟩
theorem t22_h1_ok (k) {rec} (ih : ∀ s r, rec s = some r → P22 s r) {l3_0 l3_1 l3_2 l3_3 l3_4 l3_5 l3_6 l2_0 l2_2 l2_3 l2_4 l2_5 l2_6 p0_0 p0_1 p0_2 r} (h : t22_h1 k rec l3_0 l3_1 l3_2 l3_3 l3_4 l3_5 l3_6 l2_0 l2_2 l2_3 l2_4 l2_5 l2_6 p0_0 p0_1 p0_2 = some r) : P22 (.h1_22 l3_0 l3_1 l3_2 l3_3 l3_4 l3_5 l3_6 l2_0 l2_2 l2_3 l2_4 l2_5 l2_6 p0_0 p0_1 p0_2) r := by
 unfold t22_h1 at h
 obtain ⟨v_x1, h_x2, h⟩ := bd_or h
 replace h := tup2_or h; obtain ⟨r_x3, rb00_x3, rfl, h⟩ := h
 replace h := bif_or h; rcases h with ⟨rfl, h⟩ | ⟨rfl, h⟩
 ·
  obtain ⟨v_x4, h_x5, h⟩ := bd_or h
  replace h := tup10_or h; obtain ⟨r0_x6, r1_x6, r2_x6, r3_x6, r4_x6, r5_x6, r6_x6, rb00_x6, rb01_x6, rb02_x6, rfl, h⟩ := h
  exact mA 1 hmix (ih _ _ h) 9 [(some 7, .call (.ret (.c (bc true))) [[.imm rb00_x3, ic p0_1, ic p0_2]] false), (some 12, .call (.ret (.ag [ic r0_x6, .own 7 r1_x6, ic r2_x6, ic r3_x6, sc r4_x6, sc r5_x6, ic r6_x6])) [[.imm rb00_x6, ic rb01_x6, ic rb02_x6]] false)] [_, _, _] (bm 14 16370) (by kernel_rfl) ⟨(ev37 h_x2), (evr38e (ih _ _ (sel38e_or h_x5))), (rfl : false = false), trivial⟩
 ·
  rw [← Option.some.inj h]
  exact mF 1 hmix [(some 7, .call (.ret (.c (bc false))) [[.imm rb00_x3, ic p0_1, ic p0_2]] false)] [_] (by kernel_rfl) ⟨(ev37 h_x2), trivial⟩
theorem t36_e_ok (k) {rec} (ih : ∀ s r, rec s = some r → P22 s r) {b0_0 b0_1 b0_2 r} (h : t36_e k rec b0_0 b0_1 b0_2 = some r) : P22 (.e_36 b0_0 b0_1 b0_2) r := by
 unfold t36_e at h
 obtain ⟨v_x1, h_x2, h⟩ := bd_or h
 replace h := altC_or h; rcases h with ⟨v_x3, rfl, h⟩ | ⟨v_x1_0, rfl, h⟩
 ·
  replace h := tup5_or h; obtain ⟨ri00_x4, ri01_x4, rb00_x4, rb01_x4, rb02_x4, rfl, h⟩ := h
  rw [← Option.some.inj h]
  exact mF 1 hmix [(some 5, .call (.panic (.iface 58 (.agg #[.int .i64 ri00_x4, .int .i64 ri01_x4]))) [[.imm rb00_x4, ic rb01_x4, ic rb02_x4]] false)] [_] (by kernel_rfl) ⟨(evr45 (ih _ _ (sel45_or h_x2))), trivial⟩
 ·
  replace h := altC_or h; rcases h with ⟨v_x3, rfl, h⟩ | ⟨v_x3, rfl, h⟩
  ·
   replace h := tup10_or h; obtain ⟨r0_x4, r1_x4, r2_x4, r3_x4, r4_x4, r5_x4, r6_x4, rb00_x4, rb01_x4, rb02_x4, rfl, h⟩ := h
   exact mA 1 hmix (ih _ _ h) 7 [(some 5, .call (.ret (.ag [ic r0_x4, .imm r1_x4, ic r2_x4, ic r3_x4, sc r4_x4, sc r5_x4, ic r6_x4])) [[.imm rb00_x4, ic rb01_x4, ic rb02_x4]] false)] [_] (bm 14 16370) (by kernel_rfl) ⟨(evr45 (ih _ _ (sel45_or h_x2))), trivial⟩
  ·
   replace h := tup10_or h; obtain ⟨r0_x4, r1_x4, r2_x4, r3_x4, r4_x4, r5_x4, r6_x4, rb00_x4, rb01_x4, rb02_x4, rfl, h⟩ := h
   exact mA 1 hmix (ih _ _ h) 7 [(some 5, .call (.ret (.ag [ic r0_x4, .own 7 r1_x4, ic r2_x4, ic r3_x4, sc r4_x4, sc r5_x4, ic r6_x4])) [[.imm rb00_x4, ic rb01_x4, ic rb02_x4]] false)] [_] (bm 14 16370) (by kernel_rfl) ⟨(evr45 (ih _ _ (sel45_or h_x2))), trivial⟩
theorem t36_h0_ok (k) {rec} (ih : ∀ s r, rec s = some r → P22 s r) {l3_0 l3_1 l3_2 l3_3 l3_4 l3_5 l3_6 l2_0 l2_2 l2_3 l2_4 l2_5 l2_6 p0_0 p0_1 p0_2 r} (h : t36_h0 k rec l3_0 l3_1 l3_2 l3_3 l3_4 l3_5 l3_6 l2_0 l2_2 l2_3 l2_4 l2_5 l2_6 p0_0 p0_1 p0_2 = some r) : P22 (.h0_36 l3_0 l3_1 l3_2 l3_3 l3_4 l3_5 l3_6 l2_0 l2_2 l2_3 l2_4 l2_5 l2_6 p0_0 p0_1 p0_2) r := by
 unfold t36_h0 at h
 obtain ⟨v_x1, h_x2, h⟩ := bd_or h
 replace h := tup2_or h; obtain ⟨r_x3, rb00_x3, rfl, h⟩ := h
 replace h := bif_or h; rcases h with ⟨rfl, h⟩ | ⟨rfl, h⟩
 ·
  obtain ⟨v_x4, h_x5, h⟩ := bd_or h
  replace h := tup10_or h; obtain ⟨r0_x6, r1_x6, r2_x6, r3_x6, r4_x6, r5_x6, r6_x6, rb00_x6, rb01_x6, rb02_x6, rfl, h⟩ := h
  exact mA 1 hmix (ih _ _ h) 9 [(some 7, .call (.ret (.c (bc true))) [[.imm rb00_x3, ic p0_1, ic p0_2]] false), (some 12, .call (.ret (.ag [ic r0_x6, .own 7 r1_x6, ic r2_x6, ic r3_x6, sc r4_x6, sc r5_x6, ic r6_x6])) [[.imm rb00_x6, ic rb01_x6, ic rb02_x6]] false)] [_, _] (bm 14 16370) (by kernel_rfl) ⟨(ev37 h_x2), (evr38d (ih _ _ (sel38d_or h_x5))), trivial⟩
 ·
  rw [← Option.some.inj h]
  exact mF 1 hmix [(some 7, .call (.ret (.c (bc false))) [[.imm rb00_x3, ic p0_1, ic p0_2]] false)] [_] (by kernel_rfl) ⟨(ev37 h_x2), trivial⟩
theorem t36_h1_ok (k) {rec} (ih : ∀ s r, rec s = some r → P22 s r) {l3_0 l3_1 l3_2 l3_3 l3_4 l3_5 l3_6 l2_0 l2_2 l2_3 l2_4 l2_5 l2_6 p0_0 p0_1 p0_2 r} (h : t36_h1 k rec l3_0 l3_1 l3_2 l3_3 l3_4 l3_5 l3_6 l2_0 l2_2 l2_3 l2_4 l2_5 l2_6 p0_0 p0_1 p0_2 = some r) : P22 (.h1_36 l3_0 l3_1 l3_2 l3_3 l3_4 l3_5 l3_6 l2_0 l2_2 l2_3 l2_4 l2_5 l2_6 p0_0 p0_1 p0_2) r := by
 unfold t36_h1 at h
 obtain ⟨v_x1, h_x2, h⟩ := bd_or h
 replace h := tup2_or h; obtain ⟨r_x3, rb00_x3, rfl, h⟩ := h
 replace h := bif_or h; rcases h with ⟨rfl, h⟩ | ⟨rfl, h⟩
 ·
  obtain ⟨v_x4, h_x5, h⟩ := bd_or h
  replace h := tup10_or h; obtain ⟨r0_x6, r1_x6, r2_x6, r3_x6, r4_x6, r5_x6, r6_x6, rb00_x6, rb01_x6, rb02_x6, rfl, h⟩ := h
  exact mA 1 hmix (ih _ _ h) 9 [(some 7, .call (.ret (.c (bc true))) [[.imm rb00_x3, ic p0_1, ic p0_2]] false), (some 12, .call (.ret (.ag [ic r0_x6, .own 7 r1_x6, ic r2_x6, ic r3_x6, sc r4_x6, sc r5_x6, ic r6_x6])) [[.imm rb00_x6, ic rb01_x6, ic rb02_x6]] false)] [_, _, _] (bm 14 16370) (by kernel_rfl) ⟨(ev37 h_x2), (evr38d (ih _ _ (sel38d_or h_x5))), (rfl : false = false), trivial⟩
 ·
  rw [← Option.some.inj h]
  exact mF 1 hmix [(some 7, .call (.ret (.c (bc false))) [[.imm rb00_x3, ic p0_1, ic p0_2]] false)] [_] (by kernel_rfl) ⟨(ev37 h_x2), trivial⟩
theorem t45_e_ok (k) {rec} (ih : ∀ s r, rec s = some r → P22 s r) {b0_0 b0_1 b0_2 r} (h : t45_e k rec b0_0 b0_1 b0_2 = some r) : P22 (.e_45 b0_0 b0_1 b0_2) r := by
 unfold t45_e at h
 obtain ⟨v_x1, h_x2, h⟩ := bd_or h
 replace h := tup2_or h; obtain ⟨r_x3, rb00_x3, rfl, h⟩ := h
 rcases bif_or h with ⟨h_x4, h⟩ | ⟨h_x4, h⟩
 ·
  obtain ⟨v_x5, h_x6, h⟩ := bd_or h
  replace h := altC_or h; rcases h with ⟨v_x7, rfl, h⟩ | ⟨v_x7, rfl, h⟩
  ·
   replace h := tup5_or h; obtain ⟨ri00_x8, ri01_x8, rb00_x8, rb01_x8, rb02_x8, rfl, h⟩ := h
   rw [← Option.some.inj h]
   exact mF 1 hmix [(some 6, .call (.ret (.c (bc r_x3))) [[.imm rb00_x3, ic b0_1, ic b0_2]] false), aT 7, (some 9, .call (.panic (.iface 58 (.agg #[.int .i64 ri00_x8, .int .i64 ri01_x8]))) [[.imm rb00_x8, ic rb01_x8, ic rb02_x8]] false)] [_, _, _] (by kernel_rfl) ⟨(ev37 h_x2), h_x4, (evr51 (ih _ _ (sel51_or h_x6))), trivial⟩
  ·
   replace h := tup10_or h; obtain ⟨r0_x8, r1_x8, r2_x8, r3_x8, r4_x8, r5_x8, r6_x8, rb00_x8, rb01_x8, rb02_x8, rfl, h⟩ := h
   rw [← Option.some.inj h]
   exact mF 1 hmix [(some 6, .call (.ret (.c (bc r_x3))) [[.imm rb00_x3, ic b0_1, ic b0_2]] false), aT 7, (some 9, .call (.ret (.ag [ic r0_x8, .imm r1_x8, ic r2_x8, ic r3_x8, sc r4_x8, sc r5_x8, ic r6_x8])) [[.imm rb00_x8, ic rb01_x8, ic rb02_x8]] false)] [_, _, _] (by kernel_rfl) ⟨(ev37 h_x2), h_x4, (evr51 (ih _ _ (sel51_or h_x6))), trivial⟩
 ·
  obtain ⟨v_x5, h_x6, h⟩ := bd_or h
  replace h := altC_or h; rcases h with ⟨v_x7, rfl, h⟩ | ⟨v_x7, rfl, h⟩
  ·
   replace h := tup5_or h; obtain ⟨ri00_x8, ri01_x8, rb00_x8, rb01_x8, rb02_x8, rfl, h⟩ := h
   rw [← Option.some.inj h]
   exact mF 1 hmix [(some 6, .call (.ret (.c (bc r_x3))) [[.imm rb00_x3, ic b0_1, ic b0_2]] false), aF 7, (some 11, .call (.panic (.iface 58 (.agg #[.int .i64 ri00_x8, .int .i64 ri01_x8]))) [[.imm rb00_x8, ic rb01_x8, ic rb02_x8]] false)] [_, _, _] (by kernel_rfl) ⟨(ev37 h_x2), h_x4, (ev52 h_x6), trivial⟩
  ·
   replace h := tup4_or h; obtain ⟨r_x8, rb00_x8, rb01_x8, rb02_x8, rfl, h⟩ := h
   obtain ⟨v_x9, h_x10, h⟩ := bd_or h
   replace h := altC_or h; rcases h with ⟨v_x11, rfl, h⟩ | ⟨v_x9_0, rfl, h⟩
   ·
    replace h := tup5_or h; obtain ⟨ri00_x12, ri01_x12, rb00_x12, rb01_x12, rb02_x12, rfl, h⟩ := h
    rw [← Option.some.inj h]
    exact mF 1 hmix [(some 6, .call (.ret (.c (bc r_x3))) [[.imm rb00_x3, ic b0_1, ic b0_2]] false), aF 7, (some 11, .call (.ret (.c (ic r_x8))) [[.imm rb00_x8, ic rb01_x8, ic rb02_x8]] false), (some 13, .call (.panic (.iface 58 (.agg #[.int .i64 ri00_x12, .int .i64 ri01_x12]))) [[.imm rb00_x12, ic rb01_x12, ic rb02_x12]] false)] [_, _, _, _] (by kernel_rfl) ⟨(ev37 h_x2), h_x4, (ev52 h_x6), (evr45 (ih _ _ (sel45_or h_x10))), trivial⟩
   ·
    replace h := altC_or h; rcases h with ⟨v_x11, rfl, h⟩ | ⟨v_x11, rfl, h⟩
    ·
     replace h := tup10_or h; obtain ⟨r0_x12, r1_x12, r2_x12, r3_x12, r4_x12, r5_x12, r6_x12, rb00_x12, rb01_x12, rb02_x12, rfl, h⟩ := h
     rw [← Option.some.inj h]
     exact mF 1 hmix [(some 6, .call (.ret (.c (bc r_x3))) [[.imm rb00_x3, ic b0_1, ic b0_2]] false), aF 7, (some 11, .call (.ret (.c (ic r_x8))) [[.imm rb00_x8, ic rb01_x8, ic rb02_x8]] false), (some 13, .call (.ret (.ag [ic r0_x12, .imm r1_x12, ic r2_x12, ic r3_x12, sc r4_x12, sc r5_x12, ic r6_x12])) [[.imm rb00_x12, ic rb01_x12, ic rb02_x12]] false)] [_, _, _, _] (by kernel_rfl) ⟨(ev37 h_x2), h_x4, (ev52 h_x6), (evr45 (ih _ _ (sel45_or h_x10))), trivial⟩
    ·
     replace h := tup10_or h; obtain ⟨r0_x12, r1_x12, r2_x12, r3_x12, r4_x12, r5_x12, r6_x12, rb00_x12, rb01_x12, rb02_x12, rfl, h⟩ := h
     rw [← Option.some.inj h]
     exact mF 1 hmix [(some 6, .call (.ret (.c (bc r_x3))) [[.imm rb00_x3, ic b0_1, ic b0_2]] false), aF 7, (some 11, .call (.ret (.c (ic r_x8))) [[.imm rb00_x8, ic rb01_x8, ic rb02_x8]] false), (some 13, .call (.ret (.ag [ic r0_x12, .own 7 r1_x12, ic r2_x12, ic r3_x12, sc r4_x12, sc r5_x12, ic r6_x12])) [[.imm rb00_x12, ic rb01_x12, ic rb02_x12]] false)] [_, _, _, _] (by kernel_rfl) ⟨(ev37 h_x2), h_x4, (ev52 h_x6), (evr45 (ih _ _ (sel45_or h_x10))), trivial⟩
theorem t51_e_ok (k) {rec} (ih : ∀ s r, rec s = some r → P22 s r) {b0_0 b0_1 b0_2 r} (h : t51_e k rec b0_0 b0_1 b0_2 = some r) : P22 (.e_51 b0_0 b0_1 b0_2) r := by
 unfold t51_e at h
 obtain ⟨v_x1, h_x2, h⟩ := bd_or h
 replace h := altC_or h; rcases h with ⟨v_x3, rfl, h⟩ | ⟨v_x3, rfl, h⟩
 ·
  replace h := tup5_or h; obtain ⟨ri00_x4, ri01_x4, rb00_x4, rb01_x4, rb02_x4, rfl, h⟩ := h
  rw [← Option.some.inj h]
  exact mF 1 hmix [(some 6, .call (.panic (.iface 58 (.agg #[.int .i64 ri00_x4, .int .i64 ri01_x4]))) [[.imm rb00_x4, ic rb01_x4, ic rb02_x4]] false)] [_] (by kernel_rfl) ⟨(evr59 (ih _ _ (sel59_or h_x2))), trivial⟩
 ·
  replace h := tup10_or h; obtain ⟨r0_x4, r1_x4, r2_x4, r3_x4, r4_x4, r5_x4, r6_x4, rb00_x4, rb01_x4, rb02_x4, rfl, h⟩ := h
  obtain ⟨v_x5, h_x6, h⟩ := bd_or h
  replace h := tup2_or h; obtain ⟨r_x7, rb00_x7, rfl, h⟩ := h
  rcases bif_or h with ⟨h_x8, h⟩ | ⟨h_x8, h⟩
  ·
   obtain ⟨v_x9, h_x10, h⟩ := bd_or h
   replace h := tup10_or h; obtain ⟨r0_x11, r1_x11, r2_x11, r3_x11, r4_x11, r5_x11, r6_x11, rb00_x11, rb01_x11, rb02_x11, rfl, h⟩ := h
   rw [← Option.some.inj h]
   exact mF 1 hmix [(some 6, .call (.ret (.ag [ic r0_x4, .imm r1_x4, ic r2_x4, ic r3_x4, sc r4_x4, sc r5_x4, ic r6_x4])) [[.imm rb00_x4, ic rb01_x4, ic rb02_x4]] false), (some 8, .call (.ret (.c (ic r_x7))) [[.imm rb00_x7, ic rb01_x4, ic rb02_x4]] false), aT 10, (some 16, .call (.ret (.ag [ic r0_x11, .own 7 r1_x11, ic r2_x11, ic r3_x11, sc r4_x11, sc r5_x11, ic r6_x11])) [[.imm rb00_x11, ic rb01_x11, ic rb02_x11]] false)] [_, _, _, _] (by kernel_rfl) ⟨(evr59 (ih _ _ (sel59_or h_x2))), (ev60 h_x6), h_x8, (evr38c (ih _ _ (sel38c_or h_x10))), trivial⟩
  ·
   rw [← Option.some.inj h]
   exact mF 1 hmix [(some 6, .call (.ret (.ag [ic r0_x4, .imm r1_x4, ic r2_x4, ic r3_x4, sc r4_x4, sc r5_x4, ic r6_x4])) [[.imm rb00_x4, ic rb01_x4, ic rb02_x4]] false), (some 8, .call (.ret (.c (ic r_x7))) [[.imm rb00_x7, ic rb01_x4, ic rb02_x4]] false), aF 10] [_, _, _] (by kernel_rfl) ⟨(evr59 (ih _ _ (sel59_or h_x2))), (ev60 h_x6), h_x8, trivial⟩
theorem t59_e_ok (k) {rec} (ih : ∀ s r, rec s = some r → P22 s r) {b0_0 b0_1 b0_2 r} (h : t59_e k rec b0_0 b0_1 b0_2 = some r) : P22 (.e_59 b0_0 b0_1 b0_2) r := by
 unfold t59_e at h
 obtain ⟨v_x1, h_x2, h⟩ := bd_or h
 replace h := altC_or h; rcases h with ⟨v_x3, rfl, h⟩ | ⟨v_x3, rfl, h⟩
 ·
  replace h := tup5_or h; obtain ⟨ri00_x4, ri01_x4, rb00_x4, rb01_x4, rb02_x4, rfl, h⟩ := h
  rw [← Option.some.inj h]
  exact mF 1 hmix [(some 6, .call (.panic (.iface 58 (.agg #[.int .i64 ri00_x4, .int .i64 ri01_x4]))) [[.imm rb00_x4, ic rb01_x4, ic rb02_x4]] false)] [_] (by kernel_rfl) ⟨(evr70 (ih _ _ (sel70_or h_x2))), trivial⟩
 ·
  replace h := tup10_or h; obtain ⟨r0_x4, r1_x4, r2_x4, r3_x4, r4_x4, r5_x4, r6_x4, rb00_x4, rb01_x4, rb02_x4, rfl, h⟩ := h
  exact mA 1 hmix (ih _ _ h) 6 [(some 6, .call (.ret (.ag [ic r0_x4, .imm r1_x4, ic r2_x4, ic r3_x4, sc r4_x4, sc r5_x4, ic r6_x4])) [[.imm rb00_x4, ic rb01_x4, ic rb02_x4]] false)] [_] (bm 18 262130) (by kernel_rfl) ⟨(evr70 (ih _ _ (sel70_or h_x2))), trivial⟩
theorem t59_h0_ok (k) {rec} (ih : ∀ s r, rec s = some r → P22 s r) {l3_0 l3_1 l3_2 l3_3 l3_4 l3_5 l3_6 l2_0 l2_2 l2_3 l2_4 l2_5 l2_6 p0_0 p0_1 p0_2 r} (h : t59_h0 k rec l3_0 l3_1 l3_2 l3_3 l3_4 l3_5 l3_6 l2_0 l2_2 l2_3 l2_4 l2_5 l2_6 p0_0 p0_1 p0_2 = some r) : P22 (.h0_59 l3_0 l3_1 l3_2 l3_3 l3_4 l3_5 l3_6 l2_0 l2_2 l2_3 l2_4 l2_5 l2_6 p0_0 p0_1 p0_2) r := by
 unfold t59_h0 at h
 obtain ⟨v_x1, h_x2, h⟩ := bd_or h
 replace h := tup2_or h; obtain ⟨r_x3, rb00_x3, rfl, h⟩ := h
 rcases bif_or h with ⟨h_x4, h⟩ | ⟨h_x4, h⟩
 ·
  rw [← Option.some.inj h]
  exact mF 1 hmix [(some 8, .call (.ret (.c (ic r_x3))) [[.imm rb00_x3, ic p0_1, ic p0_2]] false), aT 10] [_, _] (by kernel_rfl) ⟨(ev60 h_x2), h_x4, trivial⟩
 ·
  obtain ⟨v_x5, h_x6, h⟩ := bd_or h
  replace h := tup10_or h; obtain ⟨r0_x7, r1_x7, r2_x7, r3_x7, r4_x7, r5_x7, r6_x7, rb00_x7, rb01_x7, rb02_x7, rfl, h⟩ := h
  exact mA 1 hmix (ih _ _ h) 11 [(some 8, .call (.ret (.c (ic r_x3))) [[.imm rb00_x3, ic p0_1, ic p0_2]] false), aF 10, (some 17, .call (.ret (.ag [ic r0_x7, .own 7 r1_x7, ic r2_x7, ic r3_x7, sc r4_x7, sc r5_x7, ic r6_x7])) [[.imm rb00_x7, ic rb01_x7, ic rb02_x7]] false)] [_, _, _] (bm 18 262130) (by kernel_rfl) ⟨(ev60 h_x2), h_x4, (evr38b (ih _ _ (sel38b_or h_x6))), trivial⟩
theorem t59_h1_ok (k) {rec} (ih : ∀ s r, rec s = some r → P22 s r) {l3_0 l3_1 l3_2 l3_3 l3_4 l3_5 l3_6 l2_0 l2_2 l2_3 l2_4 l2_5 l2_6 p0_0 p0_1 p0_2 r} (h : t59_h1 k rec l3_0 l3_1 l3_2 l3_3 l3_4 l3_5 l3_6 l2_0 l2_2 l2_3 l2_4 l2_5 l2_6 p0_0 p0_1 p0_2 = some r) : P22 (.h1_59 l3_0 l3_1 l3_2 l3_3 l3_4 l3_5 l3_6 l2_0 l2_2 l2_3 l2_4 l2_5 l2_6 p0_0 p0_1 p0_2) r := by
 unfold t59_h1 at h
 obtain ⟨v_x1, h_x2, h⟩ := bd_or h
 replace h := tup2_or h; obtain ⟨r_x3, rb00_x3, rfl, h⟩ := h
 rcases bif_or h with ⟨h_x4, h⟩ | ⟨h_x4, h⟩
 ·
  rw [← Option.some.inj h]
  exact mF 1 hmix [(some 8, .call (.ret (.c (ic r_x3))) [[.imm rb00_x3, ic p0_1, ic p0_2]] false), aT 10] [_, _] (by kernel_rfl) ⟨(ev60 h_x2), h_x4, trivial⟩
 ·
  obtain ⟨v_x5, h_x6, h⟩ := bd_or h
  replace h := tup10_or h; obtain ⟨r0_x7, r1_x7, r2_x7, r3_x7, r4_x7, r5_x7, r6_x7, rb00_x7, rb01_x7, rb02_x7, rfl, h⟩ := h
  exact mA 1 hmix (ih _ _ h) 11 [(some 8, .call (.ret (.c (ic r_x3))) [[.imm rb00_x3, ic p0_1, ic p0_2]] false), aF 10, (some 17, .call (.ret (.ag [ic r0_x7, .own 7 r1_x7, ic r2_x7, ic r3_x7, sc r4_x7, sc r5_x7, ic r6_x7])) [[.imm rb00_x7, ic rb01_x7, ic rb02_x7]] false)] [_, _, _, _] (bm 18 262130) (by kernel_rfl) ⟨(ev60 h_x2), h_x4, (evr38b (ih _ _ (sel38b_or h_x6))), (rfl : false = false), trivial⟩
theorem t70_e_ok (k) {rec} (ih : ∀ s r, rec s = some r → P22 s r) {b0_0 b0_1 b0_2 r} (h : t70_e k rec b0_0 b0_1 b0_2 = some r) : P22 (.e_70 b0_0 b0_1 b0_2) r := by
 unfold t70_e at h
 obtain ⟨v_x1, h_x2, h⟩ := bd_or h
 replace h := altC_or h; rcases h with ⟨v_x3, rfl, h⟩ | ⟨v_x1_0, rfl, h⟩
 ·
  replace h := tup5_or h; obtain ⟨ri00_x4, ri01_x4, rb00_x4, rb01_x4, rb02_x4, rfl, h⟩ := h
  rw [← Option.some.inj h]
  exact mF 1 hmix [(some 6, .call (.panic (.iface 58 (.agg #[.int .i64 ri00_x4, .int .i64 ri01_x4]))) [[.imm rb00_x4, ic rb01_x4, ic rb02_x4]] false)] [_] (by kernel_rfl) ⟨(evr78 (ih _ _ (sel78_or h_x2))), trivial⟩
 ·
  replace h := altC_or h; rcases h with ⟨v_x3, rfl, h⟩ | ⟨v_x3, rfl, h⟩
  ·
   replace h := tup10_or h; obtain ⟨r0_x4, r1_x4, r2_x4, r3_x4, r4_x4, r5_x4, r6_x4, rb00_x4, rb01_x4, rb02_x4, rfl, h⟩ := h
   exact mA 1 hmix (ih _ _ h) 6 [(some 6, .call (.ret (.ag [ic r0_x4, .own 7 r1_x4, ic r2_x4, ic r3_x4, sc r4_x4, sc r5_x4, ic r6_x4])) [[.imm rb00_x4, ic rb01_x4, ic rb02_x4]] false)] [_] (bm 18 262130) (by kernel_rfl) ⟨(evr78 (ih _ _ (sel78_or h_x2))), trivial⟩
  ·
   replace h := tup10_or h; obtain ⟨r0_x4, r1_x4, r2_x4, r3_x4, r4_x4, r5_x4, r6_x4, rb00_x4, rb01_x4, rb02_x4, rfl, h⟩ := h
   exact mA 1 hmix (ih _ _ h) 6 [(some 6, .call (.ret (.ag [ic r0_x4, .imm r1_x4, ic r2_x4, ic r3_x4, sc r4_x4, sc r5_x4, ic r6_x4])) [[.imm rb00_x4, ic rb01_x4, ic rb02_x4]] false)] [_] (bm 18 262130) (by kernel_rfl) ⟨(evr78 (ih _ _ (sel78_or h_x2))), trivial⟩
theorem t70_h0_ok (k) {rec} (ih : ∀ s r, rec s = some r → P22 s r) {l3_0 l3_1 l3_2 l3_3 l3_4 l3_5 l3_6 l2_0 l2_2 l2_3 l2_4 l2_5 l2_6 p0_0 p0_1 p0_2 r} (h : t70_h0 k rec l3_0 l3_1 l3_2 l3_3 l3_4 l3_5 l3_6 l2_0 l2_2 l2_3 l2_4 l2_5 l2_6 p0_0 p0_1 p0_2 = some r) : P22 (.h0_70 l3_0 l3_1 l3_2 l3_3 l3_4 l3_5 l3_6 l2_0 l2_2 l2_3 l2_4 l2_5 l2_6 p0_0 p0_1 p0_2) r := by
 unfold t70_h0 at h
 obtain ⟨v_x1, h_x2, h⟩ := bd_or h
 replace h := tup2_or h; obtain ⟨r_x3, rb00_x3, rfl, h⟩ := h
 rcases bif_or h with ⟨h_x4, h⟩ | ⟨h_x4, h⟩
 ·
  rw [← Option.some.inj h]
  exact mF 1 hmix [(some 8, .call (.ret (.c (ic r_x3))) [[.imm rb00_x3, ic p0_1, ic p0_2]] false), aT 10] [_, _] (by kernel_rfl) ⟨(ev60 h_x2), h_x4, trivial⟩
 ·
  obtain ⟨v_x5, h_x6, h⟩ := bd_or h
  replace h := tup10_or h; obtain ⟨r0_x7, r1_x7, r2_x7, r3_x7, r4_x7, r5_x7, r6_x7, rb00_x7, rb01_x7, rb02_x7, rfl, h⟩ := h
  exact mA 1 hmix (ih _ _ h) 11 [(some 8, .call (.ret (.c (ic r_x3))) [[.imm rb00_x3, ic p0_1, ic p0_2]] false), aF 10, (some 17, .call (.ret (.ag [ic r0_x7, .own 7 r1_x7, ic r2_x7, ic r3_x7, sc r4_x7, sc r5_x7, ic r6_x7])) [[.imm rb00_x7, ic rb01_x7, ic rb02_x7]] false)] [_, _, _, _] (bm 18 262130) (by kernel_rfl) ⟨(ev60 h_x2), h_x4, (evr38 (ih _ _ (sel38_or h_x6))), (rfl : false = false), trivial⟩
theorem t70_h1_ok (k) {rec} (ih : ∀ s r, rec s = some r → P22 s r) {l3_0 l3_1 l3_2 l3_3 l3_4 l3_5 l3_6 l2_0 l2_2 l2_3 l2_4 l2_5 l2_6 p0_0 p0_1 p0_2 r} (h : t70_h1 k rec l3_0 l3_1 l3_2 l3_3 l3_4 l3_5 l3_6 l2_0 l2_2 l2_3 l2_4 l2_5 l2_6 p0_0 p0_1 p0_2 = some r) : P22 (.h1_70 l3_0 l3_1 l3_2 l3_3 l3_4 l3_5 l3_6 l2_0 l2_2 l2_3 l2_4 l2_5 l2_6 p0_0 p0_1 p0_2) r := by
 unfold t70_h1 at h
 obtain ⟨v_x1, h_x2, h⟩ := bd_or h
 replace h := tup2_or h; obtain ⟨r_x3, rb00_x3, rfl, h⟩ := h
 rcases bif_or h with ⟨h_x4, h⟩ | ⟨h_x4, h⟩
 ·
  rw [← Option.some.inj h]
  exact mF 1 hmix [(some 8, .call (.ret (.c (ic r_x3))) [[.imm rb00_x3, ic p0_1, ic p0_2]] false), aT 10] [_, _] (by kernel_rfl) ⟨(ev60 h_x2), h_x4, trivial⟩
 ·
  obtain ⟨v_x5, h_x6, h⟩ := bd_or h
  replace h := tup10_or h; obtain ⟨r0_x7, r1_x7, r2_x7, r3_x7, r4_x7, r5_x7, r6_x7, rb00_x7, rb01_x7, rb02_x7, rfl, h⟩ := h
  exact mA 1 hmix (ih _ _ h) 11 [(some 8, .call (.ret (.c (ic r_x3))) [[.imm rb00_x3, ic p0_1, ic p0_2]] false), aF 10, (some 17, .call (.ret (.ag [ic r0_x7, .own 7 r1_x7, ic r2_x7, ic r3_x7, sc r4_x7, sc r5_x7, ic r6_x7])) [[.imm rb00_x7, ic rb01_x7, ic rb02_x7]] false)] [_, _, _] (bm 18 262130) (by kernel_rfl) ⟨(ev60 h_x2), h_x4, (evr38 (ih _ _ (sel38_or h_x6))), trivial⟩
theorem t78_e_ok (k) {rec} (ih : ∀ s r, rec s = some r → P22 s r) {b0_0 b0_1 b0_2 r} (h : t78_e k rec b0_0 b0_1 b0_2 = some r) : P22 (.e_78 b0_0 b0_1 b0_2) r := by
 unfold t78_e at h
 obtain ⟨v_x1, h_x2, h⟩ := bd_or h
 replace h := tup2_or h; obtain ⟨r_x3, rb00_x3, rfl, h⟩ := h
 rcases bif_or h with ⟨h_x4, h⟩ | ⟨h_x4, h⟩
 ·
  obtain ⟨v_x5, h_x6, h⟩ := bd_or h
  replace h := altC_or h; rcases h with ⟨v_x7, rfl, h⟩ | ⟨v_x5_0, rfl, h⟩
  ·
   replace h := tup5_or h; obtain ⟨ri00_x8, ri01_x8, rb00_x8, rb01_x8, rb02_x8, rfl, h⟩ := h
   rw [← Option.some.inj h]
   exact mF 1 hmix [(some 6, .call (.ret (.c (bc r_x3))) [[.imm rb00_x3, ic b0_1, ic b0_2]] false), aT 7, (some 9, .call (.panic (.iface 58 (.agg #[.int .i64 ri00_x8, .int .i64 ri01_x8]))) [[.imm rb00_x8, ic rb01_x8, ic rb02_x8]] false)] [_, _, _] (by kernel_rfl) ⟨(ev37 h_x2), h_x4, (evr83 (ih _ _ (sel83_or h_x6))), trivial⟩
  ·
   replace h := altC_or h; rcases h with ⟨v_x7, rfl, h⟩ | ⟨v_x7, rfl, h⟩
   ·
    replace h := tup10_or h; obtain ⟨r0_x8, r1_x8, r2_x8, r3_x8, r4_x8, r5_x8, r6_x8, rb00_x8, rb01_x8, rb02_x8, rfl, h⟩ := h
    exact mA 1 hmix (ih _ _ h) 8 [(some 6, .call (.ret (.c (bc r_x3))) [[.imm rb00_x3, ic b0_1, ic b0_2]] false), aT 7, (some 9, .call (.ret (.ag [ic r0_x8, .imm r1_x8, ic r2_x8, ic r3_x8, sc r4_x8, sc r5_x8, ic r6_x8])) [[.imm rb00_x8, ic rb01_x8, ic rb02_x8]] false)] [_, _, _] (bm 25 33554427) (by kernel_rfl) ⟨(ev37 h_x2), h_x4, (evr83 (ih _ _ (sel83_or h_x6))), trivial⟩
   ·
    replace h := tup10_or h; obtain ⟨r0_x8, r1_x8, r2_x8, r3_x8, r4_x8, r5_x8, r6_x8, rb00_x8, rb01_x8, rb02_x8, rfl, h⟩ := h
    exact mA 1 hmix (ih _ _ h) 8 [(some 6, .call (.ret (.c (bc r_x3))) [[.imm rb00_x3, ic b0_1, ic b0_2]] false), aT 7, (some 9, .call (.ret (.ag [ic r0_x8, .own 7 r1_x8, ic r2_x8, ic r3_x8, sc r4_x8, sc r5_x8, ic r6_x8])) [[.imm rb00_x8, ic rb01_x8, ic rb02_x8]] false)] [_, _, _] (bm 25 33554427) (by kernel_rfl) ⟨(ev37 h_x2), h_x4, (evr83 (ih _ _ (sel83_or h_x6))), trivial⟩
 ·
  obtain ⟨v_x5, h_x6, h⟩ := bd_or h
  replace h := altC_or h; rcases h with ⟨v_x7, rfl, h⟩ | ⟨v_x7, rfl, h⟩
  ·
   replace h := tup5_or h; obtain ⟨ri00_x8, ri01_x8, rb00_x8, rb01_x8, rb02_x8, rfl, h⟩ := h
   rw [← Option.some.inj h]
   exact mF 1 hmix [(some 6, .call (.ret (.c (bc r_x3))) [[.imm rb00_x3, ic b0_1, ic b0_2]] false), aF 7, (some 11, .call (.panic (.iface 58 (.agg #[.int .i64 ri00_x8, .int .i64 ri01_x8]))) [[.imm rb00_x8, ic rb01_x8, ic rb02_x8]] false)] [_, _, _] (by kernel_rfl) ⟨(ev37 h_x2), h_x4, (ev52 h_x6), trivial⟩
  ·
   replace h := tup4_or h; obtain ⟨r_x8, rb00_x8, rb01_x8, rb02_x8, rfl, h⟩ := h
   obtain ⟨v_x9, h_x10, h⟩ := bd_or h
   replace h := altC_or h; rcases h with ⟨v_x11, rfl, h⟩ | ⟨v_x9_0, rfl, h⟩
   ·
    replace h := tup5_or h; obtain ⟨ri00_x12, ri01_x12, rb00_x12, rb01_x12, rb02_x12, rfl, h⟩ := h
    rw [← Option.some.inj h]
    exact mF 1 hmix [(some 6, .call (.ret (.c (bc r_x3))) [[.imm rb00_x3, ic b0_1, ic b0_2]] false), aF 7, (some 11, .call (.ret (.c (ic r_x8))) [[.imm rb00_x8, ic rb01_x8, ic rb02_x8]] false), (some 13, .call (.panic (.iface 58 (.agg #[.int .i64 ri00_x12, .int .i64 ri01_x12]))) [[.imm rb00_x12, ic rb01_x12, ic rb02_x12]] false)] [_, _, _, _] (by kernel_rfl) ⟨(ev37 h_x2), h_x4, (ev52 h_x6), (evr78 (ih _ _ (sel78_or h_x10))), trivial⟩
   ·
    replace h := altC_or h; rcases h with ⟨v_x11, rfl, h⟩ | ⟨v_x11, rfl, h⟩
    ·
     replace h := tup10_or h; obtain ⟨r0_x12, r1_x12, r2_x12, r3_x12, r4_x12, r5_x12, r6_x12, rb00_x12, rb01_x12, rb02_x12, rfl, h⟩ := h
     exact mgo_at (nb := 1) hmix (ih _ _ h) (n := 15) (ad := [(some 6, .call (.ret (.c (bc r_x3))) [[.imm rb00_x3, ic b0_1, ic b0_2]] false), aF 7, (some 11, .call (.ret (.c (ic r_x8))) [[.imm rb00_x8, ic rb01_x8, ic rb02_x8]] false), (some 13, .call (.ret (.ag [ic r0_x12, .own 7 r1_x12, ic r2_x12, ic r3_x12, sc r4_x12, sc r5_x12, ic r6_x12])) [[.imm rb00_x12, ic rb01_x12, ic rb02_x12]] false)]) (ps := [_, _, _, _]) (m := bm 25 33554427) (ls := [4]) (cs := []) (by kernel_rfl) ⟨(ev37 h_x2), h_x4, (ev52 h_x6), (evr78 (ih _ _ (sel78_or h_x10))), trivial⟩
    ·
     replace h := tup10_or h; obtain ⟨r0_x12, r1_x12, r2_x12, r3_x12, r4_x12, r5_x12, r6_x12, rb00_x12, rb01_x12, rb02_x12, rfl, h⟩ := h
     exact mgo_at (nb := 1) hmix (ih _ _ h) (n := 15) (ad := [(some 6, .call (.ret (.c (bc r_x3))) [[.imm rb00_x3, ic b0_1, ic b0_2]] false), aF 7, (some 11, .call (.ret (.c (ic r_x8))) [[.imm rb00_x8, ic rb01_x8, ic rb02_x8]] false), (some 13, .call (.ret (.ag [ic r0_x12, .imm r1_x12, ic r2_x12, ic r3_x12, sc r4_x12, sc r5_x12, ic r6_x12])) [[.imm rb00_x12, ic rb01_x12, ic rb02_x12]] false)]) (ps := [_, _, _, _]) (m := bm 25 33554427) (ls := [4]) (cs := []) (by kernel_rfl) ⟨(ev37 h_x2), h_x4, (ev52 h_x6), (evr78 (ih _ _ (sel78_or h_x10))), trivial⟩
theorem t78_h0_ok (k) {rec} (ih : ∀ s r, rec s = some r → P22 s r) {l2_0 l2_1 l2_2 l2_3 l2_4 l2_5 l2_6 p0_0 p0_1 p0_2 r} (h : t78_h0 k rec l2_0 l2_1 l2_2 l2_3 l2_4 l2_5 l2_6 p0_0 p0_1 p0_2 = some r) : P22 (.h0_78 l2_0 l2_1 l2_2 l2_3 l2_4 l2_5 l2_6 p0_0 p0_1 p0_2) r := by
 unfold t78_h0 at h
 rw [← Option.some.inj h]
 exact mF 1 hmix [] [] (by kernel_rfl) trivial
theorem t78_h1_ok (k) {rec} (ih : ∀ s r, rec s = some r → P22 s r) {l2_0 l2_1 l2_2 l2_3 l2_4 l2_5 l2_6 p0_0 p0_1 p0_2 r} (h : t78_h1 k rec l2_0 l2_1 l2_2 l2_3 l2_4 l2_5 l2_6 p0_0 p0_1 p0_2 = some r) : P22 (.h1_78 l2_0 l2_1 l2_2 l2_3 l2_4 l2_5 l2_6 p0_0 p0_1 p0_2) r := by
 unfold t78_h1 at h
 rw [← Option.some.inj h]
 exact mF 1 hmix [] [] (by kernel_rfl) trivial
theorem t78_h2_ok (k) {rec} (ih : ∀ s r, rec s = some r → P22 s r) {l2_0 l2_1 l2_2 l2_3 l2_4 l2_5 l2_6 p0_0 p0_1 p0_2 r} (h : t78_h2 k rec l2_0 l2_1 l2_2 l2_3 l2_4 l2_5 l2_6 p0_0 p0_1 p0_2 = some r) : P22 (.h2_78 l2_0 l2_1 l2_2 l2_3 l2_4 l2_5 l2_6 p0_0 p0_1 p0_2) r := by
 unfold t78_h2 at h
 rw [← Option.some.inj h]
 exact mF 1 hmix [] [] (by kernel_rfl) trivial
theorem t83_e_ok (k) {rec} (ih : ∀ s r, rec s = some r → P22 s r) {b0_0 b0_1 b0_2 r} (h : t83_e k rec b0_0 b0_1 b0_2 = some r) : P22 (.e_83 b0_0 b0_1 b0_2) r := by
 unfold t83_e at h
 obtain ⟨v_x1, h_x2, h⟩ := bd_or h
 replace h := tup6_or h; obtain ⟨r0_x3, r1_x3, r2_x3, r3_x3, r4_x3, rb00_x3, rfl, h⟩ := h
 rcases bif_or h with ⟨h_x4, h⟩ | ⟨h_x4, h⟩
 ·
  exact mgo_at (nb := 1) hmix (ih _ _ h) (n := 15) (ad := [(some 8, .call (.ret (.ag [ic r0_x3, sc r1_x3, ic r2_x3, ic r3_x3, ic r4_x3])) [[.imm rb00_x3, ic b0_1, ic b0_2]] false), aT 12]) (ps := [_, _]) (m := bm 95 39614081257132168796771975163) (ls := [3]) (cs := [(⟨⟨.loc 2, []⟩, 0, 1⟩, none)]) (by kernel_rfl) ⟨(ev46 h_x2), h_x4, trivial⟩
 ·
  rcases bif_or h with ⟨h_x5, h⟩ | ⟨h_x5, h⟩
  ·
   exact mgo_at (nb := 1) hmix (ih _ _ h) (n := 18) (ad := [(some 8, .call (.ret (.ag [ic r0_x3, sc r1_x3, ic r2_x3, ic r3_x3, ic r4_x3])) [[.imm rb00_x3, ic b0_1, ic b0_2]] false), aF 12, aT 26]) (ps := [_, _, _]) (m := bm 95 39614081257132168796771975163) (ls := [3]) (cs := [(⟨⟨.loc 2, []⟩, 0, 1⟩, none)]) (by kernel_rfl) ⟨(ev46 h_x2), h_x4, h_x5, trivial⟩
  ·
   rcases bif_or h with ⟨h_x6, h⟩ | ⟨h_x6, h⟩
   ·
    exact mgo_at (nb := 1) hmix (ih _ _ h) (n := 21) (ad := [(some 8, .call (.ret (.ag [ic r0_x3, sc r1_x3, ic r2_x3, ic r3_x3, ic r4_x3])) [[.imm rb00_x3, ic b0_1, ic b0_2]] false), aF 12, aF 26, aT 42]) (ps := [_, _, _, _]) (m := bm 95 39614081257132168796771975163) (ls := [3]) (cs := [(⟨⟨.loc 2, []⟩, 0, 1⟩, none)]) (by kernel_rfl) ⟨(ev46 h_x2), h_x4, h_x5, h_x6, trivial⟩
   ·
    rcases bif_or h with ⟨h_x7, h⟩ | ⟨h_x7, h⟩
    ·
     obtain ⟨v_x8, h_x9, h⟩ := bd_or h
     replace h := altC_or h; rcases h with ⟨v_x10, rfl, h⟩ | ⟨v_x10, rfl, h⟩
     ·
      replace h := tup4_or h; obtain ⟨ri00_x11, ri01_x11, rb00_x11, rb01_x11, rfl, h⟩ := h
      rw [← Option.some.inj h]
      exact mF 1 hmix [(some 8, .call (.ret (.ag [ic r0_x3, sc r1_x3, ic r2_x3, ic r3_x3, ic r4_x3])) [[.imm rb00_x3, ic b0_1, ic b0_2]] false), aF 12, aF 26, aF 42, aT 56, (some 59, .call (.panic (.iface 58 (.agg #[.int .i64 ri00_x11, .int .i64 ri01_x11]))) [[.imm rb00_x11, ic rb01_x11, ic b0_2]] false)] [_, _, _, _, _, _] (by kernel_rfl) ⟨(ev46 h_x2), h_x4, h_x5, h_x6, h_x7, (ev85 h_x9), trivial⟩
     ·
      replace h := tup4_or h; obtain ⟨r00_x11, r10_x11, rb00_x11, rb01_x11, rfl, h⟩ := h
      exact mgo_at (nb := 1) hmix (ih _ _ h) (n := 24) (ad := [(some 8, .call (.ret (.ag [ic r0_x3, sc r1_x3, ic r2_x3, ic r3_x3, ic r4_x3])) [[.imm rb00_x3, ic b0_1, ic b0_2]] false), aF 12, aF 26, aF 42, aT 56, (some 59, .call (.ret ⟨.tup [false, false], [[sc r00_x11], [sc r10_x11]]⟩) [[.imm rb00_x11, ic rb01_x11, ic b0_2]] false)]) (ps := [_, _, _, _, _, _]) (m := bm 95 39614081257132168796771975163) (ls := [3]) (cs := [(⟨⟨.loc 2, []⟩, 0, 1⟩, none)]) (by kernel_rfl) ⟨(ev46 h_x2), h_x4, h_x5, h_x6, h_x7, (ev85 h_x9), trivial⟩
    ·
     rcases bif_or h with ⟨h_x8, h⟩ | ⟨h_x8, h⟩
     ·
      rcases bif_or h with ⟨h_x9, h⟩ | ⟨h_x9, h⟩
      ·
       obtain ⟨v_x10, h_x11, h⟩ := bd_or h
       replace h := altC_or h; rcases h with ⟨v_x12, rfl, h⟩ | ⟨v_x12, rfl, h⟩
       ·
        replace h := tup5_or h; obtain ⟨ri00_x13, ri01_x13, rb00_x13, rb01_x13, rb02_x13, rfl, h⟩ := h
        rw [← Option.some.inj h]
        exact mF 1 hmix [(some 8, .call (.ret (.ag [ic r0_x3, sc r1_x3, ic r2_x3, ic r3_x3, ic r4_x3])) [[.imm rb00_x3, ic b0_1, ic b0_2]] false), aF 12, aF 26, aF 42, aF 56, aT 68, aT 71, (some 73, .call (.panic (.iface 58 (.agg #[.int .i64 ri00_x13, .int .i64 ri01_x13]))) [[.imm rb00_x13, ic rb01_x13, ic rb02_x13]] false)] [_, _, _, _, _, _, _, _] (by kernel_rfl) ⟨(ev46 h_x2), h_x4, h_x5, h_x6, h_x7, h_x8, h_x9, (ev52 h_x11), trivial⟩
       ·
        replace h := tup4_or h; obtain ⟨r_x13, rb00_x13, rb01_x13, rb02_x13, rfl, h⟩ := h
        obtain ⟨v_x14, h_x15, h⟩ := bd_or h
        replace h := altC_or h; rcases h with ⟨v_x16, rfl, h⟩ | ⟨v_x16, rfl, h⟩
        ·
         replace h := tup5_or h; obtain ⟨ri00_x17, ri01_x17, rb00_x17, rb01_x17, rb02_x17, rfl, h⟩ := h
         rw [← Option.some.inj h]
         exact mF 1 hmix [(some 8, .call (.ret (.ag [ic r0_x3, sc r1_x3, ic r2_x3, ic r3_x3, ic r4_x3])) [[.imm rb00_x3, ic b0_1, ic b0_2]] false), aF 12, aF 26, aF 42, aF 56, aT 68, aT 71, (some 73, .call (.ret (.c (ic r_x13))) [[.imm rb00_x13, ic rb01_x13, ic rb02_x13]] false), (some 75, .call (.panic (.iface 58 (.agg #[.int .i64 ri00_x17, .int .i64 ri01_x17]))) [[.imm rb00_x17, ic rb01_x17, ic rb02_x17]] false)] [_, _, _, _, _, _, _, _, _] (by kernel_rfl) ⟨(ev46 h_x2), h_x4, h_x5, h_x6, h_x7, h_x8, h_x9, (ev52 h_x11), (evr22 (ih _ _ (sel22_or h_x15))), trivial⟩
        ·
         replace h := tup10_or h; obtain ⟨r0_x17, r1_x17, r2_x17, r3_x17, r4_x17, r5_x17, r6_x17, rb00_x17, rb01_x17, rb02_x17, rfl, h⟩ := h
         obtain ⟨v_x18, h_x19, h⟩ := bd_or h
         replace h := altC_or h; rcases h with ⟨v_x20, rfl, h⟩ | ⟨v_x20, rfl, h⟩
         ·
          replace h := tup4_or h; obtain ⟨ri00_x21, ri01_x21, rb00_x21, rb01_x21, rfl, h⟩ := h
          rw [← Option.some.inj h]
          exact mF 1 hmix [(some 8, .call (.ret (.ag [ic r0_x3, sc r1_x3, ic r2_x3, ic r3_x3, ic r4_x3])) [[.imm rb00_x3, ic b0_1, ic b0_2]] false), aF 12, aF 26, aF 42, aF 56, aT 68, aT 71, (some 73, .call (.ret (.c (ic r_x13))) [[.imm rb00_x13, ic rb01_x13, ic rb02_x13]] false), (some 75, .call (.ret (.ag [ic r0_x17, .imm r1_x17, ic r2_x17, ic r3_x17, sc r4_x17, sc r5_x17, ic r6_x17])) [[.imm rb00_x17, ic rb01_x17, ic rb02_x17]] false), (some 77, .call (.panic (.iface 58 (.agg #[.int .i64 ri00_x21, .int .i64 ri01_x21]))) [[.imm rb00_x21, ic rb01_x21, ic rb02_x17]] false)] [_, _, _, _, _, _, _, _, _, _] (by kernel_rfl) ⟨(ev46 h_x2), h_x4, h_x5, h_x6, h_x7, h_x8, h_x9, (ev52 h_x11), (evr22 (ih _ _ (sel22_or h_x15))), (ev86 h_x19), trivial⟩
         ·
          replace h := tup2_or h; obtain ⟨rb00_x21, rb01_x21, rfl, h⟩ := h
          exact mgo_at (nb := 1) hmix (ih _ _ h) (n := 36) (ad := [(some 8, .call (.ret (.ag [ic r0_x3, sc r1_x3, ic r2_x3, ic r3_x3, ic r4_x3])) [[.imm rb00_x3, ic b0_1, ic b0_2]] false), aF 12, aF 26, aF 42, aF 56, aT 68, aT 71, (some 73, .call (.ret (.c (ic r_x13))) [[.imm rb00_x13, ic rb01_x13, ic rb02_x13]] false), (some 75, .call (.ret (.ag [ic r0_x17, .imm r1_x17, ic r2_x17, ic r3_x17, sc r4_x17, sc r5_x17, ic r6_x17])) [[.imm rb00_x17, ic rb01_x17, ic rb02_x17]] false), (some 77, .call (.ret .undef) [[.imm rb00_x21, ic rb01_x21, ic rb02_x17]] false)]) (ps := [_, _, _, _, _, _, _, _, _, _]) (m := bm 95 39614081257132168796771975163) (ls := [6, 3]) (cs := []) (by kernel_rfl) ⟨(ev46 h_x2), h_x4, h_x5, h_x6, h_x7, h_x8, h_x9, (ev52 h_x11), (evr22 (ih _ _ (sel22_or h_x15))), (ev86 h_x19), trivial⟩
      ·
       exact mA 1 hmix (ih _ _ h) 28 [(some 8, .call (.ret (.ag [ic r0_x3, sc r1_x3, ic r2_x3, ic r3_x3, ic r4_x3])) [[.imm rb00_x3, ic b0_1, ic b0_2]] false), aF 12, aF 26, aF 42, aF 56, aT 68, aF 71] [_, _, _, _, _, _, _] (bm 95 39614081257132168796771975155) (by kernel_rfl) ⟨(ev46 h_x2), h_x4, h_x5, h_x6, h_x7, h_x8, h_x9, trivial⟩
     ·
      rcases bif_or h with ⟨h_x9, h⟩ | ⟨h_x9, h⟩
      ·
       obtain ⟨v_x10, h_x11, h⟩ := bd_or h
       replace h := altC_or h; rcases h with ⟨v_x12, rfl, h⟩ | ⟨v_x12, rfl, h⟩
       ·
        replace h := tup5_or h; obtain ⟨ri00_x13, ri01_x13, rb00_x13, rb01_x13, rb02_x13, rfl, h⟩ := h
        rw [← Option.some.inj h]
        exact mF 1 hmix [(some 8, .call (.ret (.ag [ic r0_x3, sc r1_x3, ic r2_x3, ic r3_x3, ic r4_x3])) [[.imm rb00_x3, ic b0_1, ic b0_2]] false), aF 12, aF 26, aF 42, aF 56, aF 68, aT 87, (some 90, .call (.panic (.iface 58 (.agg #[.int .i64 ri00_x13, .int .i64 ri01_x13]))) [[.imm rb00_x13, ic rb01_x13, ic rb02_x13]] false)] [_, _, _, _, _, _, _, _] (by kernel_rfl) ⟨(ev46 h_x2), h_x4, h_x5, h_x6, h_x7, h_x8, h_x9, (evr87 (ih _ _ (sel87_or h_x11))), trivial⟩
       ·
        replace h := tup10_or h; obtain ⟨r0_x13, r1_x13, r2_x13, r3_x13, r4_x13, r5_x13, r6_x13, rb00_x13, rb01_x13, rb02_x13, rfl, h⟩ := h
        exact mgo_at (nb := 1) hmix (ih _ _ h) (n := 28) (ad := [(some 8, .call (.ret (.ag [ic r0_x3, sc r1_x3, ic r2_x3, ic r3_x3, ic r4_x3])) [[.imm rb00_x3, ic b0_1, ic b0_2]] false), aF 12, aF 26, aF 42, aF 56, aF 68, aT 87, (some 90, .call (.ret (.ag [ic r0_x13, .own 7 r1_x13, ic r2_x13, ic r3_x13, sc r4_x13, sc r5_x13, ic r6_x13])) [[.imm rb00_x13, ic rb01_x13, ic rb02_x13]] false)]) (ps := [_, _, _, _, _, _, _, _]) (m := bm 95 39614081257132168796771975163) (ls := [3]) (cs := []) (by kernel_rfl) ⟨(ev46 h_x2), h_x4, h_x5, h_x6, h_x7, h_x8, h_x9, (evr87 (ih _ _ (sel87_or h_x11))), trivial⟩
      ·
       exact mA 1 hmix (ih _ _ h) 28 [(some 8, .call (.ret (.ag [ic r0_x3, sc r1_x3, ic r2_x3, ic r3_x3, ic r4_x3])) [[.imm rb00_x3, ic b0_1, ic b0_2]] false), aF 12, aF 26, aF 42, aF 56, aF 68, aF 87] [_, _, _, _, _, _, _] (bm 95 39614081257132168796771975155) (by kernel_rfl) ⟨(ev46 h_x2), h_x4, h_x5, h_x6, h_x7, h_x8, h_x9, trivial⟩
theorem t83_h0_ok (k) {rec} (ih : ∀ s r, rec s = some r → P22 s r) {l2_0 l2_1 l2_2 l2_3 l2_4 l2_5 l2_6 p0_0 p0_1 p0_2 r} (h : t83_h0 k rec l2_0 l2_1 l2_2 l2_3 l2_4 l2_5 l2_6 p0_0 p0_1 p0_2 = some r) : P22 (.h0_83 l2_0 l2_1 l2_2 l2_3 l2_4 l2_5 l2_6 p0_0 p0_1 p0_2) r := by
 unfold t83_h0 at h
 rw [← Option.some.inj h]
 exact mF 1 hmix [] [] (by kernel_rfl) trivial
theorem t83_h1_ok (k) {rec} (ih : ∀ s r, rec s = some r → P22 s r) {l2_0 l2_1 l2_2 l2_3 l2_4 l2_5 l2_6 p0_0 p0_1 p0_2 r} (h : t83_h1 k rec l2_0 l2_1 l2_2 l2_3 l2_4 l2_5 l2_6 p0_0 p0_1 p0_2 = some r) : P22 (.h1_83 l2_0 l2_1 l2_2 l2_3 l2_4 l2_5 l2_6 p0_0 p0_1 p0_2) r := by
 unfold t83_h1 at h
 rw [← Option.some.inj h]
 exact mF 1 hmix [] [] (by kernel_rfl) trivial
theorem t83_h2_ok (k) {rec} (ih : ∀ s r, rec s = some r → P22 s r) {l2_0 l2_1 l2_2 l2_3 l2_4 l2_5 l2_6 p0_0 p0_1 p0_2 r} (h : t83_h2 k rec l2_0 l2_1 l2_2 l2_3 l2_4 l2_5 l2_6 p0_0 p0_1 p0_2 = some r) : P22 (.h2_83 l2_0 l2_1 l2_2 l2_3 l2_4 l2_5 l2_6 p0_0 p0_1 p0_2) r := by
 unfold t83_h2 at h
 rw [← Option.some.inj h]
 exact mF 1 hmix [] [] (by kernel_rfl) trivial
theorem t83_h3_ok (k) {rec} (ih : ∀ s r, rec s = some r → P22 s r) {l2_0 l2_1 l2_2 l2_3 l2_4 l2_5 l2_6 p0_0 p0_1 p0_2 r} (h : t83_h3 k rec l2_0 l2_1 l2_2 l2_3 l2_4 l2_5 l2_6 p0_0 p0_1 p0_2 = some r) : P22 (.h3_83 l2_0 l2_1 l2_2 l2_3 l2_4 l2_5 l2_6 p0_0 p0_1 p0_2) r := by
 unfold t83_h3 at h
 rw [← Option.some.inj h]
 exact mF 1 hmix [] [] (by kernel_rfl) trivial
theorem t83_h4_ok (k) {rec} (ih : ∀ s r, rec s = some r → P22 s r) {l2_0 l2_1 l2_2 l2_3 l2_4 l2_5 l2_6 p0_0 p0_1 p0_2 r} (h : t83_h4 k rec l2_0 l2_1 l2_2 l2_3 l2_4 l2_5 l2_6 p0_0 p0_1 p0_2 = some r) : P22 (.h4_83 l2_0 l2_1 l2_2 l2_3 l2_4 l2_5 l2_6 p0_0 p0_1 p0_2) r := by
 unfold t83_h4 at h
 rw [← Option.some.inj h]
 exact mF 1 hmix [] [] (by kernel_rfl) trivial
theorem t83_h5_ok (k) {rec} (ih : ∀ s r, rec s = some r → P22 s r) {l3_0 l3_1 l3_2 l3_3 l3_4 l2_0 l2_2 l2_3 l2_4 l2_5 l2_6 p0_0 p0_1 p0_2 r} (h : t83_h5 k rec l3_0 l3_1 l3_2 l3_3 l3_4 l2_0 l2_2 l2_3 l2_4 l2_5 l2_6 p0_0 p0_1 p0_2 = some r) : P22 (.h5_83 l3_0 l3_1 l3_2 l3_3 l3_4 l2_0 l2_2 l2_3 l2_4 l2_5 l2_6 p0_0 p0_1 p0_2) r := by
 unfold t83_h5 at h
 rw [← Option.some.inj h]
 exact mF 1 hmix [] [] (by kernel_rfl) trivial
theorem t83_h6_ok (k) {rec} (ih : ∀ s r, rec s = some r → P22 s r) {l2_0 l2_1 l2_2 l2_3 l2_4 l2_5 l2_6 p0_0 p0_1 p0_2 r} (h : t83_h6 k rec l2_0 l2_1 l2_2 l2_3 l2_4 l2_5 l2_6 p0_0 p0_1 p0_2 = some r) : P22 (.h6_83 l2_0 l2_1 l2_2 l2_3 l2_4 l2_5 l2_6 p0_0 p0_1 p0_2) r := by
 unfold t83_h6 at h
 rw [← Option.some.inj h]
 exact mF 1 hmix [] [] (by kernel_rfl) trivial
theorem t87_e_ok (k) {rec} (ih : ∀ s r, rec s = some r → P22 s r) {t1_0 t1_1 t1_2 t1_3 t1_4 b0_0 b0_1 b0_2 r} (h : t87_e k rec t1_0 t1_1 t1_2 t1_3 t1_4 b0_0 b0_1 b0_2 = some r) : P22 (.e_87 t1_0 t1_1 t1_2 t1_3 t1_4 b0_0 b0_1 b0_2) r := by
 unfold t87_e at h
 rcases bif_or h with ⟨h_x1, h⟩ | ⟨h_x1, h⟩
 ·
  exact mA 1 hmix (ih _ _ h) 11 [aT 11] [_] (bm 57 144115188075854310) (by kernel_rfl) ⟨h_x1, trivial⟩
 ·
  exact mA 1 hmix (ih _ _ h) 11 [aF 11] [_] (bm 57 144115188075854310) (by kernel_rfl) ⟨h_x1, trivial⟩
theorem t87_h0_ok (k) {rec} (ih : ∀ s r, rec s = some r → P22 s r) {t9 t10 l4_0 l4_2 l4_3 l4_4 l4_5 l4_6 l3_0 l3_1 l3_2 l3_3 l3_4 p0_0 p0_1 p0_2 r} (h : t87_h0 k rec t9 t10 l4_0 l4_2 l4_3 l4_4 l4_5 l4_6 l3_0 l3_1 l3_2 l3_3 l3_4 p0_0 p0_1 p0_2 = some r) : P22 (.h0_87 t9 t10 l4_0 l4_2 l4_3 l4_4 l4_5 l4_6 l3_0 l3_1 l3_2 l3_3 l3_4 p0_0 p0_1 p0_2) r := by
 unfold t87_h0 at h
 replace h := bif_or h; rcases h with ⟨rfl, h⟩ | ⟨rfl, h⟩
 ·
  rcases bif_or h with ⟨h_x1, h⟩ | ⟨h_x1, h⟩
  ·
   exact mA 1 hmix (ih _ _ h) 10 [aT 22] [_] (bm 57 144115188075855815) (by kernel_rfl) ⟨h_x1, trivial⟩
  ·
   exact mA 1 hmix (ih _ _ h) 10 [aF 22] [_] (bm 57 144115188075855815) (by kernel_rfl) ⟨h_x1, trivial⟩
 ·
  rcases bif_or h with ⟨h_x1, h⟩ | ⟨h_x1, h⟩
  ·
   exact mA 1 hmix (ih _ _ h) 6 [aT 28] [_] (bm 57 144115187941638118) (by kernel_rfl) ⟨h_x1, trivial⟩
  ·
   exact mA 1 hmix (ih _ _ h) 6 [aF 28] [_] (bm 57 144115187941638118) (by kernel_rfl) ⟨h_x1, trivial⟩
theorem t87_h1_ok (k) {rec} (ih : ∀ s r, rec s = some r → P22 s r) {n5 l4_0 l4_2 l4_3 l4_4 l4_5 l4_6 l3_0 l3_1 l3_2 l3_3 l3_4 p0_0 p0_1 p0_2 r} (h : t87_h1 k rec n5 l4_0 l4_2 l4_3 l4_4 l4_5 l4_6 l3_0 l3_1 l3_2 l3_3 l3_4 p0_0 p0_1 p0_2 = some r) : P22 (.h1_87 n5 l4_0 l4_2 l4_3 l4_4 l4_5 l4_6 l3_0 l3_1 l3_2 l3_3 l3_4 p0_0 p0_1 p0_2) r := by
 unfold t87_h1 at h
 exact mgo_at (nb := 1) hmix (ih _ _ h) (n := 2) (ad := []) (ps := []) (m := bm 57 144115188075855855) (ls := [3]) (cs := [(⟨⟨.loc 4, []⟩, 0, 1⟩, some 7)]) (by kernel_rfl) trivial
theorem t87_h2_ok (k) {rec} (ih : ∀ s r, rec s = some r → P22 s r) {t27 l4_0 l4_2 l4_3 l4_4 l4_5 l4_6 l3_0 l3_1 l3_2 l3_3 l3_4 p0_0 p0_1 p0_2 r} (h : t87_h2 k rec t27 l4_0 l4_2 l4_3 l4_4 l4_5 l4_6 l3_0 l3_1 l3_2 l3_3 l3_4 p0_0 p0_1 p0_2 = some r) : P22 (.h2_87 t27 l4_0 l4_2 l4_3 l4_4 l4_5 l4_6 l3_0 l3_1 l3_2 l3_3 l3_4 p0_0 p0_1 p0_2) r := by
 unfold t87_h2 at h
 replace h := bif_or h; rcases h with ⟨rfl, h⟩ | ⟨rfl, h⟩
 ·
  obtain ⟨v_x1, h_x2, h⟩ := bd_or h
  replace h := altC_or h; rcases h with ⟨v_x3, rfl, h⟩ | ⟨v_x3, rfl, h⟩
  ·
   replace h := tup5_or h; obtain ⟨ri00_x4, ri01_x4, rb00_x4, rb01_x4, rb02_x4, rfl, h⟩ := h
   rw [← Option.some.inj h]
   exact mF 1 hmix [(some 31, .call (.panic (.iface 58 (.agg #[.int .i64 ri00_x4, .int .i64 ri01_x4]))) [[.imm rb00_x4, ic rb01_x4, ic rb02_x4]] false)] [_] (by kernel_rfl) ⟨(ev52 h_x2), trivial⟩
  ·
   replace h := tup4_or h; obtain ⟨r_x4, rb00_x4, rb01_x4, rb02_x4, rfl, h⟩ := h
   obtain ⟨v_x5, h_x6, h⟩ := bd_or h
   replace h := altC_or h; rcases h with ⟨v_x7, rfl, h⟩ | ⟨v_x7, rfl, h⟩
   ·
    replace h := tup4_or h; obtain ⟨ri00_x8, ri01_x8, rb00_x8, rb01_x8, rfl, h⟩ := h
    rw [← Option.some.inj h]
    exact mF 1 hmix [(some 31, .call (.ret (.c (ic r_x4))) [[.imm rb00_x4, ic rb01_x4, ic rb02_x4]] false), (some 33, .call (.panic (.iface 58 (.agg #[.int .i64 ri00_x8, .int .i64 ri01_x8]))) [[.imm rb00_x8, ic rb01_x8, ic rb02_x4]] false)] [_, _] (by kernel_rfl) ⟨(ev52 h_x2), (ev86 h_x6), trivial⟩
   ·
    replace h := tup2_or h; obtain ⟨rb00_x8, rb01_x8, rfl, h⟩ := h
    obtain ⟨v_x9, h_x10, h⟩ := bd_or h
    replace h := altC_or h; rcases h with ⟨v_x11, rfl, h⟩ | ⟨v_x11, rfl, h⟩
    ·
     replace h := tup5_or h; obtain ⟨ri00_x12, ri01_x12, rb00_x12, rb01_x12, rb02_x12, rfl, h⟩ := h
     rw [← Option.some.inj h]
     exact mF 1 hmix [(some 31, .call (.ret (.c (ic r_x4))) [[.imm rb00_x4, ic rb01_x4, ic rb02_x4]] false), (some 33, .call (.ret .undef) [[.imm rb00_x8, ic rb01_x8, ic rb02_x4]] false), (some 35, .call (.panic (.iface 58 (.agg #[.int .i64 ri00_x12, .int .i64 ri01_x12]))) [[.imm rb00_x12, ic rb01_x12, ic rb02_x12]] false)] [_, _, _] (by kernel_rfl) ⟨(ev52 h_x2), (ev86 h_x6), (evr22 (ih _ _ (sel22_or h_x10))), trivial⟩
    ·
     replace h := tup10_or h; obtain ⟨r0_x12, r1_x12, r2_x12, r3_x12, r4_x12, r5_x12, r6_x12, rb00_x12, rb01_x12, rb02_x12, rfl, h⟩ := h
     obtain ⟨v_x13, h_x14, h⟩ := bd_or h
     replace h := altC_or h; rcases h with ⟨v_x15, rfl, h⟩ | ⟨v_x15, rfl, h⟩
     ·
      replace h := tup4_or h; obtain ⟨ri00_x16, ri01_x16, rb00_x16, rb01_x16, rfl, h⟩ := h
      rw [← Option.some.inj h]
      exact mF 1 hmix [(some 31, .call (.ret (.c (ic r_x4))) [[.imm rb00_x4, ic rb01_x4, ic rb02_x4]] false), (some 33, .call (.ret .undef) [[.imm rb00_x8, ic rb01_x8, ic rb02_x4]] false), (some 35, .call (.ret (.ag [ic r0_x12, .imm r1_x12, ic r2_x12, ic r3_x12, sc r4_x12, sc r5_x12, ic r6_x12])) [[.imm rb00_x12, ic rb01_x12, ic rb02_x12]] false), (some 37, .call (.panic (.iface 58 (.agg #[.int .i64 ri00_x16, .int .i64 ri01_x16]))) [[.imm rb00_x16, ic rb01_x16, ic rb02_x12]] false)] [_, _, _, _] (by kernel_rfl) ⟨(ev52 h_x2), (ev86 h_x6), (evr22 (ih _ _ (sel22_or h_x10))), (ev86 h_x14), trivial⟩
     ·
      replace h := tup2_or h; obtain ⟨rb00_x16, rb01_x16, rfl, h⟩ := h
      rcases bif_or h with ⟨h_x17, h⟩ | ⟨h_x17, h⟩
      ·
       exact mgo_at (nb := 1) hmix (ih _ _ h) (n := 20) (ad := [(some 31, .call (.ret (.c (ic r_x4))) [[.imm rb00_x4, ic rb01_x4, ic rb02_x4]] false), (some 33, .call (.ret .undef) [[.imm rb00_x8, ic rb01_x8, ic rb02_x4]] false), (some 35, .call (.ret (.ag [ic r0_x12, .imm r1_x12, ic r2_x12, ic r3_x12, sc r4_x12, sc r5_x12, ic r6_x12])) [[.imm rb00_x12, ic rb01_x12, ic rb02_x12]] false), (some 37, .call (.ret .undef) [[.imm rb00_x16, ic rb01_x16, ic rb02_x12]] false), aT 47]) (ps := [_, _, _, _, _]) (m := bm 57 144115188075855855) (ls := [6, 3]) (cs := []) (by kernel_rfl) ⟨(ev52 h_x2), (ev86 h_x6), (evr22 (ih _ _ (sel22_or h_x10))), (ev86 h_x14), h_x17, trivial⟩
      ·
       exact mgo_at (nb := 1) hmix (ih _ _ h) (n := 20) (ad := [(some 31, .call (.ret (.c (ic r_x4))) [[.imm rb00_x4, ic rb01_x4, ic rb02_x4]] false), (some 33, .call (.ret .undef) [[.imm rb00_x8, ic rb01_x8, ic rb02_x4]] false), (some 35, .call (.ret (.ag [ic r0_x12, .imm r1_x12, ic r2_x12, ic r3_x12, sc r4_x12, sc r5_x12, ic r6_x12])) [[.imm rb00_x12, ic rb01_x12, ic rb02_x12]] false), (some 37, .call (.ret .undef) [[.imm rb00_x16, ic rb01_x16, ic rb02_x12]] false), aF 47]) (ps := [_, _, _, _, _]) (m := bm 57 144115188075855855) (ls := [6, 3]) (cs := []) (by kernel_rfl) ⟨(ev52 h_x2), (ev86 h_x6), (evr22 (ih _ _ (sel22_or h_x10))), (ev86 h_x14), h_x17, trivial⟩
 ·
  obtain ⟨v_x1, h_x2, h⟩ := bd_or h
  replace h := altC_or h; rcases h with ⟨v_x3, rfl, h⟩ | ⟨v_x3, rfl, h⟩
  ·
   replace h := tup4_or h; obtain ⟨ri00_x4, ri01_x4, rb00_x4, rb01_x4, rfl, h⟩ := h
   rw [← Option.some.inj h]
   exact mF 1 hmix [(some 56, .call (.panic (.iface 58 (.agg #[.int .i64 ri00_x4, .int .i64 ri01_x4]))) [[.imm rb00_x4, ic rb01_x4, ic p0_2]] false)] [_] (by kernel_rfl) ⟨(ev91 h_x2), trivial⟩
  ·
   replace h := tup8_or h; obtain ⟨r0_x4, r2_x4, r3_x4, r4_x4, r5_x4, r6_x4, rb00_x4, rb01_x4, rfl, h⟩ := h
   exact mgo_at (nb := 1) hmix (ih _ _ h) (n := 5) (ad := [(some 56, .call (.ret (.ag [ic r0_x4, .nil, ic r2_x4, ic r3_x4, sc r4_x4, sc r5_x4, ic r6_x4])) [[.imm rb00_x4, ic rb01_x4, ic p0_2]] false)]) (ps := [_]) (m := bm 57 144115188075855855) (ls := [3]) (cs := [(⟨⟨.loc 4, []⟩, 0, 1⟩, some 7)]) (by kernel_rfl) ⟨(ev91 h_x2), trivial⟩
theorem t87_h3_ok (k) {rec} (ih : ∀ s r, rec s = some r → P22 s r) {l4_0 l4_1 l4_2 l4_3 l4_4 l4_5 l4_6 p0_0 p0_1 p0_2 r} (h : t87_h3 k rec l4_0 l4_1 l4_2 l4_3 l4_4 l4_5 l4_6 p0_0 p0_1 p0_2 = some r) : P22 (.h3_87 l4_0 l4_1 l4_2 l4_3 l4_4 l4_5 l4_6 p0_0 p0_1 p0_2) r := by
 unfold t87_h3 at h
 rw [← Option.some.inj h]
 exact mF 1 hmix [] [] (by kernel_rfl) trivial
theorem t87_h4_ok (k) {rec} (ih : ∀ s r, rec s = some r → P22 s r) {l4_0 l4_1 l4_2 l4_3 l4_4 l4_5 l4_6 p0_0 p0_1 p0_2 r} (h : t87_h4 k rec l4_0 l4_1 l4_2 l4_3 l4_4 l4_5 l4_6 p0_0 p0_1 p0_2 = some r) : P22 (.h4_87 l4_0 l4_1 l4_2 l4_3 l4_4 l4_5 l4_6 p0_0 p0_1 p0_2) r := by
 unfold t87_h4 at h
 rw [← Option.some.inj h]
 exact mF 1 hmix [] [] (by kernel_rfl) trivial
theorem t87_h5_ok (k) {rec} (ih : ∀ s r, rec s = some r → P22 s r) {l4_0 l4_1 l4_2 l4_3 l4_4 l4_5 l4_6 p0_0 p0_1 p0_2 r} (h : t87_h5 k rec l4_0 l4_1 l4_2 l4_3 l4_4 l4_5 l4_6 p0_0 p0_1 p0_2 = some r) : P22 (.h5_87 l4_0 l4_1 l4_2 l4_3 l4_4 l4_5 l4_6 p0_0 p0_1 p0_2) r := by
 unfold t87_h5 at h
 rw [← Option.some.inj h]
 exact mF 1 hmix [] [] (by kernel_rfl) trivial
theorem t38_e_ok (k) {rec} (ih : ∀ s r, rec s = some r → P22 s r) {op1 x2_0 x2_1 x2_2 x2_3 x2_4 x2_5 x2_6 b0_0 b0_1 b0_2 r} (h : t38_e k rec op1 x2_0 x2_1 x2_2 x2_3 x2_4 x2_5 x2_6 b0_0 b0_1 b0_2 = some r) : P22 (.e_38 op1 x2_0 x2_1 x2_2 x2_3 x2_4 x2_5 x2_6 b0_0 b0_1 b0_2) r := by
 unfold t38_e at h
 obtain ⟨v_x1, h_x2, h⟩ := bd_or h
 replace h := tup6_or h; obtain ⟨r0_x3, r1_x3, r2_x3, r3_x3, r4_x3, rb00_x3, rfl, h⟩ := h
 obtain ⟨v_x4, h_x5, h⟩ := bd_or h
 replace h := altC_or h; rcases h with ⟨v_x6, rfl, h⟩ | ⟨v_x4_0, rfl, h⟩
 ·
  replace h := tup5_or h; obtain ⟨ri00_x7, ri01_x7, rb00_x7, rb01_x7, rb02_x7, rfl, h⟩ := h
  cases h
 ·
  replace h := altC_or h; rcases h with ⟨v_x6, rfl, h⟩ | ⟨v_x6, rfl, h⟩
  ·
   replace h := tup10_or h; obtain ⟨r0_x7, r1_x7, r2_x7, r3_x7, r4_x7, r5_x7, r6_x7, rb00_x7, rb01_x7, rb02_x7, rfl, h⟩ := h
   rw [← Option.some.inj h]
   exact mF 1 hmix [(some 11, .call (.ret (.ag [ic r0_x3, sc r1_x3, ic r2_x3, ic r3_x3, ic r4_x3])) [[.imm rb00_x3, ic b0_1, ic b0_2]] false), (some 23, .call (.ret (.ag [ic r0_x7, .own 7 r1_x7, ic r2_x7, ic r3_x7, sc r4_x7, sc r5_x7, ic r6_x7])) [[.imm rb00_x7, ic rb01_x7, ic rb02_x7]] false)] [_, _] (by kernel_rfl) ⟨(ev46 h_x2), (evr78 (ih _ _ (sel78_or h_x5))), trivial⟩
  ·
   replace h := tup10_or h; obtain ⟨r0_x7, r1_x7, r2_x7, r3_x7, r4_x7, r5_x7, r6_x7, rb00_x7, rb01_x7, rb02_x7, rfl, h⟩ := h
   rw [← Option.some.inj h]
   exact mF 1 hmix [(some 11, .call (.ret (.ag [ic r0_x3, sc r1_x3, ic r2_x3, ic r3_x3, ic r4_x3])) [[.imm rb00_x3, ic b0_1, ic b0_2]] false), (some 23, .call (.ret (.ag [ic r0_x7, .imm r1_x7, ic r2_x7, ic r3_x7, sc r4_x7, sc r5_x7, ic r6_x7])) [[.imm rb00_x7, ic rb01_x7, ic rb02_x7]] false)] [_, _] (by kernel_rfl) ⟨(ev46 h_x2), (evr78 (ih _ _ (sel78_or h_x5))), trivial⟩
theorem t38b_e_ok (k) {rec} (ih : ∀ s r, rec s = some r → P22 s r) {op1 x2_0 x2_1 x2_2 x2_3 x2_4 x2_5 x2_6 b0_0 b0_1 b0_2 r} (h : t38b_e k rec op1 x2_0 x2_1 x2_2 x2_3 x2_4 x2_5 x2_6 b0_0 b0_1 b0_2 = some r) : P22 (.e_38b op1 x2_0 x2_1 x2_2 x2_3 x2_4 x2_5 x2_6 b0_0 b0_1 b0_2) r := by
 unfold t38b_e at h
 obtain ⟨v_x1, h_x2, h⟩ := bd_or h
 replace h := tup6_or h; obtain ⟨r0_x3, r1_x3, r2_x3, r3_x3, r4_x3, rb00_x3, rfl, h⟩ := h
 obtain ⟨v_x4, h_x5, h⟩ := bd_or h
 replace h := altC_or h; rcases h with ⟨v_x6, rfl, h⟩ | ⟨v_x6, rfl, h⟩
 ·
  replace h := tup5_or h; obtain ⟨ri00_x7, ri01_x7, rb00_x7, rb01_x7, rb02_x7, rfl, h⟩ := h
  cases h
 ·
  replace h := tup10_or h; obtain ⟨r0_x7, r1_x7, r2_x7, r3_x7, r4_x7, r5_x7, r6_x7, rb00_x7, rb01_x7, rb02_x7, rfl, h⟩ := h
  rw [← Option.some.inj h]
  exact mF 1 hmix [(some 11, .call (.ret (.ag [ic r0_x3, sc r1_x3, ic r2_x3, ic r3_x3, ic r4_x3])) [[.imm rb00_x3, ic b0_1, ic b0_2]] false), (some 23, .call (.ret (.ag [ic r0_x7, .imm r1_x7, ic r2_x7, ic r3_x7, sc r4_x7, sc r5_x7, ic r6_x7])) [[.imm rb00_x7, ic rb01_x7, ic rb02_x7]] false)] [_, _] (by kernel_rfl) ⟨(ev46 h_x2), (evr70 (ih _ _ (sel70_or h_x5))), trivial⟩
theorem t38c_e_ok (k) {rec} (ih : ∀ s r, rec s = some r → P22 s r) {op1 x2_0 x2_1 x2_2 x2_3 x2_4 x2_5 x2_6 b0_0 b0_1 b0_2 r} (h : t38c_e k rec op1 x2_0 x2_1 x2_2 x2_3 x2_4 x2_5 x2_6 b0_0 b0_1 b0_2 = some r) : P22 (.e_38c op1 x2_0 x2_1 x2_2 x2_3 x2_4 x2_5 x2_6 b0_0 b0_1 b0_2) r := by
 unfold t38c_e at h
 obtain ⟨v_x1, h_x2, h⟩ := bd_or h
 replace h := tup6_or h; obtain ⟨r0_x3, r1_x3, r2_x3, r3_x3, r4_x3, rb00_x3, rfl, h⟩ := h
 obtain ⟨v_x4, h_x5, h⟩ := bd_or h
 replace h := altC_or h; rcases h with ⟨v_x6, rfl, h⟩ | ⟨v_x6, rfl, h⟩
 ·
  replace h := tup5_or h; obtain ⟨ri00_x7, ri01_x7, rb00_x7, rb01_x7, rb02_x7, rfl, h⟩ := h
  cases h
 ·
  replace h := tup10_or h; obtain ⟨r0_x7, r1_x7, r2_x7, r3_x7, r4_x7, r5_x7, r6_x7, rb00_x7, rb01_x7, rb02_x7, rfl, h⟩ := h
  rw [← Option.some.inj h]
  exact mF 1 hmix [(some 11, .call (.ret (.ag [ic r0_x3, sc r1_x3, ic r2_x3, ic r3_x3, ic r4_x3])) [[.imm rb00_x3, ic b0_1, ic b0_2]] false), (some 23, .call (.ret (.ag [ic r0_x7, .imm r1_x7, ic r2_x7, ic r3_x7, sc r4_x7, sc r5_x7, ic r6_x7])) [[.imm rb00_x7, ic rb01_x7, ic rb02_x7]] false)] [_, _] (by kernel_rfl) ⟨(ev46 h_x2), (evr59 (ih _ _ (sel59_or h_x5))), trivial⟩
theorem t38d_e_ok (k) {rec} (ih : ∀ s r, rec s = some r → P22 s r) {op1 x2_0 x2_1 x2_2 x2_3 x2_4 x2_5 x2_6 b0_0 b0_1 b0_2 r} (h : t38d_e k rec op1 x2_0 x2_1 x2_2 x2_3 x2_4 x2_5 x2_6 b0_0 b0_1 b0_2 = some r) : P22 (.e_38d op1 x2_0 x2_1 x2_2 x2_3 x2_4 x2_5 x2_6 b0_0 b0_1 b0_2) r := by
 unfold t38d_e at h
 obtain ⟨v_x1, h_x2, h⟩ := bd_or h
 replace h := tup6_or h; obtain ⟨r0_x3, r1_x3, r2_x3, r3_x3, r4_x3, rb00_x3, rfl, h⟩ := h
 obtain ⟨v_x4, h_x5, h⟩ := bd_or h
 replace h := altC_or h; rcases h with ⟨v_x6, rfl, h⟩ | ⟨v_x4_0, rfl, h⟩
 ·
  replace h := tup5_or h; obtain ⟨ri00_x7, ri01_x7, rb00_x7, rb01_x7, rb02_x7, rfl, h⟩ := h
  cases h
 ·
  replace h := altC_or h; rcases h with ⟨v_x6, rfl, h⟩ | ⟨v_x6, rfl, h⟩
  ·
   replace h := tup10_or h; obtain ⟨r0_x7, r1_x7, r2_x7, r3_x7, r4_x7, r5_x7, r6_x7, rb00_x7, rb01_x7, rb02_x7, rfl, h⟩ := h
   rw [← Option.some.inj h]
   exact mF 1 hmix [(some 11, .call (.ret (.ag [ic r0_x3, sc r1_x3, ic r2_x3, ic r3_x3, ic r4_x3])) [[.imm rb00_x3, ic b0_1, ic b0_2]] false), (some 23, .call (.ret (.ag [ic r0_x7, .imm r1_x7, ic r2_x7, ic r3_x7, sc r4_x7, sc r5_x7, ic r6_x7])) [[.imm rb00_x7, ic rb01_x7, ic rb02_x7]] false)] [_, _] (by kernel_rfl) ⟨(ev46 h_x2), (evr45 (ih _ _ (sel45_or h_x5))), trivial⟩
  ·
   replace h := tup10_or h; obtain ⟨r0_x7, r1_x7, r2_x7, r3_x7, r4_x7, r5_x7, r6_x7, rb00_x7, rb01_x7, rb02_x7, rfl, h⟩ := h
   rw [← Option.some.inj h]
   exact mF 1 hmix [(some 11, .call (.ret (.ag [ic r0_x3, sc r1_x3, ic r2_x3, ic r3_x3, ic r4_x3])) [[.imm rb00_x3, ic b0_1, ic b0_2]] false), (some 23, .call (.ret (.ag [ic r0_x7, .own 7 r1_x7, ic r2_x7, ic r3_x7, sc r4_x7, sc r5_x7, ic r6_x7])) [[.imm rb00_x7, ic rb01_x7, ic rb02_x7]] false)] [_, _] (by kernel_rfl) ⟨(ev46 h_x2), (evr45 (ih _ _ (sel45_or h_x5))), trivial⟩
theorem t38e_e_ok (k) {rec} (ih : ∀ s r, rec s = some r → P22 s r) {op1 x2_0 x2_1 x2_2 x2_3 x2_4 x2_5 x2_6 b0_0 b0_1 b0_2 r} (h : t38e_e k rec op1 x2_0 x2_1 x2_2 x2_3 x2_4 x2_5 x2_6 b0_0 b0_1 b0_2 = some r) : P22 (.e_38e op1 x2_0 x2_1 x2_2 x2_3 x2_4 x2_5 x2_6 b0_0 b0_1 b0_2) r := by
 unfold t38e_e at h
 obtain ⟨v_x1, h_x2, h⟩ := bd_or h
 replace h := tup6_or h; obtain ⟨r0_x3, r1_x3, r2_x3, r3_x3, r4_x3, rb00_x3, rfl, h⟩ := h
 obtain ⟨v_x4, h_x5, h⟩ := bd_or h
 replace h := altC_or h; rcases h with ⟨v_x6, rfl, h⟩ | ⟨v_x6, rfl, h⟩
 ·
  replace h := tup5_or h; obtain ⟨ri00_x7, ri01_x7, rb00_x7, rb01_x7, rb02_x7, rfl, h⟩ := h
  cases h
 ·
  replace h := tup10_or h; obtain ⟨r0_x7, r1_x7, r2_x7, r3_x7, r4_x7, r5_x7, r6_x7, rb00_x7, rb01_x7, rb02_x7, rfl, h⟩ := h
  rw [← Option.some.inj h]
  exact mF 1 hmix [(some 11, .call (.ret (.ag [ic r0_x3, sc r1_x3, ic r2_x3, ic r3_x3, ic r4_x3])) [[.imm rb00_x3, ic b0_1, ic b0_2]] false), (some 23, .call (.ret (.ag [ic r0_x7, .imm r1_x7, ic r2_x7, ic r3_x7, sc r4_x7, sc r5_x7, ic r6_x7])) [[.imm rb00_x7, ic rb01_x7, ic rb02_x7]] false)] [_, _] (by kernel_rfl) ⟨(ev46 h_x2), (evr36 (ih _ _ (sel36_or h_x5))), trivial⟩
theorem ok22 : ∀ k s r, itS step22 k s = some r → P22 s r := itS_ok fun k rec ih s r h => match s, h with
 | .e_22 b0_0 b0_1 b0_2, h => t22_e_ok k ih h
 | .h0_22 l3_0 l3_1 l3_2 l3_3 l3_4 l3_5 l3_6 l2_0 l2_2 l2_3 l2_4 l2_5 l2_6 p0_0 p0_1 p0_2, h => t22_h0_ok k ih h
 | .h1_22 l3_0 l3_1 l3_2 l3_3 l3_4 l3_5 l3_6 l2_0 l2_2 l2_3 l2_4 l2_5 l2_6 p0_0 p0_1 p0_2, h => t22_h1_ok k ih h
 | .e_36 b0_0 b0_1 b0_2, h => t36_e_ok k ih h
 | .h0_36 l3_0 l3_1 l3_2 l3_3 l3_4 l3_5 l3_6 l2_0 l2_2 l2_3 l2_4 l2_5 l2_6 p0_0 p0_1 p0_2, h => t36_h0_ok k ih h
 | .h1_36 l3_0 l3_1 l3_2 l3_3 l3_4 l3_5 l3_6 l2_0 l2_2 l2_3 l2_4 l2_5 l2_6 p0_0 p0_1 p0_2, h => t36_h1_ok k ih h
 | .e_45 b0_0 b0_1 b0_2, h => t45_e_ok k ih h
 | .e_51 b0_0 b0_1 b0_2, h => t51_e_ok k ih h
 | .e_59 b0_0 b0_1 b0_2, h => t59_e_ok k ih h
 | .h0_59 l3_0 l3_1 l3_2 l3_3 l3_4 l3_5 l3_6 l2_0 l2_2 l2_3 l2_4 l2_5 l2_6 p0_0 p0_1 p0_2, h => t59_h0_ok k ih h
 | .h1_59 l3_0 l3_1 l3_2 l3_3 l3_4 l3_5 l3_6 l2_0 l2_2 l2_3 l2_4 l2_5 l2_6 p0_0 p0_1 p0_2, h => t59_h1_ok k ih h
 | .e_70 b0_0 b0_1 b0_2, h => t70_e_ok k ih h
 | .h0_70 l3_0 l3_1 l3_2 l3_3 l3_4 l3_5 l3_6 l2_0 l2_2 l2_3 l2_4 l2_5 l2_6 p0_0 p0_1 p0_2, h => t70_h0_ok k ih h
 | .h1_70 l3_0 l3_1 l3_2 l3_3 l3_4 l3_5 l3_6 l2_0 l2_2 l2_3 l2_4 l2_5 l2_6 p0_0 p0_1 p0_2, h => t70_h1_ok k ih h
 | .e_78 b0_0 b0_1 b0_2, h => t78_e_ok k ih h
 | .h0_78 l2_0 l2_1 l2_2 l2_3 l2_4 l2_5 l2_6 p0_0 p0_1 p0_2, h => t78_h0_ok k ih h
 | .h1_78 l2_0 l2_1 l2_2 l2_3 l2_4 l2_5 l2_6 p0_0 p0_1 p0_2, h => t78_h1_ok k ih h
 | .h2_78 l2_0 l2_1 l2_2 l2_3 l2_4 l2_5 l2_6 p0_0 p0_1 p0_2, h => t78_h2_ok k ih h
 | .e_83 b0_0 b0_1 b0_2, h => t83_e_ok k ih h
 | .h0_83 l2_0 l2_1 l2_2 l2_3 l2_4 l2_5 l2_6 p0_0 p0_1 p0_2, h => t83_h0_ok k ih h
 | .h1_83 l2_0 l2_1 l2_2 l2_3 l2_4 l2_5 l2_6 p0_0 p0_1 p0_2, h => t83_h1_ok k ih h
 | .h2_83 l2_0 l2_1 l2_2 l2_3 l2_4 l2_5 l2_6 p0_0 p0_1 p0_2, h => t83_h2_ok k ih h
 | .h3_83 l2_0 l2_1 l2_2 l2_3 l2_4 l2_5 l2_6 p0_0 p0_1 p0_2, h => t83_h3_ok k ih h
 | .h4_83 l2_0 l2_1 l2_2 l2_3 l2_4 l2_5 l2_6 p0_0 p0_1 p0_2, h => t83_h4_ok k ih h
 | .h5_83 l3_0 l3_1 l3_2 l3_3 l3_4 l2_0 l2_2 l2_3 l2_4 l2_5 l2_6 p0_0 p0_1 p0_2, h => t83_h5_ok k ih h
 | .h6_83 l2_0 l2_1 l2_2 l2_3 l2_4 l2_5 l2_6 p0_0 p0_1 p0_2, h => t83_h6_ok k ih h
 | .e_87 t1_0 t1_1 t1_2 t1_3 t1_4 b0_0 b0_1 b0_2, h => t87_e_ok k ih h
 | .h0_87 t9 t10 l4_0 l4_2 l4_3 l4_4 l4_5 l4_6 l3_0 l3_1 l3_2 l3_3 l3_4 p0_0 p0_1 p0_2, h => t87_h0_ok k ih h
 | .h1_87 n5 l4_0 l4_2 l4_3 l4_4 l4_5 l4_6 l3_0 l3_1 l3_2 l3_3 l3_4 p0_0 p0_1 p0_2, h => t87_h1_ok k ih h
 | .h2_87 t27 l4_0 l4_2 l4_3 l4_4 l4_5 l4_6 l3_0 l3_1 l3_2 l3_3 l3_4 p0_0 p0_1 p0_2, h => t87_h2_ok k ih h
 | .h3_87 l4_0 l4_1 l4_2 l4_3 l4_4 l4_5 l4_6 p0_0 p0_1 p0_2, h => t87_h3_ok k ih h
 | .h4_87 l4_0 l4_1 l4_2 l4_3 l4_4 l4_5 l4_6 p0_0 p0_1 p0_2, h => t87_h4_ok k ih h
 | .h5_87 l4_0 l4_1 l4_2 l4_3 l4_4 l4_5 l4_6 p0_0 p0_1 p0_2, h => t87_h5_ok k ih h
 | .e_38 op1 x2_0 x2_1 x2_2 x2_3 x2_4 x2_5 x2_6 b0_0 b0_1 b0_2, h => t38_e_ok k ih h
 | .e_38b op1 x2_0 x2_1 x2_2 x2_3 x2_4 x2_5 x2_6 b0_0 b0_1 b0_2, h => t38b_e_ok k ih h
 | .e_38c op1 x2_0 x2_1 x2_2 x2_3 x2_4 x2_5 x2_6 b0_0 b0_1 b0_2, h => t38c_e_ok k ih h
 | .e_38d op1 x2_0 x2_1 x2_2 x2_3 x2_4 x2_5 x2_6 b0_0 b0_1 b0_2, h => t38d_e_ok k ih h
 | .e_38e op1 x2_0 x2_1 x2_2 x2_3 x2_4 x2_5 x2_6 b0_0 b0_1 b0_2, h => t38e_e_ok k ih h
theorem ev22 {k : Nat} {b0_0 : Rs} {b0_1 b0_2 : Int} {r : R22_22} (h : g22 k b0_0 b0_1 b0_2 = some r) : Ev Tryd.prog noHand 22 [pP 0] [[.imm b0_0, ic b0_1, ic b0_2]] (res22 r) (bx22 r) := evr22 (ok22 _ _ _ (sel22_or h))
inductive S16 where
 | e (l0 : Rs) (from1 : Int)
 | h0 (l0 : Rs) (from1 : Int) (t16 : Bool) (l7_0 l6_0 l5_0 l4_0 l4_2 l4_3 : Int) (l4_4 l4_5 : ByteArray) (l4_6 : Int)
 | h1 (l7_0 l6_0 l5_0 l4_0 : Int) (l4_1 : Rs) (l4_2 l4_3 : Int) (l4_4 l4_5 : ByteArray) (l4_6 : Int)
 | h2 (l7_0 l6_0 l5_0 l4_0 : Int) (l4_1 : Rs) (l4_2 l4_3 : Int) (l4_4 l4_5 : ByteArray) (l4_6 : Int)
abbrev R16 := (Int × Int × Int × ByteArray × ByteArray × Int × Int × Int × Int) ⊕ (Int × Rs × Int × Int × ByteArray × ByteArray × Int × Int × Int × Int)
def res16 : R16 → ARes
 | (.inl (r_00, r_02, r_03, r_04, r_05, r_06, r_10, r_20, r_30)) => .ret ⟨.tup [true, false, false, false], [[ic r_00, .nil, ic r_02, ic r_03, sc r_04, sc r_05, ic r_06], [ic r_10], [ic r_20], [ic r_30]]⟩
 | (.inr (r_00, r_01, r_02, r_03, r_04, r_05, r_06, r_10, r_20, r_30)) => .ret ⟨.tup [true, false, false, false], [[ic r_00, .imm r_01, ic r_02, ic r_03, sc r_04, sc r_05, ic r_06], [ic r_10], [ic r_20], [ic r_30]]⟩
def bx16 : R16 → List (List Cell)
 | (.inl (r_00, r_02, r_03, r_04, r_05, r_06, r_10, r_20, r_30)) => []
 | (.inr (r_00, r_01, r_02, r_03, r_04, r_05, r_06, r_10, r_20, r_30)) => []
noncomputable def t16_e (k : Nat) (rec : S16 → Option R16) (l0 : Rs) (from1 : Int) : Option R16 :=
 bif decide (from1 < 0) then
  rec (.h0 l0 from1 true 0 0 0 0 0 0 (strB []) (strB []) 0)
 else
  rec (.h0 l0 from1 (decide (from1 ≥ (l0.length : Int))) 0 0 0 0 0 0 (strB []) (strB []) 0)
noncomputable def t16_h0 (k : Nat) (rec : S16 → Option R16) (l0 : Rs) (from1 : Int) (t16 : Bool) (l7_0 l6_0 l5_0 l4_0 l4_2 l4_3 : Int) (l4_4 l4_5 : ByteArray) (l4_6 : Int) : Option R16 :=
 bif t16 then
  rec (.h1 1 0 0 0 [] 0 0 (strB []) (strB []) 0)
 else
  (g22 k l0 from1 0).bind fun v_x1 =>
  altC v_x1 (fun v_x3 => 
    tup5 v_x3 fun ri00_x4 ri01_x4 rb00_x4 rb01_x4 rb02_x4 =>
    some (.inl (0, 0, 0, strB [], strB [], 0, 0, ri00_x4, ri01_x4))) (fun v_x3 => 
    tup10 v_x3 fun r0_x4 r1_x4 r2_x4 r3_x4 r4_x4 r5_x4 r6_x4 rb00_x4 rb01_x4 rb02_x4 =>
    rec (.h2 0 0 rb01_x4 r0_x4 r1_x4 r2_x4 r3_x4 r4_x4 r5_x4 r6_x4))
noncomputable def t16_h1 (k : Nat) (rec : S16 → Option R16) (l7_0 l6_0 l5_0 l4_0 : Int) (l4_1 : Rs) (l4_2 l4_3 : Int) (l4_4 l4_5 : ByteArray) (l4_6 : Int) : Option R16 :=
 some (.inr (l4_0, l4_1, l4_2, l4_3, l4_4, l4_5, l4_6, l5_0, l6_0, l7_0))
noncomputable def t16_h2 (k : Nat) (rec : S16 → Option R16) (l7_0 l6_0 l5_0 l4_0 : Int) (l4_1 : Rs) (l4_2 l4_3 : Int) (l4_4 l4_5 : ByteArray) (l4_6 : Int) : Option R16 :=
 some (.inr (l4_0, l4_1, l4_2, l4_3, l4_4, l4_5, l4_6, l5_0, l6_0, l7_0))
noncomputable def step16 (k : Nat) (rec : S16 → Option R16) : S16 → Option R16
 | .e l0 from1 => t16_e k rec l0 from1
 | .h0 l0 from1 t16 l7_0 l6_0 l5_0 l4_0 l4_2 l4_3 l4_4 l4_5 l4_6 => t16_h0 k rec l0 from1 t16 l7_0 l6_0 l5_0 l4_0 l4_2 l4_3 l4_4 l4_5 l4_6
 | .h1 l7_0 l6_0 l5_0 l4_0 l4_1 l4_2 l4_3 l4_4 l4_5 l4_6 => t16_h1 k rec l7_0 l6_0 l5_0 l4_0 l4_1 l4_2 l4_3 l4_4 l4_5 l4_6
 | .h2 l7_0 l6_0 l5_0 l4_0 l4_1 l4_2 l4_3 l4_4 l4_5 l4_6 => t16_h2 k rec l7_0 l6_0 l5_0 l4_0 l4_1 l4_2 l4_3 l4_4 l4_5 l4_6
noncomputable def g16 (k : Nat) (l0 : Rs) (from1 : Int) : Option R16 := itS step16 k (.e l0 from1)
noncomputable def P16 : S16 → R16 → Prop
 | .e l0 from1, r => FinD cx16 Tryd.f16 (DOf cx16.P none 0) [.code body16] (fr0 Tryd.f16 [.c (.imm l0), .c (ic from1)] []) (res16 r) (bx16 r)
 | .h0 l0 from1 t16 l7_0 l6_0 l5_0 l4_0 l4_2 l4_3 l4_4 l4_5 l4_6, r => FinD cx16 Tryd.f16 (DOf cx16.P none 0) (kAt body16 [1, 0, 1, 2] []) ⟨[.c (.imm l0), .c (ic from1), .deadv, .deadv, pL 4, pL 5, pL 6, pL 7] ++ rep 8 .deadv ++ [.c (bc t16)] ++ rep 13 .deadv, [(.loc 7, [ic l7_0]), (.loc 6, [ic l6_0]), (.loc 5, [ic l5_0]), (.loc 4, [ic l4_0, .nil, ic l4_2, ic l4_3, sc l4_4, sc l4_5, ic l4_6])]⟩ (res16 r) (bx16 r)
 | .h1 l7_0 l6_0 l5_0 l4_0 l4_1 l4_2 l4_3 l4_4 l4_5 l4_6, r => FinD cx16 Tryd.f16 (DOf cx16.P none 0) (kAt body16 [1, 0, 1, 0, 1, 2] []) ⟨rep 4 .deadv ++ [pL 4, pL 5, pL 6, pL 7] ++ rep 22 .deadv, [(.loc 7, [ic l7_0]), (.loc 6, [ic l6_0]), (.loc 5, [ic l5_0]), (.loc 4, [ic l4_0, .imm l4_1, ic l4_2, ic l4_3, sc l4_4, sc l4_5, ic l4_6])]⟩ (res16 r) (bx16 r)
 | .h2 l7_0 l6_0 l5_0 l4_0 l4_1 l4_2 l4_3 l4_4 l4_5 l4_6, r => FinD cx16 Tryd.f16 (DOf cx16.P (some 18) 21) (kAt body16 [1, 1, 1, 1, 1, 1, 2] []) ⟨rep 4 .deadv ++ [pL 4, pL 5, pL 6, pL 7] ++ rep 10 .deadv ++ [.c (.clo 21 [] [.ptr ⟨⟨.loc 4, []⟩, 0, 0⟩, .ptr ⟨⟨.loc 5, []⟩, 0, 0⟩, .ptr ⟨⟨.loc 6, []⟩, 0, 0⟩, .ptr ⟨⟨.loc 7, []⟩, 0, 0⟩])] ++ rep 11 .deadv, [(.loc 7, [ic l7_0]), (.loc 6, [ic l6_0]), (.loc 5, [ic l5_0]), (.loc 4, [ic l4_0, .imm l4_1, ic l4_2, ic l4_3, sc l4_4, sc l4_5, ic l4_6])]⟩ (res16 r) (bx16 r)
theorem evr16 {l0 : Rs} {from1 : Int} {r : R16} (h : P16 (.e l0 from1) r) : Ev Tryd.prog noHand 16 [.c (.imm l0), .c (ic from1)] [] (res16 r) (bx16 r) := evD_fin (fn := Tryd.f16) (body := body16) (by kernel_rfl) (by kernel_rfl) (by kernel_rfl) rfl h
theorem evd16p {b0_0 b0_2 b0_3 : Int} {b0_4 b0_5 : ByteArray} {b0_6 b1_0 b2_0 b3_0 pv_i00 pv_i01 : Int} : EvD Tryd.prog (.panicking [{ v := .iface 58 (.agg #[.int .i64 pv_i00, .int .i64 pv_i01]), recovered := false }]) (.panicking [{ v := .iface 58 (.agg #[.int .i64 pv_i00, .int .i64 pv_i01]), recovered := true }]) 21 [pP 0, pP 1, pP 2, pP 3] [[ic b0_0, .nil, ic b0_2, ic b0_3, sc b0_4, sc b0_5, ic b0_6], [ic b1_0], [ic b2_0], [ic b3_0]] (.ret .undef) [[ic 0, .nil, ic 0, ic 0, sc (strB []), sc (strB []), ic 0], [ic 0], [ic pv_i00], [ic pv_i01]] := clo_evD (fn := Tryd.f21) (body := body21) (cx := cx21) (nb := 4) (n := 2000) (val := .iface 58 (.agg #[.int .i64 pv_i00, .int .i64 pv_i01])) (ad1 := []) (ad2 := []) (ps := []) (by kernel_rfl) (by kernel_rfl) rfl hmix rfl (.inl ⟨rfl, rfl⟩) (by kernel_rfl) trivial
theorem evd16q {b0_0 : Int} {b0_1 : Rs} {b0_2 b0_3 : Int} {b0_4 b0_5 : ByteArray} {b0_6 b1_0 b2_0 b3_0 : Int} : EvD Tryd.prog .returning .returning 21 [pP 0, pP 1, pP 2, pP 3] [[ic b0_0, .imm b0_1, ic b0_2, ic b0_3, sc b0_4, sc b0_5, ic b0_6], [ic b1_0], [ic b2_0], [ic b3_0]] (.ret .undef) [[ic b0_0, .imm b0_1, ic b0_2, ic b0_3, sc b0_4, sc b0_5, ic b0_6], [ic b1_0], [ic b2_0], [ic b3_0]] := clo_evD (fn := Tryd.f21) (body := body21) (cx := cx21) (nb := 4) (n := 2000) (val := .nilIface) (ad1 := []) (ad2 := []) (ps := []) (by kernel_rfl) (by kernel_rfl) rfl hmix rfl (.inr ⟨rfl, rfl, rfl⟩) (by kernel_rfl) trivial
theorem t16_e_ok (k) {rec} (ih : ∀ s r, rec s = some r → P16 s r) {l0 from1 r} (h : t16_e k rec l0 from1 = some r) : P16 (.e l0 from1) r := by
 unfold t16_e at h
 rcases bif_or h with ⟨h_x1, h⟩ | ⟨h_x1, h⟩
 ·
  exact dgo_at (t := none) (f := 0) hmix (ih _ _ h) (n := 5) (ad := [aT 10]) (ps := [_]) (m := bm 30 1073676044) (ls := []) (cs := []) (by kernel_rfl) ⟨h_x1, trivial⟩
 ·
  exact dgo_at (t := none) (f := 0) hmix (ih _ _ h) (n := 5) (ad := [aF 10]) (ps := [_]) (m := bm 30 1073676044) (ls := []) (cs := []) (by kernel_rfl) ⟨h_x1, trivial⟩
theorem t16_h0_ok (k) {rec} (ih : ∀ s r, rec s = some r → P16 s r) {l0 from1 t16 l7_0 l6_0 l5_0 l4_0 l4_2 l4_3 l4_4 l4_5 l4_6 r} (h : t16_h0 k rec l0 from1 t16 l7_0 l6_0 l5_0 l4_0 l4_2 l4_3 l4_4 l4_5 l4_6 = some r) : P16 (.h0 l0 from1 t16 l7_0 l6_0 l5_0 l4_0 l4_2 l4_3 l4_4 l4_5 l4_6) r := by
 unfold t16_h0 at h
 replace h := bif_or h; rcases h with ⟨rfl, h⟩ | ⟨rfl, h⟩
 ·
  exact dgo_at (t := none) (f := 0) hmix (ih _ _ h) (n := 3) (ad := []) (ps := []) (m := bm 30 1073741583) (ls := []) (cs := [(⟨⟨.loc 4, []⟩, 0, 1⟩, none)]) (by kernel_rfl) trivial
 ·
  obtain ⟨v_x1, h_x2, h⟩ := bd_or h
  replace h := altC_or h; rcases h with ⟨v_x3, rfl, h⟩ | ⟨v_x3, rfl, h⟩
  ·
   replace h := tup5_or h; obtain ⟨ri00_x4, ri01_x4, rb00_x4, rb01_x4, rb02_x4, rfl, h⟩ := h
   rw [← Option.some.inj h]
   exact dgo_at (t := none) (f := 0) hmix (deferK (Q := fun G0 w0 => bodyPostD cx16.P Tryd.f16 (Went G0 w0 _ _)) (K0 := (kAt body16 [1, 1, 0, 2] [])) (F := ⟨[.c (.imm l0), .c (ic from1), .deadv, .deadv, pL 4, pL 5, pL 6, pL 7] ++ rep 8 .deadv ++ [.c (bc false)] ++ rep 13 .deadv, [(.loc 7, [ic l7_0]), (.loc 6, [ic l6_0]), (.loc 5, [ic l5_0]), (.loc 4, [ic l4_0, .nil, ic l4_2, ic l4_3, sc l4_4, sc l4_5, ic l4_6])]⟩) (k := 18) (f := 21) (K1 := (kAt body16 [1, 1, 0, 3] [])) (F1 := ⟨[.c (.imm l0), .c (ic from1), .deadv, .deadv, pL 4, pL 5, pL 6, pL 7] ++ rep 8 .deadv ++ [.c (bc false), .deadv, .c (.clo 21 [] [.ptr ⟨⟨.loc 4, []⟩, 0, 0⟩, .ptr ⟨⟨.loc 5, []⟩, 0, 0⟩, .ptr ⟨⟨.loc 6, []⟩, 0, 0⟩, .ptr ⟨⟨.loc 7, []⟩, 0, 0⟩])] ++ rep 11 .deadv, [(.loc 7, [ic l7_0]), (.loc 6, [ic l6_0]), (.loc 5, [ic l5_0]), (.loc 4, [ic l4_0, .nil, ic l4_2, ic l4_3, sc l4_4, sc l4_5, ic l4_6])]⟩) (ad := []) (ps := []) ⟨Tryd.f21, by kernel_rfl, by kernel_rfl, by kernel_rfl⟩ (mend_fin (nb := 0) (t := some 18) (f := 21) hmix (n := 2000) (ad := [(some 24, .call (.panic (.iface 58 (.agg #[.int .i64 ri00_x4, .int .i64 ri01_x4]))) [[.imm rb00_x4, ic rb01_x4, ic rb02_x4]] false)]) (ps := [_, _]) (bx' := [[ic 0, .nil, ic 0, ic 0, sc (strB []), sc (strB []), ic 0], [ic 0], [ic ri00_x4], [ic ri01_x4]]) (by kernel_rfl) ⟨(ev22 h_x2), (evd16p (b0_0 := l4_0) (b0_2 := l4_2) (b0_3 := l4_3) (b0_4 := l4_4) (b0_5 := l4_5) (b0_6 := l4_6) (b1_0 := l5_0) (b2_0 := l6_0) (b3_0 := l7_0) (pv_i00 := ri00_x4) (pv_i01 := ri01_x4)), trivial⟩) (by kernel_rfl) trivial) (n := 3) (ad := []) (ps := []) (m := bm 30 0) (ls := []) (cs := []) (by kernel_rfl) trivial
  ·
   replace h := tup10_or h; obtain ⟨r0_x4, r1_x4, r2_x4, r3_x4, r4_x4, r5_x4, r6_x4, rb00_x4, rb01_x4, rb02_x4, rfl, h⟩ := h
   exact dgo_at (t := none) (f := 0) hmix (deferK (Q := fun G0 w0 => bodyPostD cx16.P Tryd.f16 (Went G0 w0 _ _)) (K0 := (kAt body16 [1, 1, 0, 2] [])) (F := ⟨[.c (.imm l0), .c (ic from1), .deadv, .deadv, pL 4, pL 5, pL 6, pL 7] ++ rep 8 .deadv ++ [.c (bc false)] ++ rep 13 .deadv, [(.loc 7, [ic l7_0]), (.loc 6, [ic l6_0]), (.loc 5, [ic l5_0]), (.loc 4, [ic l4_0, .nil, ic l4_2, ic l4_3, sc l4_4, sc l4_5, ic l4_6])]⟩) (k := 18) (f := 21) (K1 := (kAt body16 [1, 1, 0, 3] [])) (F1 := ⟨[.c (.imm l0), .c (ic from1), .deadv, .deadv, pL 4, pL 5, pL 6, pL 7] ++ rep 8 .deadv ++ [.c (bc false), .deadv, .c (.clo 21 [] [.ptr ⟨⟨.loc 4, []⟩, 0, 0⟩, .ptr ⟨⟨.loc 5, []⟩, 0, 0⟩, .ptr ⟨⟨.loc 6, []⟩, 0, 0⟩, .ptr ⟨⟨.loc 7, []⟩, 0, 0⟩])] ++ rep 11 .deadv, [(.loc 7, [ic l7_0]), (.loc 6, [ic l6_0]), (.loc 5, [ic l5_0]), (.loc 4, [ic l4_0, .nil, ic l4_2, ic l4_3, sc l4_4, sc l4_5, ic l4_6])]⟩) (ad := []) (ps := []) ⟨Tryd.f21, by kernel_rfl, by kernel_rfl, by kernel_rfl⟩ (dgo_at (t := some 18) (f := 21) hmix (ih _ _ h) (n := 6) (ad := [(some 24, .call (.ret (.ag [ic r0_x4, .imm r1_x4, ic r2_x4, ic r3_x4, sc r4_x4, sc r5_x4, ic r6_x4])) [[.imm rb00_x4, ic rb01_x4, ic rb02_x4]] false)]) (ps := [_]) (m := bm 30 1073479439) (ls := [22]) (cs := []) (by kernel_rfl) ⟨(ev22 h_x2), trivial⟩) (by kernel_rfl) trivial) (n := 3) (ad := []) (ps := []) (m := bm 30 0) (ls := []) (cs := []) (by kernel_rfl) trivial
theorem t16_h1_ok (k) {rec} (ih : ∀ s r, rec s = some r → P16 s r) {l7_0 l6_0 l5_0 l4_0 l4_1 l4_2 l4_3 l4_4 l4_5 l4_6 r} (h : t16_h1 k rec l7_0 l6_0 l5_0 l4_0 l4_1 l4_2 l4_3 l4_4 l4_5 l4_6 = some r) : P16 (.h1 l7_0 l6_0 l5_0 l4_0 l4_1 l4_2 l4_3 l4_4 l4_5 l4_6) r := by
 unfold t16_h1 at h
 rw [← Option.some.inj h]
 exact mend_fin (nb := 0) (t := none) (f := 0) hmix (n := 2000) (ad := []) (ps := []) (bx' := []) (by kernel_rfl) trivial
theorem t16_h2_ok (k) {rec} (ih : ∀ s r, rec s = some r → P16 s r) {l7_0 l6_0 l5_0 l4_0 l4_1 l4_2 l4_3 l4_4 l4_5 l4_6 r} (h : t16_h2 k rec l7_0 l6_0 l5_0 l4_0 l4_1 l4_2 l4_3 l4_4 l4_5 l4_6 = some r) : P16 (.h2 l7_0 l6_0 l5_0 l4_0 l4_1 l4_2 l4_3 l4_4 l4_5 l4_6) r := by
 unfold t16_h2 at h
 rw [← Option.some.inj h]
 exact mend_fin (nb := 0) (t := some 18) (f := 21) hmix (n := 2000) (ad := []) (ps := [_]) (bx' := [[ic l4_0, .imm l4_1, ic l4_2, ic l4_3, sc l4_4, sc l4_5, ic l4_6], [ic l5_0], [ic l6_0], [ic l7_0]]) (by kernel_rfl) ⟨(evd16q (b0_0 := l4_0) (b0_1 := l4_1) (b0_2 := l4_2) (b0_3 := l4_3) (b0_4 := l4_4) (b0_5 := l4_5) (b0_6 := l4_6) (b1_0 := l5_0) (b2_0 := l6_0) (b3_0 := l7_0)), trivial⟩
theorem ok16 : ∀ k s r, itS step16 k s = some r → P16 s r := itS_ok fun k rec ih s r h => match s, h with
 | .e l0 from1, h => t16_e_ok k ih h
 | .h0 l0 from1 t16 l7_0 l6_0 l5_0 l4_0 l4_2 l4_3 l4_4 l4_5 l4_6, h => t16_h0_ok k ih h
 | .h1 l7_0 l6_0 l5_0 l4_0 l4_1 l4_2 l4_3 l4_4 l4_5 l4_6, h => t16_h1_ok k ih h
 | .h2 l7_0 l6_0 l5_0 l4_0 l4_1 l4_2 l4_3 l4_4 l4_5 l4_6, h => t16_h2_ok k ih h
theorem ev16 {k : Nat} {l0 : Rs} {from1 : Int} {r : R16} (h : g16 k l0 from1 = some r) : Ev Tryd.prog noHand 16 [.c (.imm l0), .c (ic from1)] [] (res16 r) (bx16 r) := evr16 (ok16 _ _ _ h)
inductive S10 where
 | e (e0_0 : Int) (e0_1 : Rs) (e0_2 e0_3 : Int) (e0_4 e0_5 : ByteArray) (e0_6 : Int)
 | h0 (n3 : Int) (t7 : Rs) (t8 t9 : Int)
abbrev R10 := Int
def res10 : R10 → ARes
 | r => .ret (.c (ic r))
def bx10 : R10 → List (List Cell)
 | r => []
noncomputable def t10_e (k : Nat) (rec : S10 → Option R10) (e0_0 : Int) (e0_1 : Rs) (e0_2 e0_3 : Int) (e0_4 e0_5 : ByteArray) (e0_6 : Int) : Option R10 :=
 rec (.h0 1 e0_1 (e0_1.length : Int) 0)
noncomputable def t10_h0 (k : Nat) (rec : S10 → Option R10) (n3 : Int) (t7 : Rs) (t8 t9 : Int) : Option R10 :=
 bif decide (t9 < t8) then
  ixR t7 t9 fun w_x2 =>
  un_imiissi w_x2 fun op_x4 args_x4 n_x4 scale_x4 name_x4 attr_x4 at_x4 =>
  (rec (.e op_x4 args_x4 n_x4 scale_x4 name_x4 attr_x4 at_x4)).bind fun v_x5 =>
  rec (.h0 (IntKind.i64.wrap (n3 + v_x5)) t7 t8 (IntKind.i64.wrap (t9 + 1)))
 else
  some n3
noncomputable def step10 (k : Nat) (rec : S10 → Option R10) : S10 → Option R10
 | .e e0_0 e0_1 e0_2 e0_3 e0_4 e0_5 e0_6 => t10_e k rec e0_0 e0_1 e0_2 e0_3 e0_4 e0_5 e0_6
 | .h0 n3 t7 t8 t9 => t10_h0 k rec n3 t7 t8 t9
noncomputable def g10 (k : Nat) (e0_0 : Int) (e0_1 : Rs) (e0_2 e0_3 : Int) (e0_4 e0_5 : ByteArray) (e0_6 : Int) : Option R10 := itS step10 k (.e e0_0 e0_1 e0_2 e0_3 e0_4 e0_5 e0_6)
noncomputable def P10 : S10 → R10 → Prop
 | .e e0_0 e0_1 e0_2 e0_3 e0_4 e0_5 e0_6, r => Fin cx10 Tryd.f10 [.code body10] (fr0 Tryd.f10 [.ag [ic e0_0, .imm e0_1, ic e0_2, ic e0_3, sc e0_4, sc e0_5, ic e0_6]] []) (res10 r) (bx10 r)
 | .h0 n3 t7 t8 t9, r => Fin cx10 Tryd.f10 (kAt body10 [1, 1, 0, 1, 0, 4] []) ⟨rep 3 .deadv ++ [.c (ic n3)] ++ rep 3 .deadv ++ [.c (.imm t7), .c (ic t8), .c (ic t9)] ++ rep 9 .deadv, []⟩ (res10 r) (bx10 r)
theorem evr10 {e0_0 : Int} {e0_1 : Rs} {e0_2 e0_3 : Int} {e0_4 e0_5 : ByteArray} {e0_6 : Int} {r : R10} (h : P10 (.e e0_0 e0_1 e0_2 e0_3 e0_4 e0_5 e0_6) r) : Ev Tryd.prog noHand 10 [.ag [ic e0_0, .imm e0_1, ic e0_2, ic e0_3, sc e0_4, sc e0_5, ic e0_6]] [] (res10 r) (bx10 r) := ev_of_fin (fn := Tryd.f10) (body := body10) (by kernel_rfl) (by kernel_rfl) (by kernel_rfl) rfl h
theorem t10_e_ok (k) {rec} (ih : ∀ s r, rec s = some r → P10 s r) {e0_0 e0_1 e0_2 e0_3 e0_4 e0_5 e0_6 r} (h : t10_e k rec e0_0 e0_1 e0_2 e0_3 e0_4 e0_5 e0_6 = some r) : P10 (.e e0_0 e0_1 e0_2 e0_3 e0_4 e0_5 e0_6) r := by
 unfold t10_e at h
 exact mgo_at (nb := 0) hmix (ih _ _ h) (n := 9) (ad := []) (ps := []) (m := bm 19 523383) (ls := [1]) (cs := []) (by kernel_rfl) trivial
theorem t10_h0_ok (k) {rec} (ih : ∀ s r, rec s = some r → P10 s r) {n3 t7 t8 t9 r} (h : t10_h0 k rec n3 t7 t8 t9 = some r) : P10 (.h0 n3 t7 t8 t9) r := by
 unfold t10_h0 at h
 rcases bif_or h with ⟨h_x1, h⟩ | ⟨h_x1, h⟩
 ·
  obtain ⟨w_x2, h_x3, h⟩ := ixR_or h
  replace h := un_imiissi_or h; obtain ⟨op_x4, args_x4, n_x4, scale_x4, name_x4, attr_x4, at_x4, rfl, h⟩ := h
  obtain ⟨v_x5, h_x6, h⟩ := bd_or h
  exact mgo_at (nb := 0) hmix (ih _ _ h) (n := 13) (ad := [aT 10, (some 11, .row [ic op_x4, .imm args_x4, ic n_x4, ic scale_x4, sc name_x4, sc attr_x4, ic at_x4]), aC 15 (.c (ic v_x5))]) (ps := [_, _, _]) (m := bm 19 523383) (ls := [5]) (cs := []) (by kernel_rfl) ⟨h_x1, ix_row h_x3 rfl, (evr10 (ih _ _ h_x6)), trivial⟩
 ·
  rw [← Option.some.inj h]
  exact mF 0 hmix [aF 10] [_] (by kernel_rfl) ⟨h_x1, trivial⟩
theorem ok10 : ∀ k s r, itS step10 k s = some r → P10 s r := itS_ok fun k rec ih s r h => match s, h with
 | .e e0_0 e0_1 e0_2 e0_3 e0_4 e0_5 e0_6, h => t10_e_ok k ih h
 | .h0 n3 t7 t8 t9, h => t10_h0_ok k ih h
theorem ev10 {k : Nat} {e0_0 : Int} {e0_1 : Rs} {e0_2 e0_3 : Int} {e0_4 e0_5 : ByteArray} {e0_6 : Int} {r : R10} (h : g10 k e0_0 e0_1 e0_2 e0_3 e0_4 e0_5 e0_6 = some r) : Ev Tryd.prog noHand 10 [.ag [ic e0_0, .imm e0_1, ic e0_2, ic e0_3, sc e0_4, sc e0_5, ic e0_6]] [] (res10 r) (bx10 r) := evr10 (ok10 _ _ _ h)
inductive S13 where
 | e (text0 : ByteArray)
 | h0 (l5 : Rs) (at6 e7 : Int) (t17 : Bool) (l2_0 l2_2 l2_3 : Int) (l2_4 l2_5 : ByteArray) (l2_6 : Int)
 | h1 (t3 t4 l2_0 : Int) (l2_1 : Rs) (l2_2 l2_3 : Int) (l2_4 l2_5 : ByteArray) (l2_6 : Int)
 | h2 (l5 : Rs) (at6 e7 next9 : Int) (t28 : Bool) (l8_0 : Int) (l8_1 : Rs) (l8_2 l8_3 : Int) (l8_4 l8_5 : ByteArray) (l8_6 l2_0 l2_2 l2_3 : Int) (l2_4 l2_5 : ByteArray) (l2_6 : Int)
 | h3 (t3 t4 l2_0 : Int) (l2_1 : Rs) (l2_2 l2_3 : Int) (l2_4 l2_5 : ByteArray) (l2_6 : Int)
 | h4 (t3 t4 l2_0 : Int) (l2_1 : Rs) (l2_2 l2_3 : Int) (l2_4 l2_5 : ByteArray) (l2_6 : Int)
 | h5 (t3 t4 l2_0 : Int) (l2_1 : Rs) (l2_2 l2_3 : Int) (l2_4 l2_5 : ByteArray) (l2_6 : Int)
 | h6 (t3 t4 l2_0 : Int) (l2_1 : Rs) (l2_2 l2_3 : Int) (l2_4 l2_5 : ByteArray) (l2_6 : Int)
abbrev R13 := Int × Rs × Int × Int × ByteArray × ByteArray × Int × Int × Int
def res13 : R13 → ARes
 | (r_00, r_01, r_02, r_03, r_04, r_05, r_06, r_10, r_20) => .ret ⟨.tup [true, false, false], [[ic r_00, .imm r_01, ic r_02, ic r_03, sc r_04, sc r_05, ic r_06], [ic r_10], [ic r_20]]⟩
def bx13 : R13 → List (List Cell)
 | (r_00, r_01, r_02, r_03, r_04, r_05, r_06, r_10, r_20) => []
noncomputable def t13_e (k : Nat) (rec : S13 → Option R13) (text0 : ByteArray) : Option R13 :=
 (g15 k text0).bind fun v_x1 =>
 altC v_x1 (fun v_x3 => 
   tup3 v_x3 fun r00_x4 r10_x4 r20_x4 =>
   rec (.h0 r00_x4 r10_x4 r20_x4 (r20_x4 != 0) 0 0 0 (strB []) (strB []) 0)) (fun v_x3 => 
   tup2 v_x3 fun r10_x4 r20_x4 =>
   rec (.h0 [] r10_x4 r20_x4 (r20_x4 != 0) 0 0 0 (strB []) (strB []) 0))
noncomputable def t13_h0 (k : Nat) (rec : S13 → Option R13) (l5 : Rs) (at6 e7 : Int) (t17 : Bool) (l2_0 l2_2 l2_3 : Int) (l2_4 l2_5 : ByteArray) (l2_6 : Int) : Option R13 :=
 bif t17 then
  rec (.h1 at6 e7 0 [] 0 0 (strB []) (strB []) 0)
 else
  (g16 k l5 0).bind fun v_x1 =>
  altC v_x1 (fun v_x3 => 
    tup9 v_x3 fun r00_x4 r02_x4 r03_x4 r04_x4 r05_x4 r06_x4 r10_x4 r20_x4 r30_x4 =>
    rec (.h2 l5 r20_x4 r30_x4 r10_x4 (r30_x4 != 0) r00_x4 [] r02_x4 r03_x4 r04_x4 r05_x4 r06_x4 l2_0 l2_2 l2_3 l2_4 l2_5 l2_6)) (fun v_x3 => 
    tup10 v_x3 fun r00_x4 r01_x4 r02_x4 r03_x4 r04_x4 r05_x4 r06_x4 r10_x4 r20_x4 r30_x4 =>
    rec (.h2 l5 r20_x4 r30_x4 r10_x4 (r30_x4 != 0) r00_x4 r01_x4 r02_x4 r03_x4 r04_x4 r05_x4 r06_x4 l2_0 l2_2 l2_3 l2_4 l2_5 l2_6))
noncomputable def t13_h1 (k : Nat) (rec : S13 → Option R13) (t3 t4 l2_0 : Int) (l2_1 : Rs) (l2_2 l2_3 : Int) (l2_4 l2_5 : ByteArray) (l2_6 : Int) : Option R13 :=
 some (l2_0, l2_1, l2_2, l2_3, l2_4, l2_5, l2_6, t3, t4)
noncomputable def t13_h2 (k : Nat) (rec : S13 → Option R13) (l5 : Rs) (at6 e7 next9 : Int) (t28 : Bool) (l8_0 : Int) (l8_1 : Rs) (l8_2 l8_3 : Int) (l8_4 l8_5 : ByteArray) (l8_6 l2_0 l2_2 l2_3 : Int) (l2_4 l2_5 : ByteArray) (l2_6 : Int) : Option R13 :=
 bif t28 then
  rec (.h3 at6 e7 0 [] 0 0 (strB []) (strB []) 0)
 else
  ixR l5 next9 fun w_x1 =>
  un_isi3 w_x1 fun kind_x3 text_x3 n_x3 scale_x3 at_x3 =>
  bif kind_x3 != 0 then
   rec (.h4 at_x3 13 0 [] 0 0 (strB []) (strB []) 0)
  else
   (g10 k l8_0 l8_1 l8_2 l8_3 l8_4 l8_5 l8_6).bind fun v_x5 =>
   bif decide (v_x5 > 200) then
    rec (.h5 0 2 0 [] 0 0 (strB []) (strB []) 0)
   else
    rec (.h6 0 0 l8_0 l8_1 l8_2 l8_3 l8_4 l8_5 l8_6)
noncomputable def t13_h3 (k : Nat) (rec : S13 → Option R13) (t3 t4 l2_0 : Int) (l2_1 : Rs) (l2_2 l2_3 : Int) (l2_4 l2_5 : ByteArray) (l2_6 : Int) : Option R13 :=
 some (l2_0, l2_1, l2_2, l2_3, l2_4, l2_5, l2_6, t3, t4)
noncomputable def t13_h4 (k : Nat) (rec : S13 → Option R13) (t3 t4 l2_0 : Int) (l2_1 : Rs) (l2_2 l2_3 : Int) (l2_4 l2_5 : ByteArray) (l2_6 : Int) : Option R13 :=
 some (l2_0, l2_1, l2_2, l2_3, l2_4, l2_5, l2_6, t3, t4)
noncomputable def t13_h5 (k : Nat) (rec : S13 → Option R13) (t3 t4 l2_0 : Int) (l2_1 : Rs) (l2_2 l2_3 : Int) (l2_4 l2_5 : ByteArray) (l2_6 : Int) : Option R13 :=
 some (l2_0, l2_1, l2_2, l2_3, l2_4, l2_5, l2_6, t3, t4)
noncomputable def t13_h6 (k : Nat) (rec : S13 → Option R13) (t3 t4 l2_0 : Int) (l2_1 : Rs) (l2_2 l2_3 : Int) (l2_4 l2_5 : ByteArray) (l2_6 : Int) : Option R13 :=
 some (l2_0, l2_1, l2_2, l2_3, l2_4, l2_5, l2_6, t3, t4)
noncomputable def step13 (k : Nat) (rec : S13 → Option R13) : S13 → Option R13
 | .e text0 => t13_e k rec text0
 | .h0 l5 at6 e7 t17 l2_0 l2_2 l2_3 l2_4 l2_5 l2_6 => t13_h0 k rec l5 at6 e7 t17 l2_0 l2_2 l2_3 l2_4 l2_5 l2_6
 | .h1 t3 t4 l2_0 l2_1 l2_2 l2_3 l2_4 l2_5 l2_6 => t13_h1 k rec t3 t4 l2_0 l2_1 l2_2 l2_3 l2_4 l2_5 l2_6
 | .h2 l5 at6 e7 next9 t28 l8_0 l8_1 l8_2 l8_3 l8_4 l8_5 l8_6 l2_0 l2_2 l2_3 l2_4 l2_5 l2_6 => t13_h2 k rec l5 at6 e7 next9 t28 l8_0 l8_1 l8_2 l8_3 l8_4 l8_5 l8_6 l2_0 l2_2 l2_3 l2_4 l2_5 l2_6
 | .h3 t3 t4 l2_0 l2_1 l2_2 l2_3 l2_4 l2_5 l2_6 => t13_h3 k rec t3 t4 l2_0 l2_1 l2_2 l2_3 l2_4 l2_5 l2_6
 | .h4 t3 t4 l2_0 l2_1 l2_2 l2_3 l2_4 l2_5 l2_6 => t13_h4 k rec t3 t4 l2_0 l2_1 l2_2 l2_3 l2_4 l2_5 l2_6
 | .h5 t3 t4 l2_0 l2_1 l2_2 l2_3 l2_4 l2_5 l2_6 => t13_h5 k rec t3 t4 l2_0 l2_1 l2_2 l2_3 l2_4 l2_5 l2_6
 | .h6 t3 t4 l2_0 l2_1 l2_2 l2_3 l2_4 l2_5 l2_6 => t13_h6 k rec t3 t4 l2_0 l2_1 l2_2 l2_3 l2_4 l2_5 l2_6
noncomputable def g13 (k : Nat) (text0 : ByteArray) : Option R13 := itS step13 k (.e text0)
noncomputable def P13 : S13 → R13 → Prop
 | .e text0, r => Fin cx13 Tryd.f13 [.code body13] (fr0 Tryd.f13 [.c (sc text0)] []) (res13 r) (bx13 r)
 | .h0 l5 at6 e7 t17 l2_0 l2_2 l2_3 l2_4 l2_5 l2_6, r => Fin cx13 Tryd.f13 (kAt body13 [1, 1, 0, 1, 2] []) ⟨[.deadv, .deadv, pL 2, .deadv, .deadv, .c (.imm l5), .c (ic at6), .c (ic e7)] ++ rep 9 .deadv ++ [.c (bc t17)] ++ rep 35 .deadv, [(.loc 2, [ic l2_0, .nil, ic l2_2, ic l2_3, sc l2_4, sc l2_5, ic l2_6])]⟩ (res13 r) (bx13 r)
 | .h1 t3 t4 l2_0 l2_1 l2_2 l2_3 l2_4 l2_5 l2_6, r => Fin cx13 Tryd.f13 (kAt body13 [1, 1, 0, 1, 0, 1, 2] []) ⟨[.deadv, .deadv, pL 2, .c (ic t3), .c (ic t4)] ++ rep 48 .deadv, [(.loc 2, [ic l2_0, .imm l2_1, ic l2_2, ic l2_3, sc l2_4, sc l2_5, ic l2_6])]⟩ (res13 r) (bx13 r)
 | .h2 l5 at6 e7 next9 t28 l8_0 l8_1 l8_2 l8_3 l8_4 l8_5 l8_6 l2_0 l2_2 l2_3 l2_4 l2_5 l2_6, r => Fin cx13 Tryd.f13 (kAt body13 [1, 1, 1, 1, 0, 0, 1, 2] []) ⟨[.deadv, .deadv, pL 2, .deadv, .deadv, .c (.imm l5), .c (ic at6), .c (ic e7), pL 8, .c (ic next9)] ++ rep 18 .deadv ++ [.c (bc t28)] ++ rep 24 .deadv, [(.loc 8, [ic l8_0, .imm l8_1, ic l8_2, ic l8_3, sc l8_4, sc l8_5, ic l8_6]), (.loc 2, [ic l2_0, .nil, ic l2_2, ic l2_3, sc l2_4, sc l2_5, ic l2_6])]⟩ (res13 r) (bx13 r)
 | .h3 t3 t4 l2_0 l2_1 l2_2 l2_3 l2_4 l2_5 l2_6, r => Fin cx13 Tryd.f13 (kAt body13 [1, 1, 1, 1, 0, 0, 1, 0, 1, 2] []) ⟨[.deadv, .deadv, pL 2, .c (ic t3), .c (ic t4)] ++ rep 48 .deadv, [(.loc 2, [ic l2_0, .imm l2_1, ic l2_2, ic l2_3, sc l2_4, sc l2_5, ic l2_6])]⟩ (res13 r) (bx13 r)
 | .h4 t3 t4 l2_0 l2_1 l2_2 l2_3 l2_4 l2_5 l2_6, r => Fin cx13 Tryd.f13 (kAt body13 [1, 1, 1, 1, 0, 0, 1, 1, 1, 0, 1, 2] []) ⟨[.deadv, .deadv, pL 2, .c (ic t3), .c (ic t4)] ++ rep 48 .deadv, [(.loc 2, [ic l2_0, .imm l2_1, ic l2_2, ic l2_3, sc l2_4, sc l2_5, ic l2_6])]⟩ (res13 r) (bx13 r)
 | .h5 t3 t4 l2_0 l2_1 l2_2 l2_3 l2_4 l2_5 l2_6, r => Fin cx13 Tryd.f13 (kAt body13 [1, 1, 1, 1, 0, 0, 1, 1, 1, 1, 1, 0, 1, 2] []) ⟨[.deadv, .deadv, pL 2, .c (ic t3), .c (ic t4)] ++ rep 48 .deadv, [(.loc 2, [ic l2_0, .imm l2_1, ic l2_2, ic l2_3, sc l2_4, sc l2_5, ic l2_6])]⟩ (res13 r) (bx13 r)
 | .h6 t3 t4 l2_0 l2_1 l2_2 l2_3 l2_4 l2_5 l2_6, r => Fin cx13 Tryd.f13 (kAt body13 [1, 1, 1, 1, 1, 1, 2] []) ⟨[.deadv, .deadv, pL 2, .c (ic t3), .c (ic t4)] ++ rep 48 .deadv, [(.loc 2, [ic l2_0, .imm l2_1, ic l2_2, ic l2_3, sc l2_4, sc l2_5, ic l2_6])]⟩ (res13 r) (bx13 r)
theorem evr13 {text0 : ByteArray} {r : R13} (h : P13 (.e text0) r) : Ev Tryd.prog noHand 13 [.c (sc text0)] [] (res13 r) (bx13 r) := ev_of_fin (fn := Tryd.f13) (body := body13) (by kernel_rfl) (by kernel_rfl) (by kernel_rfl) rfl h
theorem t13_e_ok (k) {rec} (ih : ∀ s r, rec s = some r → P13 s r) {text0 r} (h : t13_e k rec text0 = some r) : P13 (.e text0) r := by
 unfold t13_e at h
 obtain ⟨v_x1, h_x2, h⟩ := bd_or h
 replace h := altC_or h; rcases h with ⟨v_x3, rfl, h⟩ | ⟨v_x3, rfl, h⟩
 ·
  replace h := tup3_or h; obtain ⟨r00_x4, r10_x4, r20_x4, rfl, h⟩ := h
  exact mA 0 hmix (ih _ _ h) 7 [aC 12 ⟨.tup [false, false, false], [[.imm r00_x4], [ic r10_x4], [ic r20_x4]]⟩] [_] (bm 53 9007199254609691) (by kernel_rfl) ⟨(ev15 h_x2), trivial⟩
 ·
  replace h := tup2_or h; obtain ⟨r10_x4, r20_x4, rfl, h⟩ := h
  exact mgo_at (nb := 0) hmix (ih _ _ h) (n := 7) (ad := [aC 12 ⟨.tup [false, false, false], [[.nil], [ic r10_x4], [ic r20_x4]]⟩]) (ps := [_]) (m := bm 53 9007199254609691) (ls := []) (cs := [(⟨⟨.slot 5, []⟩, 0, 0⟩, none)]) (by kernel_rfl) ⟨(ev15 h_x2), trivial⟩
theorem t13_h0_ok (k) {rec} (ih : ∀ s r, rec s = some r → P13 s r) {l5 at6 e7 t17 l2_0 l2_2 l2_3 l2_4 l2_5 l2_6 r} (h : t13_h0 k rec l5 at6 e7 t17 l2_0 l2_2 l2_3 l2_4 l2_5 l2_6 = some r) : P13 (.h0 l5 at6 e7 t17 l2_0 l2_2 l2_3 l2_4 l2_5 l2_6) r := by
 unfold t13_h0 at h
 replace h := bif_or h; rcases h with ⟨rfl, h⟩ | ⟨rfl, h⟩
 ·
  exact mgo_at (nb := 0) hmix (ih _ _ h) (n := 3) (ad := []) (ps := []) (m := bm 53 9007199254740963) (ls := []) (cs := [(⟨⟨.loc 2, []⟩, 0, 1⟩, none)]) (by kernel_rfl) trivial
 ·
  obtain ⟨v_x1, h_x2, h⟩ := bd_or h
  replace h := altC_or h; rcases h with ⟨v_x3, rfl, h⟩ | ⟨v_x3, rfl, h⟩
  ·
   replace h := tup9_or h; obtain ⟨r00_x4, r02_x4, r03_x4, r04_x4, r05_x4, r06_x4, r10_x4, r20_x4, r30_x4, rfl, h⟩ := h
   exact mgo_at (nb := 0) hmix (ih _ _ h) (n := 8) (ad := [aC 23 ⟨.tup [true, false, false, false], [[ic r00_x4, .nil, ic r02_x4, ic r03_x4, sc r04_x4, sc r05_x4, ic r06_x4], [ic r10_x4], [ic r20_x4], [ic r30_x4]]⟩]) (ps := [_]) (m := bm 53 9007198986304539) (ls := []) (cs := [(⟨⟨.loc 8, []⟩, 0, 1⟩, none)]) (by kernel_rfl) ⟨(ev16 h_x2), trivial⟩
  ·
   replace h := tup10_or h; obtain ⟨r00_x4, r01_x4, r02_x4, r03_x4, r04_x4, r05_x4, r06_x4, r10_x4, r20_x4, r30_x4, rfl, h⟩ := h
   exact mA 0 hmix (ih _ _ h) 8 [aC 23 ⟨.tup [true, false, false, false], [[ic r00_x4, .imm r01_x4, ic r02_x4, ic r03_x4, sc r04_x4, sc r05_x4, ic r06_x4], [ic r10_x4], [ic r20_x4], [ic r30_x4]]⟩] [_] (bm 53 9007198986304539) (by kernel_rfl) ⟨(ev16 h_x2), trivial⟩
theorem t13_h1_ok (k) {rec} (ih : ∀ s r, rec s = some r → P13 s r) {t3 t4 l2_0 l2_1 l2_2 l2_3 l2_4 l2_5 l2_6 r} (h : t13_h1 k rec t3 t4 l2_0 l2_1 l2_2 l2_3 l2_4 l2_5 l2_6 = some r) : P13 (.h1 t3 t4 l2_0 l2_1 l2_2 l2_3 l2_4 l2_5 l2_6) r := by
 unfold t13_h1 at h
 rw [← Option.some.inj h]
 exact mF 0 hmix [] [] (by kernel_rfl) trivial
theorem t13_h2_ok (k) {rec} (ih : ∀ s r, rec s = some r → P13 s r) {l5 at6 e7 next9 t28 l8_0 l8_1 l8_2 l8_3 l8_4 l8_5 l8_6 l2_0 l2_2 l2_3 l2_4 l2_5 l2_6 r} (h : t13_h2 k rec l5 at6 e7 next9 t28 l8_0 l8_1 l8_2 l8_3 l8_4 l8_5 l8_6 l2_0 l2_2 l2_3 l2_4 l2_5 l2_6 = some r) : P13 (.h2 l5 at6 e7 next9 t28 l8_0 l8_1 l8_2 l8_3 l8_4 l8_5 l8_6 l2_0 l2_2 l2_3 l2_4 l2_5 l2_6) r := by
 unfold t13_h2 at h
 replace h := bif_or h; rcases h with ⟨rfl, h⟩ | ⟨rfl, h⟩
 ·
  exact mgo_at (nb := 0) hmix (ih _ _ h) (n := 3) (ad := []) (ps := []) (m := bm 53 9007199254740963) (ls := [8]) (cs := [(⟨⟨.loc 2, []⟩, 0, 1⟩, none)]) (by kernel_rfl) trivial
 ·
  obtain ⟨w_x1, h_x2, h⟩ := ixR_or h
  replace h := un_isi3_or h; obtain ⟨kind_x3, text_x3, n_x3, scale_x3, at_x3, rfl, h⟩ := h
  rcases bif_or h with ⟨h_x4, h⟩ | ⟨h_x4, h⟩
  ·
   exact mgo_at (nb := 0) hmix (ih _ _ h) (n := 6) (ad := [(some 37, .row [ic kind_x3, sc text_x3, ic n_x3, ic scale_x3, ic at_x3]), aT 40, (some 44, .row [ic kind_x3, sc text_x3, ic n_x3, ic scale_x3, ic at_x3])]) (ps := [_, _, _]) (m := bm 53 9007199254740963) (ls := [8]) (cs := [(⟨⟨.loc 2, []⟩, 0, 1⟩, none)]) (by kernel_rfl) ⟨ix_row h_x2 rfl, h_x4, ix_row h_x2 rfl, trivial⟩
  ·
   obtain ⟨v_x5, h_x6, h⟩ := bd_or h
   rcases bif_or h with ⟨h_x7, h⟩ | ⟨h_x7, h⟩
   ·
    exact mgo_at (nb := 0) hmix (ih _ _ h) (n := 9) (ad := [(some 37, .row [ic kind_x3, sc text_x3, ic n_x3, ic scale_x3, ic at_x3]), aF 40, aC 49 (.c (ic v_x5)), aT 50]) (ps := [_, _, _, _]) (m := bm 53 9007199254740963) (ls := [8]) (cs := [(⟨⟨.loc 2, []⟩, 0, 1⟩, none)]) (by kernel_rfl) ⟨ix_row h_x2 rfl, h_x4, (ev10 h_x6), h_x7, trivial⟩
   ·
    exact mgo_at (nb := 0) hmix (ih _ _ h) (n := 11) (ad := [(some 37, .row [ic kind_x3, sc text_x3, ic n_x3, ic scale_x3, ic at_x3]), aF 40, aC 49 (.c (ic v_x5)), aF 50]) (ps := [_, _, _, _]) (m := bm 53 9007199254740963) (ls := [8]) (cs := []) (by kernel_rfl) ⟨ix_row h_x2 rfl, h_x4, (ev10 h_x6), h_x7, trivial⟩
theorem t13_h3_ok (k) {rec} (ih : ∀ s r, rec s = some r → P13 s r) {t3 t4 l2_0 l2_1 l2_2 l2_3 l2_4 l2_5 l2_6 r} (h : t13_h3 k rec t3 t4 l2_0 l2_1 l2_2 l2_3 l2_4 l2_5 l2_6 = some r) : P13 (.h3 t3 t4 l2_0 l2_1 l2_2 l2_3 l2_4 l2_5 l2_6) r := by
 unfold t13_h3 at h
 rw [← Option.some.inj h]
 exact mF 0 hmix [] [] (by kernel_rfl) trivial
theorem t13_h4_ok (k) {rec} (ih : ∀ s r, rec s = some r → P13 s r) {t3 t4 l2_0 l2_1 l2_2 l2_3 l2_4 l2_5 l2_6 r} (h : t13_h4 k rec t3 t4 l2_0 l2_1 l2_2 l2_3 l2_4 l2_5 l2_6 = some r) : P13 (.h4 t3 t4 l2_0 l2_1 l2_2 l2_3 l2_4 l2_5 l2_6) r := by
 unfold t13_h4 at h
 rw [← Option.some.inj h]
 exact mF 0 hmix [] [] (by kernel_rfl) trivial
theorem t13_h5_ok (k) {rec} (ih : ∀ s r, rec s = some r → P13 s r) {t3 t4 l2_0 l2_1 l2_2 l2_3 l2_4 l2_5 l2_6 r} (h : t13_h5 k rec t3 t4 l2_0 l2_1 l2_2 l2_3 l2_4 l2_5 l2_6 = some r) : P13 (.h5 t3 t4 l2_0 l2_1 l2_2 l2_3 l2_4 l2_5 l2_6) r := by
 unfold t13_h5 at h
 rw [← Option.some.inj h]
 exact mF 0 hmix [] [] (by kernel_rfl) trivial
theorem t13_h6_ok (k) {rec} (ih : ∀ s r, rec s = some r → P13 s r) {t3 t4 l2_0 l2_1 l2_2 l2_3 l2_4 l2_5 l2_6 r} (h : t13_h6 k rec t3 t4 l2_0 l2_1 l2_2 l2_3 l2_4 l2_5 l2_6 = some r) : P13 (.h6 t3 t4 l2_0 l2_1 l2_2 l2_3 l2_4 l2_5 l2_6) r := by
 unfold t13_h6 at h
 rw [← Option.some.inj h]
 exact mF 0 hmix [] [] (by kernel_rfl) trivial
theorem ok13 : ∀ k s r, itS step13 k s = some r → P13 s r := itS_ok fun k rec ih s r h => match s, h with
 | .e text0, h => t13_e_ok k ih h
 | .h0 l5 at6 e7 t17 l2_0 l2_2 l2_3 l2_4 l2_5 l2_6, h => t13_h0_ok k ih h
 | .h1 t3 t4 l2_0 l2_1 l2_2 l2_3 l2_4 l2_5 l2_6, h => t13_h1_ok k ih h
 | .h2 l5 at6 e7 next9 t28 l8_0 l8_1 l8_2 l8_3 l8_4 l8_5 l8_6 l2_0 l2_2 l2_3 l2_4 l2_5 l2_6, h => t13_h2_ok k ih h
 | .h3 t3 t4 l2_0 l2_1 l2_2 l2_3 l2_4 l2_5 l2_6, h => t13_h3_ok k ih h
 | .h4 t3 t4 l2_0 l2_1 l2_2 l2_3 l2_4 l2_5 l2_6, h => t13_h4_ok k ih h
 | .h5 t3 t4 l2_0 l2_1 l2_2 l2_3 l2_4 l2_5 l2_6, h => t13_h5_ok k ih h
 | .h6 t3 t4 l2_0 l2_1 l2_2 l2_3 l2_4 l2_5 l2_6, h => t13_h6_ok k ih h
theorem ev13 {k : Nat} {text0 : ByteArray} {r : R13} (h : g13 k text0 = some r) : Ev Tryd.prog noHand 13 [.c (sc text0)] [] (res13 r) (bx13 r) := evr13 (ok13 _ _ _ h)
inductive S23 where
 | e (op0 : Int)
 | h0 (op0 : Int) (t3 : Bool)
 | h1 (op0 : Int) (t18 : Bool)
 | h2 (t25 : Bool)
abbrev R23 := Int
def res23 : R23 → ARes
 | r => .ret (.c (ic r))
def bx23 : R23 → List (List Cell)
 | r => []
noncomputable def t23_e (k : Nat) (rec : S23 → Option R23) (op0 : Int) : Option R23 :=
 bif op0 == 6 then
  rec (.h0 op0 true)
 else
  bif op0 == 15 then
   rec (.h0 op0 true)
  else
   bif op0 == 16 then
    rec (.h0 op0 true)
   else
    rec (.h0 op0 (op0 == 17))
noncomputable def t23_h0 (k : Nat) (rec : S23 → Option R23) (op0 : Int) (t3 : Bool) : Option R23 :=
 bif t3 then
  some 1
 else
  bif decide (op0 ≥ 1) then
   rec (.h1 op0 (decide (op0 ≤ 14)))
  else
   rec (.h1 op0 false)
noncomputable def t23_h1 (k : Nat) (rec : S23 → Option R23) (op0 : Int) (t18 : Bool) : Option R23 :=
 bif t18 then
  some 2
 else
  bif decide (op0 ≥ 20) then
   rec (.h2 (decide (op0 ≤ 31)))
  else
   rec (.h2 false)
noncomputable def t23_h2 (k : Nat) (rec : S23 → Option R23) (t25 : Bool) : Option R23 :=
 bif t25 then
  some 0
 else
  some (-1)
noncomputable def step23 (k : Nat) (rec : S23 → Option R23) : S23 → Option R23
 | .e op0 => t23_e k rec op0
 | .h0 op0 t3 => t23_h0 k rec op0 t3
 | .h1 op0 t18 => t23_h1 k rec op0 t18
 | .h2 t25 => t23_h2 k rec t25
noncomputable def g23 (k : Nat) (op0 : Int) : Option R23 := itS step23 k (.e op0)
noncomputable def P23 : S23 → R23 → Prop
 | .e op0, r => Fin cx23 Tryd.f23 [.code body23] (fr0 Tryd.f23 [.c (ic op0)] []) (res23 r) (bx23 r)
 | .h0 op0 t3, r => Fin cx23 Tryd.f23 (kAt body23 [1, 0, 0, 1, 2] []) ⟨[.c (ic op0), .deadv, .deadv, .c (bc t3)] ++ rep 28 .deadv, []⟩ (res23 r) (bx23 r)
 | .h1 op0 t18, r => Fin cx23 Tryd.f23 (kAt body23 [1, 0, 0, 1, 1, 1, 2] []) ⟨[.c (ic op0)] ++ rep 17 .deadv ++ [.c (bc t18)] ++ rep 13 .deadv, []⟩ (res23 r) (bx23 r)
 | .h2 t25, r => Fin cx23 Tryd.f23 (kAt body23 [1, 0, 0, 1, 1, 1, 1, 1, 2] []) ⟨rep 25 .deadv ++ [.c (bc t25)] ++ rep 6 .deadv, []⟩ (res23 r) (bx23 r)
theorem evr23 {op0 : Int} {r : R23} (h : P23 (.e op0) r) : Ev Tryd.prog noHand 23 [.c (ic op0)] [] (res23 r) (bx23 r) := ev_of_fin (fn := Tryd.f23) (body := body23) (by kernel_rfl) (by kernel_rfl) (by kernel_rfl) rfl h
theorem t23_e_ok (k) {rec} (ih : ∀ s r, rec s = some r → P23 s r) {op0 r} (h : t23_e k rec op0 = some r) : P23 (.e op0) r := by
 unfold t23_e at h
 rcases bif_or h with ⟨h_x1, h⟩ | ⟨h_x1, h⟩
 ·
  exact mA 0 hmix (ih _ _ h) 6 [aT 5] [_] (bm 32 4294967286) (by kernel_rfl) ⟨h_x1, trivial⟩
 ·
  rcases bif_or h with ⟨h_x2, h⟩ | ⟨h_x2, h⟩
  ·
   exact mA 0 hmix (ih _ _ h) 6 [aF 5, aT 8] [_, _] (bm 32 4294967286) (by kernel_rfl) ⟨h_x1, h_x2, trivial⟩
  ·
   rcases bif_or h with ⟨h_x3, h⟩ | ⟨h_x3, h⟩
   ·
    exact mA 0 hmix (ih _ _ h) 6 [aF 5, aF 8, aT 12] [_, _, _] (bm 32 4294967286) (by kernel_rfl) ⟨h_x1, h_x2, h_x3, trivial⟩
   ·
    exact mA 0 hmix (ih _ _ h) 6 [aF 5, aF 8, aF 12] [_, _, _] (bm 32 4294967286) (by kernel_rfl) ⟨h_x1, h_x2, h_x3, trivial⟩
theorem t23_h0_ok (k) {rec} (ih : ∀ s r, rec s = some r → P23 s r) {op0 t3 r} (h : t23_h0 k rec op0 t3 = some r) : P23 (.h0 op0 t3) r := by
 unfold t23_h0 at h
 replace h := bif_or h; rcases h with ⟨rfl, h⟩ | ⟨rfl, h⟩
 ·
  rw [← Option.some.inj h]
  exact mF 0 hmix [] [] (by kernel_rfl) trivial
 ·
  rcases bif_or h with ⟨h_x1, h⟩ | ⟨h_x1, h⟩
  ·
   exact mA 0 hmix (ih _ _ h) 3 [aT 20] [_] (bm 32 4294705150) (by kernel_rfl) ⟨h_x1, trivial⟩
  ·
   exact mA 0 hmix (ih _ _ h) 3 [aF 20] [_] (bm 32 4294705150) (by kernel_rfl) ⟨h_x1, trivial⟩
theorem t23_h1_ok (k) {rec} (ih : ∀ s r, rec s = some r → P23 s r) {op0 t18 r} (h : t23_h1 k rec op0 t18 = some r) : P23 (.h1 op0 t18) r := by
 unfold t23_h1 at h
 replace h := bif_or h; rcases h with ⟨rfl, h⟩ | ⟨rfl, h⟩
 ·
  rw [← Option.some.inj h]
  exact mF 0 hmix [] [] (by kernel_rfl) trivial
 ·
  rcases bif_or h with ⟨h_x1, h⟩ | ⟨h_x1, h⟩
  ·
   exact mA 0 hmix (ih _ _ h) 3 [aT 27] [_] (bm 32 4261412863) (by kernel_rfl) ⟨h_x1, trivial⟩
  ·
   exact mA 0 hmix (ih _ _ h) 3 [aF 27] [_] (bm 32 4261412863) (by kernel_rfl) ⟨h_x1, trivial⟩
theorem t23_h2_ok (k) {rec} (ih : ∀ s r, rec s = some r → P23 s r) {t25 r} (h : t23_h2 k rec t25 = some r) : P23 (.h2 t25) r := by
 unfold t23_h2 at h
 replace h := bif_or h; rcases h with ⟨rfl, h⟩ | ⟨rfl, h⟩
 ·
  rw [← Option.some.inj h]
  exact mF 0 hmix [] [] (by kernel_rfl) trivial
 ·
  rw [← Option.some.inj h]
  exact mF 0 hmix [] [] (by kernel_rfl) trivial
theorem ok23 : ∀ k s r, itS step23 k s = some r → P23 s r := itS_ok fun k rec ih s r h => match s, h with
 | .e op0, h => t23_e_ok k ih h
 | .h0 op0 t3, h => t23_h0_ok k ih h
 | .h1 op0 t18, h => t23_h1_ok k ih h
 | .h2 t25, h => t23_h2_ok k ih h
theorem ev23 {k : Nat} {op0 : Int} {r : R23} (h : g23 k op0 = some r) : Ev Tryd.prog noHand 23 [.c (ic op0)] [] (res23 r) (bx23 r) := evr23 (ok23 _ _ _ h)
inductive S40 where
 | e (t0_0 : Int) (t0_1 : ByteArray) (t0_2 t0_3 t0_4 : Int)
 | h0 (d3 : ByteArray) (l1_0 : Int) (l1_1 : ByteArray) (l1_2 l1_3 l1_4 : Int)
 | h1 (d3 : ByteArray) (t32 : Bool) (l1_0 : Int) (l1_1 : ByteArray) (l1_2 l1_3 l1_4 : Int)
abbrev R40 := ByteArray
def res40 : R40 → ARes
 | r => .ret (.c (sc r))
def bx40 : R40 → List (List Cell)
 | r => []
noncomputable def t40_e (k : Nat) (rec : S40 → Option R40) (t0_0 : Int) (t0_1 : ByteArray) (t0_2 t0_3 t0_4 : Int) : Option R40 :=
 bif t0_0 == 3 then
  (fmtX t0_2).bind fun v_x2 =>
  some v_x2
 else
  bif t0_0 == 4 then
   (fmtX t0_2).bind fun v_x3 =>
   rec (.h0 v_x3 t0_0 t0_1 t0_2 t0_3 t0_4)
  else
   bif t0_0 == 5 then
    gd (decide ((strB [39]).size + t0_1.size ≤ 1000000000)) <|
    gd (decide (((strB [39]) ++ t0_1).size + (strB [39]).size ≤ 1000000000)) <|
    some (((strB [39]) ++ t0_1) ++ (strB [39]))
   else
    some t0_1
noncomputable def t40_h0 (k : Nat) (rec : S40 → Option R40) (d3 : ByteArray) (l1_0 : Int) (l1_1 : ByteArray) (l1_2 l1_3 l1_4 : Int) : Option R40 :=
 bif decide ((d3.size : Int) ≤ l1_3) then
  gd (decide ((strB [48]).size + d3.size ≤ 1000000000)) <|
  rec (.h0 ((strB [48]) ++ d3) l1_0 l1_1 l1_2 l1_3 l1_4)
 else
  bif decide (l1_3 < 0) then
   rec (.h1 d3 true l1_0 l1_1 l1_2 l1_3 l1_4)
  else
   rec (.h1 d3 (decide ((d3.size : Int) < l1_3)) l1_0 l1_1 l1_2 l1_3 l1_4)
noncomputable def t40_h1 (k : Nat) (rec : S40 → Option R40) (d3 : ByteArray) (t32 : Bool) (l1_0 : Int) (l1_1 : ByteArray) (l1_2 l1_3 l1_4 : Int) : Option R40 :=
 bif t32 then
  some (strB [])
 else
  gd (decide (0 ≤ (0 : Int) ∧ (0 : Int) ≤ (IntKind.i64.wrap ((d3.size : Int) - l1_3)) ∧ (IntKind.i64.wrap ((d3.size : Int) - l1_3)) ≤ (d3.size : Int))) <|
  gd (decide ((d3.extract (Int.toNat (0 : Int)) (Int.toNat (IntKind.i64.wrap ((d3.size : Int) - l1_3)))).size + (strB [46]).size ≤ 1000000000)) <|
  gd (decide (0 ≤ (IntKind.i64.wrap ((d3.size : Int) - l1_3)) ∧ (IntKind.i64.wrap ((d3.size : Int) - l1_3)) ≤ (d3.size : Int) ∧ (d3.size : Int) ≤ (d3.size : Int))) <|
  gd (decide (((d3.extract (Int.toNat (0 : Int)) (Int.toNat (IntKind.i64.wrap ((d3.size : Int) - l1_3)))) ++ (strB [46])).size + (d3.extract (Int.toNat (IntKind.i64.wrap ((d3.size : Int) - l1_3))) (Int.toNat (d3.size : Int))).size ≤ 1000000000)) <|
  some (((d3.extract (Int.toNat (0 : Int)) (Int.toNat (IntKind.i64.wrap ((d3.size : Int) - l1_3)))) ++ (strB [46])) ++ (d3.extract (Int.toNat (IntKind.i64.wrap ((d3.size : Int) - l1_3))) (Int.toNat (d3.size : Int))))
noncomputable def step40 (k : Nat) (rec : S40 → Option R40) : S40 → Option R40
 | .e t0_0 t0_1 t0_2 t0_3 t0_4 => t40_e k rec t0_0 t0_1 t0_2 t0_3 t0_4
 | .h0 d3 l1_0 l1_1 l1_2 l1_3 l1_4 => t40_h0 k rec d3 l1_0 l1_1 l1_2 l1_3 l1_4
 | .h1 d3 t32 l1_0 l1_1 l1_2 l1_3 l1_4 => t40_h1 k rec d3 t32 l1_0 l1_1 l1_2 l1_3 l1_4
noncomputable def g40 (k : Nat) (t0_0 : Int) (t0_1 : ByteArray) (t0_2 t0_3 t0_4 : Int) : Option R40 := itS step40 k (.e t0_0 t0_1 t0_2 t0_3 t0_4)
noncomputable def P40 : S40 → R40 → Prop
 | .e t0_0 t0_1 t0_2 t0_3 t0_4, r => Fin cx40 Tryd.f40 [.code body40] (fr0 Tryd.f40 [.ag [ic t0_0, sc t0_1, ic t0_2, ic t0_3, ic t0_4]] []) (res40 r) (bx40 r)
 | .h0 d3 l1_0 l1_1 l1_2 l1_3 l1_4, r => Fin cx40 Tryd.f40 (kAt body40 [1, 0, 1, 0, 1, 1, 1, 0, 1, 0, 0, 4] []) ⟨[.deadv, pL 1, .deadv, .c (sc d3)] ++ rep 53 .deadv, [(.loc 1, [ic l1_0, sc l1_1, ic l1_2, ic l1_3, ic l1_4])]⟩ (res40 r) (bx40 r)
 | .h1 d3 t32 l1_0 l1_1 l1_2 l1_3 l1_4, r => Fin cx40 Tryd.f40 (kAt body40 [1, 0, 1, 0, 1, 1, 1, 0, 1, 1, 0, 1, 2] []) ⟨[.deadv, pL 1, .deadv, .c (sc d3)] ++ rep 28 .deadv ++ [.c (bc t32)] ++ rep 24 .deadv, [(.loc 1, [ic l1_0, sc l1_1, ic l1_2, ic l1_3, ic l1_4])]⟩ (res40 r) (bx40 r)
theorem evr40 {t0_0 : Int} {t0_1 : ByteArray} {t0_2 t0_3 t0_4 : Int} {r : R40} (h : P40 (.e t0_0 t0_1 t0_2 t0_3 t0_4) r) : Ev Tryd.prog noHand 40 [.ag [ic t0_0, sc t0_1, ic t0_2, ic t0_3, ic t0_4]] [] (res40 r) (bx40 r) := ev_of_fin (fn := Tryd.f40) (body := body40) (by kernel_rfl) (by kernel_rfl) (by kernel_rfl) rfl h
theorem t40_e_ok (k) {rec} (ih : ∀ s r, rec s = some r → P40 s r) {t0_0 t0_1 t0_2 t0_3 t0_4 r} (h : t40_e k rec t0_0 t0_1 t0_2 t0_3 t0_4 = some r) : P40 (.e t0_0 t0_1 t0_2 t0_3 t0_4) r := by
 unfold t40_e at h
 rcases bif_or h with ⟨h_x1, h⟩ | ⟨h_x1, h⟩
 ·
  obtain ⟨v_x2, h_x3, h⟩ := bd_or h
  rw [← Option.some.inj h]
  exact mF 0 hmix [aT 7, aC 10 (.c (sc v_x2))] [_, _] (by kernel_rfl) ⟨h_x1, (fmtX_ev h_x3), trivial⟩
 ·
  rcases bif_or h with ⟨h_x2, h⟩ | ⟨h_x2, h⟩
  ·
   obtain ⟨v_x3, h_x4, h⟩ := bd_or h
   exact mA 0 hmix (ih _ _ h) 17 [aF 7, aT 12, aC 15 (.c (sc v_x3))] [_, _, _] (bm 57 144115188075855861) (by kernel_rfl) ⟨h_x1, h_x2, (fmtX_ev h_x4), trivial⟩
  ·
   rcases bif_or h with ⟨h_x3, h⟩ | ⟨h_x3, h⟩
   ·
    obtain ⟨h_x4, h⟩ := gd_or h
    obtain ⟨h_x5, h⟩ := gd_or h
    rw [← Option.some.inj h]
    exact mF 0 hmix [aF 7, aF 12, aT 50, (some 53, .scat), (some 54, .scat)] [_, _, _, _, _] (by kernel_rfl) ⟨h_x1, h_x2, h_x3, of_decide_eq_true h_x4, of_decide_eq_true h_x5, trivial⟩
   ·
    rw [← Option.some.inj h]
    exact mF 0 hmix [aF 7, aF 12, aF 50] [_, _, _] (by kernel_rfl) ⟨h_x1, h_x2, h_x3, trivial⟩
theorem t40_h0_ok (k) {rec} (ih : ∀ s r, rec s = some r → P40 s r) {d3 l1_0 l1_1 l1_2 l1_3 l1_4 r} (h : t40_h0 k rec d3 l1_0 l1_1 l1_2 l1_3 l1_4 = some r) : P40 (.h0 d3 l1_0 l1_1 l1_2 l1_3 l1_4) r := by
 unfold t40_h0 at h
 rcases bif_or h with ⟨h_x1, h⟩ | ⟨h_x1, h⟩
 ·
  obtain ⟨h_x2, h⟩ := gd_or h
  exact mA 0 hmix (ih _ _ h) 9 [aT 20, (some 22, .scat)] [_, _] (bm 57 144115188075855861) (by kernel_rfl) ⟨h_x1, of_decide_eq_true h_x2, trivial⟩
 ·
  rcases bif_or h with ⟨h_x2, h⟩ | ⟨h_x2, h⟩
  ·
   exact mA 0 hmix (ih _ _ h) 9 [aF 20, aT 25] [_, _] (bm 57 144115183780888565) (by kernel_rfl) ⟨h_x1, h_x2, trivial⟩
  ·
   exact mA 0 hmix (ih _ _ h) 9 [aF 20, aF 25] [_, _] (bm 57 144115183780888565) (by kernel_rfl) ⟨h_x1, h_x2, trivial⟩
theorem t40_h1_ok (k) {rec} (ih : ∀ s r, rec s = some r → P40 s r) {d3 t32 l1_0 l1_1 l1_2 l1_3 l1_4 r} (h : t40_h1 k rec d3 t32 l1_0 l1_1 l1_2 l1_3 l1_4 = some r) : P40 (.h1 d3 t32 l1_0 l1_1 l1_2 l1_3 l1_4) r := by
 unfold t40_h1 at h
 replace h := bif_or h; rcases h with ⟨rfl, h⟩ | ⟨rfl, h⟩
 ·
  rw [← Option.some.inj h]
  exact mF 0 hmix [] [] (by kernel_rfl) trivial
 ·
  obtain ⟨h_x1, h⟩ := gd_or h
  obtain ⟨h_x2, h⟩ := gd_or h
  obtain ⟨h_x3, h⟩ := gd_or h
  obtain ⟨h_x4, h⟩ := gd_or h
  rw [← Option.some.inj h]
  exact mF 0 hmix [aS 39, (some 40, .scat), aS 47, (some 48, .scat)] [_, _, _, _] (by kernel_rfl) ⟨of_decide_eq_true h_x1, of_decide_eq_true h_x2, of_decide_eq_true h_x3, of_decide_eq_true h_x4, trivial⟩
theorem ok40 : ∀ k s r, itS step40 k s = some r → P40 s r := itS_ok fun k rec ih s r h => match s, h with
 | .e t0_0 t0_1 t0_2 t0_3 t0_4, h => t40_e_ok k ih h
 | .h0 d3 l1_0 l1_1 l1_2 l1_3 l1_4, h => t40_h0_ok k ih h
 | .h1 d3 t32 l1_0 l1_1 l1_2 l1_3 l1_4, h => t40_h1_ok k ih h
theorem ev40 {k : Nat} {t0_0 : Int} {t0_1 : ByteArray} {t0_2 t0_3 t0_4 : Int} {r : R40} (h : g40 k t0_0 t0_1 t0_2 t0_3 t0_4 = some r) : Ev Tryd.prog noHand 40 [.ag [ic t0_0, sc t0_1, ic t0_2, ic t0_3, ic t0_4]] [] (res40 r) (bx40 r) := evr40 (ok40 _ _ _ h)
inductive S24 where
 | e (e0_0 : Int) (e0_1 : Rs) (e0_2 e0_3 : Int) (e0_4 e0_5 : ByteArray) (e0_6 : Int)
 | h0 (t58 : Bool) (l1_0 : Int) (l1_1 : Rs) (l1_2 l1_3 : Int) (l1_4 l1_5 : ByteArray) (l1_6 : Int)
abbrev R24 := Bool
def res24 : R24 → ARes
 | r => .ret (.c (bc r))
def bx24 : R24 → List (List Cell)
 | r => []
noncomputable def t24_e (k : Nat) (rec : S24 → Option R24) (e0_0 : Int) (e0_1 : Rs) (e0_2 e0_3 : Int) (e0_4 e0_5 : ByteArray) (e0_6 : Int) : Option R24 :=
 bif decide (e0_0 ≥ 23) then
  bif decide (e0_0 ≤ 31) then
   bif e0_0 != 23 then
    (nameX e0_4).bind fun v_x4 =>
    bif true != v_x4 then
     rec (.h0 true e0_0 e0_1 e0_2 e0_3 e0_4 e0_5 e0_6)
    else
     (nameX e0_5).bind fun v_x7 =>
     bif v_x7 then
      bif (e0_0 != 25) != true then
       rec (.h0 true e0_0 e0_1 e0_2 e0_3 e0_4 e0_5 e0_6)
      else
       bif !(e0_0 != 25) then
        rec (.h0 (!(e0_5.toList == (strB []).toList)) e0_0 e0_1 e0_2 e0_3 e0_4 e0_5 e0_6)
       else
        rec (.h0 false e0_0 e0_1 e0_2 e0_3 e0_4 e0_5 e0_6)
     else
      bif (e0_0 != 25) != (e0_5.toList == (strB [84, 73, 77, 69]).toList) then
       rec (.h0 true e0_0 e0_1 e0_2 e0_3 e0_4 e0_5 e0_6)
      else
       bif !(e0_0 != 25) then
        rec (.h0 (!(e0_5.toList == (strB []).toList)) e0_0 e0_1 e0_2 e0_3 e0_4 e0_5 e0_6)
       else
        rec (.h0 false e0_0 e0_1 e0_2 e0_3 e0_4 e0_5 e0_6)
   else
    (nameX e0_4).bind fun v_x4 =>
    bif true != v_x4 then
     rec (.h0 true e0_0 e0_1 e0_2 e0_3 e0_4 e0_5 e0_6)
    else
     (nameX e0_5).bind fun v_x7 =>
     bif v_x7 then
      rec (.h0 true e0_0 e0_1 e0_2 e0_3 e0_4 e0_5 e0_6)
     else
      bif false != (e0_5.toList == (strB [84, 73, 77, 69]).toList) then
       rec (.h0 true e0_0 e0_1 e0_2 e0_3 e0_4 e0_5 e0_6)
      else
       rec (.h0 (!(e0_5.toList == (strB []).toList)) e0_0 e0_1 e0_2 e0_3 e0_4 e0_5 e0_6)
  else
   (nameX e0_4).bind fun v_x3 =>
   bif false != v_x3 then
    rec (.h0 true e0_0 e0_1 e0_2 e0_3 e0_4 e0_5 e0_6)
   else
    bif !(e0_4.toList == (strB []).toList) then
     rec (.h0 true e0_0 e0_1 e0_2 e0_3 e0_4 e0_5 e0_6)
    else
     (nameX e0_5).bind fun v_x7 =>
     bif v_x7 then
      rec (.h0 true e0_0 e0_1 e0_2 e0_3 e0_4 e0_5 e0_6)
     else
      bif false != (e0_5.toList == (strB [84, 73, 77, 69]).toList) then
       rec (.h0 true e0_0 e0_1 e0_2 e0_3 e0_4 e0_5 e0_6)
      else
       rec (.h0 (!(e0_5.toList == (strB []).toList)) e0_0 e0_1 e0_2 e0_3 e0_4 e0_5 e0_6)
 else
  (nameX e0_4).bind fun v_x2 =>
  bif false != v_x2 then
   rec (.h0 true e0_0 e0_1 e0_2 e0_3 e0_4 e0_5 e0_6)
  else
   bif !(e0_4.toList == (strB []).toList) then
    rec (.h0 true e0_0 e0_1 e0_2 e0_3 e0_4 e0_5 e0_6)
   else
    (nameX e0_5).bind fun v_x6 =>
    bif v_x6 then
     rec (.h0 true e0_0 e0_1 e0_2 e0_3 e0_4 e0_5 e0_6)
    else
     bif false != (e0_5.toList == (strB [84, 73, 77, 69]).toList) then
      rec (.h0 true e0_0 e0_1 e0_2 e0_3 e0_4 e0_5 e0_6)
     else
      rec (.h0 (!(e0_5.toList == (strB []).toList)) e0_0 e0_1 e0_2 e0_3 e0_4 e0_5 e0_6)
noncomputable def t24_h0 (k : Nat) (rec : S24 → Option R24) (t58 : Bool) (l1_0 : Int) (l1_1 : Rs) (l1_2 l1_3 : Int) (l1_4 l1_5 : ByteArray) (l1_6 : Int) : Option R24 :=
 bif t58 then
  some false
 else
  bif l1_0 == 20 then
   bif decide (l1_2 ≥ 0) then
    some (l1_3 == 0)
   else
    some false
  else
   bif l1_0 == 22 then
    bif decide (l1_2 ≥ 0) then
     bif decide (l1_2 ≤ 1) then
      some (l1_3 == 0)
     else
      some false
    else
     some false
   else
    bif l1_0 == 21 then
     bif decide (l1_2 ≥ 0) then
      bif decide (l1_3 ≥ 1) then
       bif decide (l1_3 ≤ 14) then
        (g40 k 4 (strB []) l1_2 l1_3 0).bind fun v_x7 =>
        some (decide ((v_x7.size : Int) ≤ 16))
       else
        some false
      else
       some false
     else
      some false
    else
     bif l1_2 == 0 then
      some (l1_3 == 0)
     else
      some false
noncomputable def step24 (k : Nat) (rec : S24 → Option R24) : S24 → Option R24
 | .e e0_0 e0_1 e0_2 e0_3 e0_4 e0_5 e0_6 => t24_e k rec e0_0 e0_1 e0_2 e0_3 e0_4 e0_5 e0_6
 | .h0 t58 l1_0 l1_1 l1_2 l1_3 l1_4 l1_5 l1_6 => t24_h0 k rec t58 l1_0 l1_1 l1_2 l1_3 l1_4 l1_5 l1_6
noncomputable def g24 (k : Nat) (e0_0 : Int) (e0_1 : Rs) (e0_2 e0_3 : Int) (e0_4 e0_5 : ByteArray) (e0_6 : Int) : Option R24 := itS step24 k (.e e0_0 e0_1 e0_2 e0_3 e0_4 e0_5 e0_6)
noncomputable def P24 : S24 → R24 → Prop
 | .e e0_0 e0_1 e0_2 e0_3 e0_4 e0_5 e0_6, r => Fin cx24 Tryd.f24 [.code body24] (fr0 Tryd.f24 [.ag [ic e0_0, .imm e0_1, ic e0_2, ic e0_3, sc e0_4, sc e0_5, ic e0_6]] []) (res24 r) (bx24 r)
 | .h0 t58 l1_0 l1_1 l1_2 l1_3 l1_4 l1_5 l1_6, r => Fin cx24 Tryd.f24 (kAt body24 [1, 1, 1, 0, 1, 2] []) ⟨[.deadv, pL 1] ++ rep 56 .deadv ++ [.c (bc t58)] ++ rep 60 .deadv, [(.loc 1, [ic l1_0, .imm l1_1, ic l1_2, ic l1_3, sc l1_4, sc l1_5, ic l1_6])]⟩ (res24 r) (bx24 r)
theorem evr24 {e0_0 : Int} {e0_1 : Rs} {e0_2 e0_3 : Int} {e0_4 e0_5 : ByteArray} {e0_6 : Int} {r : R24} (h : P24 (.e e0_0 e0_1 e0_2 e0_3 e0_4 e0_5 e0_6) r) : Ev Tryd.prog noHand 24 [.ag [ic e0_0, .imm e0_1, ic e0_2, ic e0_3, sc e0_4, sc e0_5, ic e0_6]] [] (res24 r) (bx24 r) := ev_of_fin (fn := Tryd.f24) (body := body24) (by kernel_rfl) (by kernel_rfl) (by kernel_rfl) rfl h
theorem t24_e_ok (k) {rec} (ih : ∀ s r, rec s = some r → P24 s r) {e0_0 e0_1 e0_2 e0_3 e0_4 e0_5 e0_6 r} (h : t24_e k rec e0_0 e0_1 e0_2 e0_3 e0_4 e0_5 e0_6 = some r) : P24 (.e e0_0 e0_1 e0_2 e0_3 e0_4 e0_5 e0_6) r := by
 unfold t24_e at h
 rcases bif_or h with ⟨h_x1, h⟩ | ⟨h_x1, h⟩
 ·
  rcases bif_or h with ⟨h_x2, h⟩ | ⟨h_x2, h⟩
  ·
   rcases bif_or h with ⟨h_x3, h⟩ | ⟨h_x3, h⟩
   ·
    obtain ⟨v_x4, h_x5, h⟩ := bd_or h
    rcases bif_or h with ⟨h_x6, h⟩ | ⟨h_x6, h⟩
    ·
     exact mA 0 hmix (ih _ _ h) 9 [aT 7, aT 11, aT 17, aC 27 (.c (bc v_x4)), aT 28] [_, _, _, _, _] (bm 119 664613997892457936163673153988460541) (by kernel_rfl) ⟨h_x1, h_x2, h_x3, (nameX_ev h_x5), h_x6, trivial⟩
    ·
     obtain ⟨v_x7, h_x8, h⟩ := bd_or h
     replace h := bif_or h; rcases h with ⟨rfl, h⟩ | ⟨rfl, h⟩
     ·
      rcases bif_or h with ⟨h_x9, h⟩ | ⟨h_x9, h⟩
      ·
       exact mA 0 hmix (ih _ _ h) 9 [aT 7, aT 11, aT 17, aC 27 (.c (bc v_x4)), aF 28, aC 42 (.c (bc true)), aT 48] [_, _, _, _, _, _, _] (bm 119 664613997892457936163673153988460541) (by kernel_rfl) ⟨h_x1, h_x2, h_x3, (nameX_ev h_x5), h_x6, (nameX_ev h_x8), h_x9, trivial⟩
      ·
       rcases bif_or h with ⟨h_x10, h⟩ | ⟨h_x10, h⟩
       ·
        exact mA 0 hmix (ih _ _ h) 9 [aT 7, aT 11, aT 17, aC 27 (.c (bc v_x4)), aF 28, aC 42 (.c (bc true)), aF 48, aT 52] [_, _, _, _, _, _, _, _] (bm 119 664613997892457936163673153988460541) (by kernel_rfl) ⟨h_x1, h_x2, h_x3, (nameX_ev h_x5), h_x6, (nameX_ev h_x8), h_x9, h_x10, trivial⟩
       ·
        exact mA 0 hmix (ih _ _ h) 9 [aT 7, aT 11, aT 17, aC 27 (.c (bc v_x4)), aF 28, aC 42 (.c (bc true)), aF 48, aF 52] [_, _, _, _, _, _, _, _] (bm 119 664613997892457936163673153988460541) (by kernel_rfl) ⟨h_x1, h_x2, h_x3, (nameX_ev h_x5), h_x6, (nameX_ev h_x8), h_x9, h_x10, trivial⟩
     ·
      rcases bif_or h with ⟨h_x9, h⟩ | ⟨h_x9, h⟩
      ·
       exact mA 0 hmix (ih _ _ h) 9 [aT 7, aT 11, aT 17, aC 27 (.c (bc v_x4)), aF 28, aC 42 (.c (bc false)), aT 48] [_, _, _, _, _, _, _] (bm 119 664613997892457936163673153988460541) (by kernel_rfl) ⟨h_x1, h_x2, h_x3, (nameX_ev h_x5), h_x6, (nameX_ev h_x8), h_x9, trivial⟩
      ·
       rcases bif_or h with ⟨h_x10, h⟩ | ⟨h_x10, h⟩
       ·
        exact mA 0 hmix (ih _ _ h) 9 [aT 7, aT 11, aT 17, aC 27 (.c (bc v_x4)), aF 28, aC 42 (.c (bc false)), aF 48, aT 52] [_, _, _, _, _, _, _, _] (bm 119 664613997892457936163673153988460541) (by kernel_rfl) ⟨h_x1, h_x2, h_x3, (nameX_ev h_x5), h_x6, (nameX_ev h_x8), h_x9, h_x10, trivial⟩
       ·
        exact mA 0 hmix (ih _ _ h) 9 [aT 7, aT 11, aT 17, aC 27 (.c (bc v_x4)), aF 28, aC 42 (.c (bc false)), aF 48, aF 52] [_, _, _, _, _, _, _, _] (bm 119 664613997892457936163673153988460541) (by kernel_rfl) ⟨h_x1, h_x2, h_x3, (nameX_ev h_x5), h_x6, (nameX_ev h_x8), h_x9, h_x10, trivial⟩
   ·
    obtain ⟨v_x4, h_x5, h⟩ := bd_or h
    rcases bif_or h with ⟨h_x6, h⟩ | ⟨h_x6, h⟩
    ·
     exact mA 0 hmix (ih _ _ h) 9 [aT 7, aT 11, aF 17, aC 27 (.c (bc v_x4)), aT 28] [_, _, _, _, _] (bm 119 664613997892457936163673153988460541) (by kernel_rfl) ⟨h_x1, h_x2, h_x3, (nameX_ev h_x5), h_x6, trivial⟩
    ·
     obtain ⟨v_x7, h_x8, h⟩ := bd_or h
     replace h := bif_or h; rcases h with ⟨rfl, h⟩ | ⟨rfl, h⟩
     ·
      exact mA 0 hmix (ih _ _ h) 9 [aT 7, aT 11, aF 17, aC 27 (.c (bc v_x4)), aF 28, aC 42 (.c (bc true))] [_, _, _, _, _, _] (bm 119 664613997892457936163673153988460541) (by kernel_rfl) ⟨h_x1, h_x2, h_x3, (nameX_ev h_x5), h_x6, (nameX_ev h_x8), trivial⟩
     ·
      rcases bif_or h with ⟨h_x9, h⟩ | ⟨h_x9, h⟩
      ·
       exact mA 0 hmix (ih _ _ h) 9 [aT 7, aT 11, aF 17, aC 27 (.c (bc v_x4)), aF 28, aC 42 (.c (bc false)), aT 48] [_, _, _, _, _, _, _] (bm 119 664613997892457936163673153988460541) (by kernel_rfl) ⟨h_x1, h_x2, h_x3, (nameX_ev h_x5), h_x6, (nameX_ev h_x8), h_x9, trivial⟩
      ·
       exact mA 0 hmix (ih _ _ h) 9 [aT 7, aT 11, aF 17, aC 27 (.c (bc v_x4)), aF 28, aC 42 (.c (bc false)), aF 48] [_, _, _, _, _, _, _] (bm 119 664613997892457936163673153988460541) (by kernel_rfl) ⟨h_x1, h_x2, h_x3, (nameX_ev h_x5), h_x6, (nameX_ev h_x8), h_x9, trivial⟩
  ·
   obtain ⟨v_x3, h_x4, h⟩ := bd_or h
   rcases bif_or h with ⟨h_x5, h⟩ | ⟨h_x5, h⟩
   ·
    exact mA 0 hmix (ih _ _ h) 9 [aT 7, aF 11, aC 27 (.c (bc v_x3)), aT 28] [_, _, _, _] (bm 119 664613997892457936163673153988460541) (by kernel_rfl) ⟨h_x1, h_x2, (nameX_ev h_x4), h_x5, trivial⟩
   ·
    rcases bif_or h with ⟨h_x6, h⟩ | ⟨h_x6, h⟩
    ·
     exact mA 0 hmix (ih _ _ h) 9 [aT 7, aF 11, aC 27 (.c (bc v_x3)), aF 28, aT 35] [_, _, _, _, _] (bm 119 664613997892457936163673153988460541) (by kernel_rfl) ⟨h_x1, h_x2, (nameX_ev h_x4), h_x5, h_x6, trivial⟩
    ·
     obtain ⟨v_x7, h_x8, h⟩ := bd_or h
     replace h := bif_or h; rcases h with ⟨rfl, h⟩ | ⟨rfl, h⟩
     ·
      exact mA 0 hmix (ih _ _ h) 9 [aT 7, aF 11, aC 27 (.c (bc v_x3)), aF 28, aF 35, aC 42 (.c (bc true))] [_, _, _, _, _, _] (bm 119 664613997892457936163673153988460541) (by kernel_rfl) ⟨h_x1, h_x2, (nameX_ev h_x4), h_x5, h_x6, (nameX_ev h_x8), trivial⟩
     ·
      rcases bif_or h with ⟨h_x9, h⟩ | ⟨h_x9, h⟩
      ·
       exact mA 0 hmix (ih _ _ h) 9 [aT 7, aF 11, aC 27 (.c (bc v_x3)), aF 28, aF 35, aC 42 (.c (bc false)), aT 48] [_, _, _, _, _, _, _] (bm 119 664613997892457936163673153988460541) (by kernel_rfl) ⟨h_x1, h_x2, (nameX_ev h_x4), h_x5, h_x6, (nameX_ev h_x8), h_x9, trivial⟩
      ·
       exact mA 0 hmix (ih _ _ h) 9 [aT 7, aF 11, aC 27 (.c (bc v_x3)), aF 28, aF 35, aC 42 (.c (bc false)), aF 48] [_, _, _, _, _, _, _] (bm 119 664613997892457936163673153988460541) (by kernel_rfl) ⟨h_x1, h_x2, (nameX_ev h_x4), h_x5, h_x6, (nameX_ev h_x8), h_x9, trivial⟩
 ·
  obtain ⟨v_x2, h_x3, h⟩ := bd_or h
  rcases bif_or h with ⟨h_x4, h⟩ | ⟨h_x4, h⟩
  ·
   exact mA 0 hmix (ih _ _ h) 9 [aF 7, aC 27 (.c (bc v_x2)), aT 28] [_, _, _] (bm 119 664613997892457936163673153988460541) (by kernel_rfl) ⟨h_x1, (nameX_ev h_x3), h_x4, trivial⟩
  ·
   rcases bif_or h with ⟨h_x5, h⟩ | ⟨h_x5, h⟩
   ·
    exact mA 0 hmix (ih _ _ h) 9 [aF 7, aC 27 (.c (bc v_x2)), aF 28, aT 35] [_, _, _, _] (bm 119 664613997892457936163673153988460541) (by kernel_rfl) ⟨h_x1, (nameX_ev h_x3), h_x4, h_x5, trivial⟩
   ·
    obtain ⟨v_x6, h_x7, h⟩ := bd_or h
    replace h := bif_or h; rcases h with ⟨rfl, h⟩ | ⟨rfl, h⟩
    ·
     exact mA 0 hmix (ih _ _ h) 9 [aF 7, aC 27 (.c (bc v_x2)), aF 28, aF 35, aC 42 (.c (bc true))] [_, _, _, _, _] (bm 119 664613997892457936163673153988460541) (by kernel_rfl) ⟨h_x1, (nameX_ev h_x3), h_x4, h_x5, (nameX_ev h_x7), trivial⟩
    ·
     rcases bif_or h with ⟨h_x8, h⟩ | ⟨h_x8, h⟩
     ·
      exact mA 0 hmix (ih _ _ h) 9 [aF 7, aC 27 (.c (bc v_x2)), aF 28, aF 35, aC 42 (.c (bc false)), aT 48] [_, _, _, _, _, _] (bm 119 664613997892457936163673153988460541) (by kernel_rfl) ⟨h_x1, (nameX_ev h_x3), h_x4, h_x5, (nameX_ev h_x7), h_x8, trivial⟩
     ·
      exact mA 0 hmix (ih _ _ h) 9 [aF 7, aC 27 (.c (bc v_x2)), aF 28, aF 35, aC 42 (.c (bc false)), aF 48] [_, _, _, _, _, _] (bm 119 664613997892457936163673153988460541) (by kernel_rfl) ⟨h_x1, (nameX_ev h_x3), h_x4, h_x5, (nameX_ev h_x7), h_x8, trivial⟩
theorem t24_h0_ok (k) {rec} (ih : ∀ s r, rec s = some r → P24 s r) {t58 l1_0 l1_1 l1_2 l1_3 l1_4 l1_5 l1_6 r} (h : t24_h0 k rec t58 l1_0 l1_1 l1_2 l1_3 l1_4 l1_5 l1_6 = some r) : P24 (.h0 t58 l1_0 l1_1 l1_2 l1_3 l1_4 l1_5 l1_6) r := by
 unfold t24_h0 at h
 replace h := bif_or h; rcases h with ⟨rfl, h⟩ | ⟨rfl, h⟩
 ·
  rw [← Option.some.inj h]
  exact mF 0 hmix [] [] (by kernel_rfl) trivial
 ·
  rcases bif_or h with ⟨h_x1, h⟩ | ⟨h_x1, h⟩
  ·
   rcases bif_or h with ⟨h_x2, h⟩ | ⟨h_x2, h⟩
   ·
    rw [← Option.some.inj h]
    exact mF 0 hmix [aT 62, aT 65] [_, _] (by kernel_rfl) ⟨h_x1, h_x2, trivial⟩
   ·
    rw [← Option.some.inj h]
    exact mF 0 hmix [aT 62, aF 65] [_, _] (by kernel_rfl) ⟨h_x1, h_x2, trivial⟩
  ·
   rcases bif_or h with ⟨h_x2, h⟩ | ⟨h_x2, h⟩
   ·
    rcases bif_or h with ⟨h_x3, h⟩ | ⟨h_x3, h⟩
    ·
     rcases bif_or h with ⟨h_x4, h⟩ | ⟨h_x4, h⟩
     ·
      rw [← Option.some.inj h]
      exact mF 0 hmix [aF 62, aT 72, aT 75, aT 79] [_, _, _, _] (by kernel_rfl) ⟨h_x1, h_x2, h_x3, h_x4, trivial⟩
     ·
      rw [← Option.some.inj h]
      exact mF 0 hmix [aF 62, aT 72, aT 75, aF 79] [_, _, _, _] (by kernel_rfl) ⟨h_x1, h_x2, h_x3, h_x4, trivial⟩
    ·
     rw [← Option.some.inj h]
     exact mF 0 hmix [aF 62, aT 72, aF 75] [_, _, _] (by kernel_rfl) ⟨h_x1, h_x2, h_x3, trivial⟩
   ·
    rcases bif_or h with ⟨h_x3, h⟩ | ⟨h_x3, h⟩
    ·
     rcases bif_or h with ⟨h_x4, h⟩ | ⟨h_x4, h⟩
     ·
      rcases bif_or h with ⟨h_x5, h⟩ | ⟨h_x5, h⟩
      ·
       rcases bif_or h with ⟨h_x6, h⟩ | ⟨h_x6, h⟩
       ·
        obtain ⟨v_x7, h_x8, h⟩ := bd_or h
        rw [← Option.some.inj h]
        exact mF 0 hmix [aF 62, aF 72, aT 87, aT 90, aT 94, aT 99, aC 107 (.c (sc v_x7))] [_, _, _, _, _, _, _] (by kernel_rfl) ⟨h_x1, h_x2, h_x3, h_x4, h_x5, h_x6, (ev40 h_x8), trivial⟩
       ·
        rw [← Option.some.inj h]
        exact mF 0 hmix [aF 62, aF 72, aT 87, aT 90, aT 94, aF 99] [_, _, _, _, _, _] (by kernel_rfl) ⟨h_x1, h_x2, h_x3, h_x4, h_x5, h_x6, trivial⟩
      ·
       rw [← Option.some.inj h]
       exact mF 0 hmix [aF 62, aF 72, aT 87, aT 90, aF 94] [_, _, _, _, _] (by kernel_rfl) ⟨h_x1, h_x2, h_x3, h_x4, h_x5, trivial⟩
     ·
      rw [← Option.some.inj h]
      exact mF 0 hmix [aF 62, aF 72, aT 87, aF 90] [_, _, _, _] (by kernel_rfl) ⟨h_x1, h_x2, h_x3, h_x4, trivial⟩
    ·
     rcases bif_or h with ⟨h_x4, h⟩ | ⟨h_x4, h⟩
     ·
      rw [← Option.some.inj h]
      exact mF 0 hmix [aF 62, aF 72, aF 87, aT 113] [_, _, _, _] (by kernel_rfl) ⟨h_x1, h_x2, h_x3, h_x4, trivial⟩
     ·
      rw [← Option.some.inj h]
      exact mF 0 hmix [aF 62, aF 72, aF 87, aF 113] [_, _, _, _] (by kernel_rfl) ⟨h_x1, h_x2, h_x3, h_x4, trivial⟩
theorem ok24 : ∀ k s r, itS step24 k s = some r → P24 s r := itS_ok fun k rec ih s r h => match s, h with
 | .e e0_0 e0_1 e0_2 e0_3 e0_4 e0_5 e0_6, h => t24_e_ok k ih h
 | .h0 t58 l1_0 l1_1 l1_2 l1_3 l1_4 l1_5 l1_6, h => t24_h0_ok k ih h
theorem ev24 {k : Nat} {e0_0 : Int} {e0_1 : Rs} {e0_2 e0_3 : Int} {e0_4 e0_5 : ByteArray} {e0_6 : Int} {r : R24} (h : g24 k e0_0 e0_1 e0_2 e0_3 e0_4 e0_5 e0_6 = some r) : Ev Tryd.prog noHand 24 [.ag [ic e0_0, .imm e0_1, ic e0_2, ic e0_3, sc e0_4, sc e0_5, ic e0_6]] [] (res24 r) (bx24 r) := evr24 (ok24 _ _ _ h)
inductive S17 where
 | e (e0_0 : Int) (e0_1 : Rs) (e0_2 e0_3 : Int) (e0_4 e0_5 : ByteArray) (e0_6 : Int)
 | h0 (t16 : Bool) (l1_0 : Int) (l1_1 : Rs) (l1_2 l1_3 : Int) (l1_4 l1_5 : ByteArray) (l1_6 : Int)
 | h1 (t18 : Rs) (t19 t20 : Int)
abbrev R17 := Bool
def res17 : R17 → ARes
 | r => .ret (.c (bc r))
def bx17 : R17 → List (List Cell)
 | r => []
noncomputable def t17_e (k : Nat) (rec : S17 → Option R17) (e0_0 : Int) (e0_1 : Rs) (e0_2 e0_3 : Int) (e0_4 e0_5 : ByteArray) (e0_6 : Int) : Option R17 :=
 (g23 k e0_0).bind fun v_x1 =>
 bif v_x1 != (e0_1.length : Int) then
  rec (.h0 true e0_0 e0_1 e0_2 e0_3 e0_4 e0_5 e0_6)
 else
  (g24 k e0_0 e0_1 e0_2 e0_3 e0_4 e0_5 e0_6).bind fun v_x4 =>
  rec (.h0 (!v_x4) e0_0 e0_1 e0_2 e0_3 e0_4 e0_5 e0_6)
noncomputable def t17_h0 (k : Nat) (rec : S17 → Option R17) (t16 : Bool) (l1_0 : Int) (l1_1 : Rs) (l1_2 l1_3 : Int) (l1_4 l1_5 : ByteArray) (l1_6 : Int) : Option R17 :=
 bif t16 then
  some false
 else
  rec (.h1 l1_1 (l1_1.length : Int) 0)
noncomputable def t17_h1 (k : Nat) (rec : S17 → Option R17) (t18 : Rs) (t19 t20 : Int) : Option R17 :=
 bif decide (t20 < t19) then
  ixR t18 t20 fun w_x2 =>
  un_imiissi w_x2 fun op_x4 args_x4 n_x4 scale_x4 name_x4 attr_x4 at_x4 =>
  (rec (.e op_x4 args_x4 n_x4 scale_x4 name_x4 attr_x4 at_x4)).bind fun v_x5 =>
  bif !v_x5 then
   some false
  else
   rec (.h1 t18 t19 (IntKind.i64.wrap (t20 + 1)))
 else
  some true
noncomputable def step17 (k : Nat) (rec : S17 → Option R17) : S17 → Option R17
 | .e e0_0 e0_1 e0_2 e0_3 e0_4 e0_5 e0_6 => t17_e k rec e0_0 e0_1 e0_2 e0_3 e0_4 e0_5 e0_6
 | .h0 t16 l1_0 l1_1 l1_2 l1_3 l1_4 l1_5 l1_6 => t17_h0 k rec t16 l1_0 l1_1 l1_2 l1_3 l1_4 l1_5 l1_6
 | .h1 t18 t19 t20 => t17_h1 k rec t18 t19 t20
noncomputable def g17 (k : Nat) (e0_0 : Int) (e0_1 : Rs) (e0_2 e0_3 : Int) (e0_4 e0_5 : ByteArray) (e0_6 : Int) : Option R17 := itS step17 k (.e e0_0 e0_1 e0_2 e0_3 e0_4 e0_5 e0_6)
noncomputable def P17 : S17 → R17 → Prop
 | .e e0_0 e0_1 e0_2 e0_3 e0_4 e0_5 e0_6, r => Fin cx17 Tryd.f17 [.code body17] (fr0 Tryd.f17 [.ag [ic e0_0, .imm e0_1, ic e0_2, ic e0_3, sc e0_4, sc e0_5, ic e0_6]] []) (res17 r) (bx17 r)
 | .h0 t16 l1_0 l1_1 l1_2 l1_3 l1_4 l1_5 l1_6, r => Fin cx17 Tryd.f17 (kAt body17 [1, 0, 1, 2] []) ⟨[.deadv, pL 1] ++ rep 14 .deadv ++ [.c (bc t16)] ++ rep 11 .deadv, [(.loc 1, [ic l1_0, .imm l1_1, ic l1_2, ic l1_3, sc l1_4, sc l1_5, ic l1_6])]⟩ (res17 r) (bx17 r)
 | .h1 t18 t19 t20, r => Fin cx17 Tryd.f17 (kAt body17 [1, 1, 0, 1, 0, 4] []) ⟨rep 18 .deadv ++ [.c (.imm t18), .c (ic t19), .c (ic t20)] ++ rep 7 .deadv, []⟩ (res17 r) (bx17 r)
theorem evr17 {e0_0 : Int} {e0_1 : Rs} {e0_2 e0_3 : Int} {e0_4 e0_5 : ByteArray} {e0_6 : Int} {r : R17} (h : P17 (.e e0_0 e0_1 e0_2 e0_3 e0_4 e0_5 e0_6) r) : Ev Tryd.prog noHand 17 [.ag [ic e0_0, .imm e0_1, ic e0_2, ic e0_3, sc e0_4, sc e0_5, ic e0_6]] [] (res17 r) (bx17 r) := ev_of_fin (fn := Tryd.f17) (body := body17) (by kernel_rfl) (by kernel_rfl) (by kernel_rfl) rfl h
theorem t17_e_ok (k) {rec} (ih : ∀ s r, rec s = some r → P17 s r) {e0_0 e0_1 e0_2 e0_3 e0_4 e0_5 e0_6 r} (h : t17_e k rec e0_0 e0_1 e0_2 e0_3 e0_4 e0_5 e0_6 = some r) : P17 (.e e0_0 e0_1 e0_2 e0_3 e0_4 e0_5 e0_6) r := by
 unfold t17_e at h
 obtain ⟨v_x1, h_x2, h⟩ := bd_or h
 rcases bif_or h with ⟨h_x3, h⟩ | ⟨h_x3, h⟩
 ·
  exact mA 0 hmix (ih _ _ h) 5 [aC 7 (.c (ic v_x1)), aT 11] [_, _] (bm 28 268369917) (by kernel_rfl) ⟨(ev23 h_x2), h_x3, trivial⟩
 ·
  obtain ⟨v_x4, h_x5, h⟩ := bd_or h
  exact mA 0 hmix (ih _ _ h) 5 [aC 7 (.c (ic v_x1)), aF 11, aC 14 (.c (bc v_x4))] [_, _, _] (bm 28 268369917) (by kernel_rfl) ⟨(ev23 h_x2), h_x3, (ev24 h_x5), trivial⟩
theorem t17_h0_ok (k) {rec} (ih : ∀ s r, rec s = some r → P17 s r) {t16 l1_0 l1_1 l1_2 l1_3 l1_4 l1_5 l1_6 r} (h : t17_h0 k rec t16 l1_0 l1_1 l1_2 l1_3 l1_4 l1_5 l1_6 = some r) : P17 (.h0 t16 l1_0 l1_1 l1_2 l1_3 l1_4 l1_5 l1_6) r := by
 unfold t17_h0 at h
 replace h := bif_or h; rcases h with ⟨rfl, h⟩ | ⟨rfl, h⟩
 ·
  rw [← Option.some.inj h]
  exact mF 0 hmix [] [] (by kernel_rfl) trivial
 ·
  exact mgo_at (nb := 0) hmix (ih _ _ h) (n := 7) (ad := []) (ps := []) (m := bm 28 266600447) (ls := [1]) (cs := []) (by kernel_rfl) trivial
theorem t17_h1_ok (k) {rec} (ih : ∀ s r, rec s = some r → P17 s r) {t18 t19 t20 r} (h : t17_h1 k rec t18 t19 t20 = some r) : P17 (.h1 t18 t19 t20) r := by
 unfold t17_h1 at h
 rcases bif_or h with ⟨h_x1, h⟩ | ⟨h_x1, h⟩
 ·
  obtain ⟨w_x2, h_x3, h⟩ := ixR_or h
  replace h := un_imiissi_or h; obtain ⟨op_x4, args_x4, n_x4, scale_x4, name_x4, attr_x4, at_x4, rfl, h⟩ := h
  obtain ⟨v_x5, h_x6, h⟩ := bd_or h
  rcases bif_or h with ⟨h_x7, h⟩ | ⟨h_x7, h⟩
  ·
   rw [← Option.some.inj h]
   exact mF 0 hmix [aT 21, (some 22, .row [ic op_x4, .imm args_x4, ic n_x4, ic scale_x4, sc name_x4, sc attr_x4, ic at_x4]), aC 25 (.c (bc v_x5)), aT 26] [_, _, _, _] (by kernel_rfl) ⟨h_x1, ix_row h_x3 rfl, (evr17 (ih _ _ h_x6)), h_x7, trivial⟩
  ·
   exact mgo_at (nb := 0) hmix (ih _ _ h) (n := 16) (ad := [aT 21, (some 22, .row [ic op_x4, .imm args_x4, ic n_x4, ic scale_x4, sc name_x4, sc attr_x4, ic at_x4]), aC 25 (.c (bc v_x5)), aF 26]) (ps := [_, _, _, _]) (m := bm 28 266600447) (ls := [4]) (cs := []) (by kernel_rfl) ⟨h_x1, ix_row h_x3 rfl, (evr17 (ih _ _ h_x6)), h_x7, trivial⟩
 ·
  rw [← Option.some.inj h]
  exact mF 0 hmix [aF 21] [_] (by kernel_rfl) ⟨h_x1, trivial⟩
theorem ok17 : ∀ k s r, itS step17 k s = some r → P17 s r := itS_ok fun k rec ih s r h => match s, h with
 | .e e0_0 e0_1 e0_2 e0_3 e0_4 e0_5 e0_6, h => t17_e_ok k ih h
 | .h0 t16 l1_0 l1_1 l1_2 l1_3 l1_4 l1_5 l1_6, h => t17_h0_ok k ih h
 | .h1 t18 t19 t20, h => t17_h1_ok k ih h
theorem ev17 {k : Nat} {e0_0 : Int} {e0_1 : Rs} {e0_2 e0_3 : Int} {e0_4 e0_5 : ByteArray} {e0_6 : Int} {r : R17} (h : g17 k e0_0 e0_1 e0_2 e0_3 e0_4 e0_5 e0_6 = some r) : Ev Tryd.prog noHand 17 [.ag [ic e0_0, .imm e0_1, ic e0_2, ic e0_3, sc e0_4, sc e0_5, ic e0_6]] [] (res17 r) (bx17 r) := evr17 (ok17 _ _ _ h)
inductive S25 where
 | e (op0 : Int)
 | h0 (op0 : Int) (t14 : Bool)
 | h1 (op0 : Int) (t21 : Bool)
 | h2 (op0 : Int) (t28 : Bool)
abbrev R25 := Int × Int × Int
def res25 : R25 → ARes
 | (r_00, r_10, r_20) => .ret ⟨.tup [false, false, false], [[ic r_00], [ic r_10], [ic r_20]]⟩
def bx25 : R25 → List (List Cell)
 | (r_00, r_10, r_20) => []
noncomputable def t25_e (k : Nat) (rec : S25 → Option R25) (op0 : Int) : Option R25 :=
 bif op0 == 14 then
  some (1, 1, 2)
 else
  bif op0 == 13 then
   some (2, 2, 3)
  else
   bif op0 == 15 then
    some (3, 3, 3)
   else
    bif decide (op0 ≥ 7) then
     rec (.h0 op0 (decide (op0 ≤ 12)))
    else
     rec (.h0 op0 false)
noncomputable def t25_h0 (k : Nat) (rec : S25 → Option R25) (op0 : Int) (t14 : Bool) : Option R25 :=
 bif t14 then
  some (4, 5, 5)
 else
  bif op0 == 1 then
   rec (.h1 op0 true)
  else
   rec (.h1 op0 (op0 == 2))
noncomputable def t25_h1 (k : Nat) (rec : S25 → Option R25) (op0 : Int) (t21 : Bool) : Option R25 :=
 bif t21 then
  some (5, 5, 6)
 else
  bif decide (op0 ≥ 3) then
   rec (.h2 op0 (decide (op0 ≤ 5)))
  else
   rec (.h2 op0 false)
noncomputable def t25_h2 (k : Nat) (rec : S25 → Option R25) (op0 : Int) (t28 : Bool) : Option R25 :=
 bif t28 then
  some (6, 6, 7)
 else
  bif op0 == 6 then
   some (7, 7, 7)
  else
   some (8, 1, 1)
noncomputable def step25 (k : Nat) (rec : S25 → Option R25) : S25 → Option R25
 | .e op0 => t25_e k rec op0
 | .h0 op0 t14 => t25_h0 k rec op0 t14
 | .h1 op0 t21 => t25_h1 k rec op0 t21
 | .h2 op0 t28 => t25_h2 k rec op0 t28
noncomputable def g25 (k : Nat) (op0 : Int) : Option R25 := itS step25 k (.e op0)
noncomputable def P25 : S25 → R25 → Prop
 | .e op0, r => Fin cx25 Tryd.f25 [.code body25] (fr0 Tryd.f25 [.c (ic op0)] []) (res25 r) (bx25 r)
 | .h0 op0 t14, r => Fin cx25 Tryd.f25 (kAt body25 [1, 0, 0, 1, 1, 1, 1, 1, 1, 1, 2] []) ⟨[.c (ic op0)] ++ rep 13 .deadv ++ [.c (bc t14)] ++ rep 23 .deadv, []⟩ (res25 r) (bx25 r)
 | .h1 op0 t21, r => Fin cx25 Tryd.f25 (kAt body25 [1, 0, 0, 1, 1, 1, 1, 1, 1, 1, 1, 1, 2] []) ⟨[.c (ic op0)] ++ rep 20 .deadv ++ [.c (bc t21)] ++ rep 16 .deadv, []⟩ (res25 r) (bx25 r)
 | .h2 op0 t28, r => Fin cx25 Tryd.f25 (kAt body25 [1, 0, 0, 1, 1, 1, 1, 1, 1, 1, 1, 1, 1, 1, 2] []) ⟨[.c (ic op0)] ++ rep 27 .deadv ++ [.c (bc t28)] ++ rep 9 .deadv, []⟩ (res25 r) (bx25 r)
theorem evr25 {op0 : Int} {r : R25} (h : P25 (.e op0) r) : Ev Tryd.prog noHand 25 [.c (ic op0)] [] (res25 r) (bx25 r) := ev_of_fin (fn := Tryd.f25) (body := body25) (by kernel_rfl) (by kernel_rfl) (by kernel_rfl) rfl h
theorem t25_e_ok (k) {rec} (ih : ∀ s r, rec s = some r → P25 s r) {op0 r} (h : t25_e k rec op0 = some r) : P25 (.e op0) r := by
 unfold t25_e at h
 rcases bif_or h with ⟨h_x1, h⟩ | ⟨h_x1, h⟩
 ·
  rw [← Option.some.inj h]
  exact mF 0 hmix [aT 7] [_] (by kernel_rfl) ⟨h_x1, trivial⟩
 ·
  rcases bif_or h with ⟨h_x2, h⟩ | ⟨h_x2, h⟩
  ·
   rw [← Option.some.inj h]
   exact mF 0 hmix [aF 7, aT 10] [_, _] (by kernel_rfl) ⟨h_x1, h_x2, trivial⟩
  ·
   rcases bif_or h with ⟨h_x3, h⟩ | ⟨h_x3, h⟩
   ·
    rw [← Option.some.inj h]
    exact mF 0 hmix [aF 7, aF 10, aT 13] [_, _, _] (by kernel_rfl) ⟨h_x1, h_x2, h_x3, trivial⟩
   ·
    rcases bif_or h with ⟨h_x4, h⟩ | ⟨h_x4, h⟩
    ·
     exact mA 0 hmix (ih _ _ h) 15 [aF 7, aF 10, aF 13, aT 16] [_, _, _, _] (bm 38 274877890558) (by kernel_rfl) ⟨h_x1, h_x2, h_x3, h_x4, trivial⟩
    ·
     exact mA 0 hmix (ih _ _ h) 15 [aF 7, aF 10, aF 13, aF 16] [_, _, _, _] (bm 38 274877890558) (by kernel_rfl) ⟨h_x1, h_x2, h_x3, h_x4, trivial⟩
theorem t25_h0_ok (k) {rec} (ih : ∀ s r, rec s = some r → P25 s r) {op0 t14 r} (h : t25_h0 k rec op0 t14 = some r) : P25 (.h0 op0 t14) r := by
 unfold t25_h0 at h
 replace h := bif_or h; rcases h with ⟨rfl, h⟩ | ⟨rfl, h⟩
 ·
  rw [← Option.some.inj h]
  exact mF 0 hmix [] [] (by kernel_rfl) trivial
 ·
  rcases bif_or h with ⟨h_x1, h⟩ | ⟨h_x1, h⟩
  ·
   exact mA 0 hmix (ih _ _ h) 3 [aT 23] [_] (bm 38 274875809790) (by kernel_rfl) ⟨h_x1, trivial⟩
  ·
   exact mA 0 hmix (ih _ _ h) 3 [aF 23] [_] (bm 38 274875809790) (by kernel_rfl) ⟨h_x1, trivial⟩
theorem t25_h1_ok (k) {rec} (ih : ∀ s r, rec s = some r → P25 s r) {op0 t21 r} (h : t25_h1 k rec op0 t21 = some r) : P25 (.h1 op0 t21) r := by
 unfold t25_h1 at h
 replace h := bif_or h; rcases h with ⟨rfl, h⟩ | ⟨rfl, h⟩
 ·
  rw [← Option.some.inj h]
  exact mF 0 hmix [] [] (by kernel_rfl) trivial
 ·
  rcases bif_or h with ⟨h_x1, h⟩ | ⟨h_x1, h⟩
  ·
   exact mA 0 hmix (ih _ _ h) 3 [aT 30] [_] (bm 38 274609471486) (by kernel_rfl) ⟨h_x1, trivial⟩
  ·
   exact mA 0 hmix (ih _ _ h) 3 [aF 30] [_] (bm 38 274609471486) (by kernel_rfl) ⟨h_x1, trivial⟩
theorem t25_h2_ok (k) {rec} (ih : ∀ s r, rec s = some r → P25 s r) {op0 t28 r} (h : t25_h2 k rec op0 t28 = some r) : P25 (.h2 op0 t28) r := by
 unfold t25_h2 at h
 replace h := bif_or h; rcases h with ⟨rfl, h⟩ | ⟨rfl, h⟩
 ·
  rw [← Option.some.inj h]
  exact mF 0 hmix [] [] (by kernel_rfl) trivial
 ·
  rcases bif_or h with ⟨h_x1, h⟩ | ⟨h_x1, h⟩
  ·
   rw [← Option.some.inj h]
   exact mF 0 hmix [aT 37] [_] (by kernel_rfl) ⟨h_x1, trivial⟩
  ·
   rw [← Option.some.inj h]
   exact mF 0 hmix [aF 37] [_] (by kernel_rfl) ⟨h_x1, trivial⟩
theorem ok25 : ∀ k s r, itS step25 k s = some r → P25 s r := itS_ok fun k rec ih s r h => match s, h with
 | .e op0, h => t25_e_ok k ih h
 | .h0 op0 t14, h => t25_h0_ok k ih h
 | .h1 op0 t21, h => t25_h1_ok k ih h
 | .h2 op0 t28, h => t25_h2_ok k ih h
theorem ev25 {k : Nat} {op0 : Int} {r : R25} (h : g25 k op0 = some r) : Ev Tryd.prog noHand 25 [.c (ic op0)] [] (res25 r) (bx25 r) := evr25 (ok25 _ _ _ h)
inductive S28 where
 | e (e0_0 : Int) (e0_1 : Rs) (e0_2 e0_3 : Int) (e0_4 e0_5 : ByteArray) (e0_6 : Int)
abbrev R28 := ByteArray
def res28 : R28 → ARes
 | r => .ret (.c (sc r))
def bx28 : R28 → List (List Cell)
 | r => []
noncomputable def t28_e (k : Nat) (rec : S28 → Option R28) (e0_0 : Int) (e0_1 : Rs) (e0_2 e0_3 : Int) (e0_4 e0_5 : ByteArray) (e0_6 : Int) : Option R28 :=
 bif e0_0 == 20 then
  (g40 k 3 (strB []) e0_2 0 0).bind fun v_x2 =>
  some v_x2
 else
  bif e0_0 == 21 then
   (g40 k 4 (strB []) e0_2 e0_3 0).bind fun v_x3 =>
   some v_x3
  else
   bif e0_0 == 22 then
    aixS [strB [70, 65, 76, 83, 69], strB [84, 82, 85, 69]] e0_2 fun c_x4 =>
    some c_x4
   else
    bif e0_0 == 23 then
     gd (decide ((strB [39]).size + e0_4.size ≤ 1000000000)) <|
     gd (decide (((strB [39]) ++ e0_4).size + (strB [39]).size ≤ 1000000000)) <|
     some (((strB [39]) ++ e0_4) ++ (strB [39]))
    else
     bif e0_0 == 24 then
      gd (decide (e0_4.size + (strB [46]).size ≤ 1000000000)) <|
      gd (decide ((e0_4 ++ (strB [46])).size + e0_5.size ≤ 1000000000)) <|
      some ((e0_4 ++ (strB [46])) ++ e0_5)
     else
      bif e0_0 == 25 then
       gd (decide ((strB [67, 79, 85, 78, 84, 40]).size + e0_4.size ≤ 1000000000)) <|
       gd (decide (((strB [67, 79, 85, 78, 84, 40]) ++ e0_4).size + (strB [41]).size ≤ 1000000000)) <|
       some (((strB [67, 79, 85, 78, 84, 40]) ++ e0_4) ++ (strB [41]))
      else
       aixS [strB [70, 73, 82, 83, 84], strB [76, 65, 83, 84], strB [83, 85, 77], strB [77, 73, 78], strB [77, 65, 88], strB [77, 69, 65, 78]] (IntKind.i64.wrap (e0_0 - 26)) fun c_x7 =>
       gd (decide (c_x7.size + (strB [40]).size ≤ 1000000000)) <|
       gd (decide ((c_x7 ++ (strB [40])).size + e0_4.size ≤ 1000000000)) <|
       gd (decide (((c_x7 ++ (strB [40])) ++ e0_4).size + (strB [46]).size ≤ 1000000000)) <|
       gd (decide ((((c_x7 ++ (strB [40])) ++ e0_4) ++ (strB [46])).size + e0_5.size ≤ 1000000000)) <|
       gd (decide (((((c_x7 ++ (strB [40])) ++ e0_4) ++ (strB [46])) ++ e0_5).size + (strB [41]).size ≤ 1000000000)) <|
       some (((((c_x7 ++ (strB [40])) ++ e0_4) ++ (strB [46])) ++ e0_5) ++ (strB [41]))
noncomputable def step28 (k : Nat) (rec : S28 → Option R28) : S28 → Option R28
 | .e e0_0 e0_1 e0_2 e0_3 e0_4 e0_5 e0_6 => t28_e k rec e0_0 e0_1 e0_2 e0_3 e0_4 e0_5 e0_6
noncomputable def g28 (k : Nat) (e0_0 : Int) (e0_1 : Rs) (e0_2 e0_3 : Int) (e0_4 e0_5 : ByteArray) (e0_6 : Int) : Option R28 := itS step28 k (.e e0_0 e0_1 e0_2 e0_3 e0_4 e0_5 e0_6)
noncomputable def P28 : S28 → R28 → Prop
 | .e e0_0 e0_1 e0_2 e0_3 e0_4 e0_5 e0_6, r => Fin cx28 Tryd.f28 [.code body28] (fr0 Tryd.f28 [.ag [ic e0_0, .imm e0_1, ic e0_2, ic e0_3, sc e0_4, sc e0_5, ic e0_6]] []) (res28 r) (bx28 r)
theorem evr28 {e0_0 : Int} {e0_1 : Rs} {e0_2 e0_3 : Int} {e0_4 e0_5 : ByteArray} {e0_6 : Int} {r : R28} (h : P28 (.e e0_0 e0_1 e0_2 e0_3 e0_4 e0_5 e0_6) r) : Ev Tryd.prog noHand 28 [.ag [ic e0_0, .imm e0_1, ic e0_2, ic e0_3, sc e0_4, sc e0_5, ic e0_6]] [] (res28 r) (bx28 r) := ev_of_fin (fn := Tryd.f28) (body := body28) (by kernel_rfl) (by kernel_rfl) (by kernel_rfl) rfl h
theorem t28_e_ok (k) {rec} (ih : ∀ s r, rec s = some r → P28 s r) {e0_0 e0_1 e0_2 e0_3 e0_4 e0_5 e0_6 r} (h : t28_e k rec e0_0 e0_1 e0_2 e0_3 e0_4 e0_5 e0_6 = some r) : P28 (.e e0_0 e0_1 e0_2 e0_3 e0_4 e0_5 e0_6) r := by
 unfold t28_e at h
 rcases bif_or h with ⟨h_x1, h⟩ | ⟨h_x1, h⟩
 ·
  obtain ⟨v_x2, h_x3, h⟩ := bd_or h
  rw [← Option.some.inj h]
  exact mF 0 hmix [aT 6, aC 10 (.c (sc v_x2))] [_, _] (by kernel_rfl) ⟨h_x1, (ev40 h_x3), trivial⟩
 ·
  rcases bif_or h with ⟨h_x2, h⟩ | ⟨h_x2, h⟩
  ·
   obtain ⟨v_x3, h_x4, h⟩ := bd_or h
   rw [← Option.some.inj h]
   exact mF 0 hmix [aF 6, aT 12, aC 18 (.c (sc v_x3))] [_, _, _] (by kernel_rfl) ⟨h_x1, h_x2, (ev40 h_x4), trivial⟩
  ·
   rcases bif_or h with ⟨h_x3, h⟩ | ⟨h_x3, h⟩
   ·
    obtain ⟨c_x4, h_x5, h⟩ := aixS_or h
    rw [← Option.some.inj h]
    exact mF 0 hmix [aF 6, aF 12, aT 20, (some 24, .aix (.string c_x4))] [_, _, _, _] (by kernel_rfl) ⟨h_x1, h_x2, h_x3, h_x5, trivial⟩
   ·
    rcases bif_or h with ⟨h_x4, h⟩ | ⟨h_x4, h⟩
    ·
     obtain ⟨h_x5, h⟩ := gd_or h
     obtain ⟨h_x6, h⟩ := gd_or h
     rw [← Option.some.inj h]
     exact mF 0 hmix [aF 6, aF 12, aF 20, aT 26, (some 29, .scat), (some 30, .scat)] [_, _, _, _, _, _] (by kernel_rfl) ⟨h_x1, h_x2, h_x3, h_x4, of_decide_eq_true h_x5, of_decide_eq_true h_x6, trivial⟩
    ·
     rcases bif_or h with ⟨h_x5, h⟩ | ⟨h_x5, h⟩
     ·
      obtain ⟨h_x6, h⟩ := gd_or h
      obtain ⟨h_x7, h⟩ := gd_or h
      rw [← Option.some.inj h]
      exact mF 0 hmix [aF 6, aF 12, aF 20, aF 26, aT 32, (some 35, .scat), (some 38, .scat)] [_, _, _, _, _, _, _] (by kernel_rfl) ⟨h_x1, h_x2, h_x3, h_x4, h_x5, of_decide_eq_true h_x6, of_decide_eq_true h_x7, trivial⟩
     ·
      rcases bif_or h with ⟨h_x6, h⟩ | ⟨h_x6, h⟩
      ·
       obtain ⟨h_x7, h⟩ := gd_or h
       obtain ⟨h_x8, h⟩ := gd_or h
       rw [← Option.some.inj h]
       exact mF 0 hmix [aF 6, aF 12, aF 20, aF 26, aF 32, aT 40, (some 43, .scat), (some 44, .scat)] [_, _, _, _, _, _, _, _] (by kernel_rfl) ⟨h_x1, h_x2, h_x3, h_x4, h_x5, h_x6, of_decide_eq_true h_x7, of_decide_eq_true h_x8, trivial⟩
      ·
       obtain ⟨c_x7, h_x8, h⟩ := aixS_or h
       obtain ⟨h_x9, h⟩ := gd_or h
       obtain ⟨h_x10, h⟩ := gd_or h
       obtain ⟨h_x11, h⟩ := gd_or h
       obtain ⟨h_x12, h⟩ := gd_or h
       obtain ⟨h_x13, h⟩ := gd_or h
       rw [← Option.some.inj h]
       exact mF 0 hmix [aF 6, aF 12, aF 20, aF 26, aF 32, aF 40, (some 49, .aix (.string c_x7)), (some 50, .scat), (some 53, .scat), (some 54, .scat), (some 57, .scat), (some 58, .scat)] [_, _, _, _, _, _, _, _, _, _, _, _] (by kernel_rfl) ⟨h_x1, h_x2, h_x3, h_x4, h_x5, h_x6, h_x8, of_decide_eq_true h_x9, of_decide_eq_true h_x10, of_decide_eq_true h_x11, of_decide_eq_true h_x12, of_decide_eq_true h_x13, trivial⟩
theorem ok28 : ∀ k s r, itS step28 k s = some r → P28 s r := itS_ok fun k rec ih s r h => match s, h with
 | .e e0_0 e0_1 e0_2 e0_3 e0_4 e0_5 e0_6, h => t28_e_ok k ih h
theorem ev28 {k : Nat} {e0_0 : Int} {e0_1 : Rs} {e0_2 e0_3 : Int} {e0_4 e0_5 : ByteArray} {e0_6 : Int} {r : R28} (h : g28 k e0_0 e0_1 e0_2 e0_3 e0_4 e0_5 e0_6 = some r) : Ev Tryd.prog noHand 28 [.ag [ic e0_0, .imm e0_1, ic e0_2, ic e0_3, sc e0_4, sc e0_5, ic e0_6]] [] (res28 r) (bx28 r) := evr28 (ok28 _ _ _ h)
inductive S27 where
 | e (op0 : Int)
abbrev R27 := ByteArray
def res27 : R27 → ARes
 | r => .ret (.c (sc r))
def bx27 : R27 → List (List Cell)
 | r => []
noncomputable def t27_e (k : Nat) (rec : S27 → Option R27) (op0 : Int) : Option R27 :=
 aixS [strB [], strB [43], strB [45], strB [42], strB [47], strB [37], strB [45], strB [61], strB [33, 61], strB [60], strB [60, 61], strB [62], strB [62, 61], strB [65, 78, 68], strB [79, 82], strB [78, 79, 84, 32], strB [82, 69, 65, 76], strB [73, 83, 78, 65, 78]] op0 fun c_x1 =>
 some c_x1
noncomputable def step27 (k : Nat) (rec : S27 → Option R27) : S27 → Option R27
 | .e op0 => t27_e k rec op0
noncomputable def g27 (k : Nat) (op0 : Int) : Option R27 := itS step27 k (.e op0)
noncomputable def P27 : S27 → R27 → Prop
 | .e op0, r => Fin cx27 Tryd.f27 [.code body27] (fr0 Tryd.f27 [.c (ic op0)] []) (res27 r) (bx27 r)
theorem evr27 {op0 : Int} {r : R27} (h : P27 (.e op0) r) : Ev Tryd.prog noHand 27 [.c (ic op0)] [] (res27 r) (bx27 r) := ev_of_fin (fn := Tryd.f27) (body := body27) (by kernel_rfl) (by kernel_rfl) (by kernel_rfl) rfl h
theorem t27_e_ok (k) {rec} (ih : ∀ s r, rec s = some r → P27 s r) {op0 r} (h : t27_e k rec op0 = some r) : P27 (.e op0) r := by
 unfold t27_e at h
 obtain ⟨c_x1, h_x2, h⟩ := aixS_or h
 rw [← Option.some.inj h]
 exact mF 0 hmix [(some 5, .aix (.string c_x1))] [_] (by kernel_rfl) ⟨h_x2, trivial⟩
theorem ok27 : ∀ k s r, itS step27 k s = some r → P27 s r := itS_ok fun k rec ih s r h => match s, h with
 | .e op0, h => t27_e_ok k ih h
theorem ev27 {k : Nat} {op0 : Int} {r : R27} (h : g27 k op0 = some r) : Ev Tryd.prog noHand 27 [.c (ic op0)] [] (res27 r) (bx27 r) := evr27 (ok27 _ _ _ h)
end Ab
end Go.Proofs.YtfekohpjaafnhaaDoor
