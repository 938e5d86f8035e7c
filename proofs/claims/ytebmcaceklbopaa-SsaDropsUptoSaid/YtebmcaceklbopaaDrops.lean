/-
  Whatever code is handed in (of bulk at most 1048576), SsaDrops returns true, and the code reads as it did: plain code without what is not needed is the document's, and what was handed in stays.
  Conditions: the row's own alone (the bound on the arguments' bulk).
-/
import Derived.Test.YtebmcaceklbopaaD6
set_option linter.unusedVariables false
set_option linter.unusedSimpArgs false
namespace Go.Proofs.Ytebmcaceklbopaa
namespace Ab
open Go.ChangeShapes Go.WideShapes Go.ChangeAt Go.RowKit

theorem ap_all {α : Type} {f : α → List Cell} {by_ sz : Nat} (hf : ∀ x, (f x).length = sz) (hb : by_ ≤ 1024) (hs : 0 < sz) (l : List α) (h : l.length < 1073741824) : apOk by_ sz [] (l.map f) = true := by
  have h1 : l.length * by_ ≤ 1073741824 * 1024 := Nat.mul_le_mul (by omega) hb
  cases l with
  | nil => simp [apOk, lim, hs]
  | cons x l =>
    simp only [List.length_cons] at h h1
    simp [apOk, hf, lim, hs]
    omega

theorem len_in (x : In4) : (inR x).length = 4 := rfl
theorem len_vl (x : Vl) : (vlR x).length = 2 := rfl
theorem len_ins (x : Ins4) : (insR x).length = 4 := rfl
theorem cond_same {α : Type} {c : Bool} {x y z : α} (h1 : c = true → x = z) (h2 : c = false → y = z) : cond c x y = z := by
  cases c
  · exact h2 rfl
  · exact h1 rfl
theorem gd_true {α : Type} (x : Option α) : gd true x = x := rfl
theorem g19_twin {a b : Int} (I : List In4) (C : List Vl) (L : List Ins4) (hi : I.length < 1073741824) (hc : C.length < 1073741824) (hl : L.length < 1073741824) :
    Tot (fun k => g19 k a b (I.map inR) (C.map vlR) (L.map insR)) (a, b, I.map inR, C.map vlR, L.map insR) := by
  have fin : Goes step19 (.h0 a b (I.map inR) (C.map vlR) (L.map insR)) (a, b, I.map inR, C.map vlR, L.map insR) := Goes.fin0 fun k rec => rfl
  refine Tot.of_goes (s := S19.e _ _ _ _ _) (fin.rec0 fun k rec => ?_)
  show t19_e k rec _ _ _ _ _ = _
  unfold t19_e
  have h1 : apOk 32 4 [] (I.map inR) = true := ap_all len_in (by omega) (by omega) I hi
  have h2 : apOk 16 2 [] (C.map vlR) = true := ap_all len_vl (by omega) (by omega) C hc
  have h3 : apOk 32 4 [] (L.map insR) = true := ap_all len_ins (by omega) (by omega) L hl
  rw [h1, h2, h3, List.nil_append, List.nil_append, List.nil_append, imm_inR, imm_vlR, imm_insR]
  simp only [gd_true]
  refine cond_same (fun e1 => ?_) (fun _ => ?_)
  · rw [List.isEmpty_iff.1 e1]
    refine cond_same (fun e2 => ?_) (fun _ => ?_)
    · rw [List.isEmpty_iff.1 e2]
      exact cond_same (fun e3 => by rw [List.isEmpty_iff.1 e3]) (fun _ => rfl)
    · exact cond_same (fun e3 => by rw [List.isEmpty_iff.1 e3]) (fun _ => rfl)
  · refine cond_same (fun e2 => ?_) (fun _ => ?_)
    · rw [List.isEmpty_iff.1 e2]
      exact cond_same (fun e3 => by rw [List.isEmpty_iff.1 e3]) (fun _ => rfl)
    · exact cond_same (fun e3 => by rw [List.isEmpty_iff.1 e3]) (fun _ => rfl)

theorem g6_true {regs slots : Int} {ins : List In4} {cs : List Vl} {L : List Ins4} (hr : -9223372036854775808 ≤ regs ∧ regs ≤ 9223372036854775807) (hi : ins.length < 1073741823) (hc : cs.length < 1073741823) (hl : L.length < 1073741823) :
    Tot (fun k => g6 k regs slots (ins.map inR) (cs.map vlR) (L.map insR)) true := by
  open Classical in
  by_cases hp : PlainP regs slots ins.length cs.length L
  · obtain ⟨N1, hN1⟩ := g16_plain (regs := regs) (slots := slots) (ins := ins.map inR) (cs := cs.map vlR) (L := L) (b := true) hr (by omega) ⟨fun _ => by simpa using hp, fun _ => rfl⟩
    have go : ∀ b : Bool, Goes step6 (.h0 b regs slots (ins.map inR) (cs.map vlR) (L.map insR)) true := by
      intro b
      cases b with
      | true => exact Goes.fin0 fun k rec => rfl
      | false =>
        obtain ⟨rk, rfl⟩ : ∃ rk : Nat, regs = (rk : Int) := ⟨regs.toNat, by have := hp.2.1; omega⟩
        have hlen := hp.2.2.1
        obtain ⟨I, C, O, n, q1, q2, q3, q4, q5⟩ := drop_both (ins := ins) (cs := cs) hp (by omega)
        obtain ⟨N2, hN2⟩ := g19_twin (a := (rk : Int)) (b := slots) ins cs L (by omega) (by omega) (by omega)
        obtain ⟨N3, hN3⟩ := q4
        obtain ⟨N4, hN4⟩ := q5
        obtain ⟨N5, hN5⟩ := g13_same (a := n) (b := 0) I C O q1 q2 q3
        obtain ⟨N6, hN6⟩ := g13_same (a := (rk : Int)) (b := slots) ins cs L (by omega) (by omega) (by omega)
        refine Goes.fin ⟨N2 + N3 + N4 + N5 + N6, fun k hk rec => ?_⟩
        show t6_h0 k rec _ _ _ _ _ _ = _
        unfold t6_h0
        have h2 : g19 k _ _ _ _ _ = _ := hN2 k (by omega)
        have h3 : g20 k _ _ _ _ _ = _ := hN3 k (by omega)
        have h4 : g21 k _ _ _ _ _ = _ := hN4 k (by omega)
        have h5 : g13 k _ _ _ _ _ _ _ _ _ _ = _ := hN5 k (by omega)
        have h6 : g13 k _ _ _ _ _ _ _ _ _ _ = _ := hN6 k (by omega)
        rw [cond_false, h2]
        simp only [Option.bind_some, tup5]
        rw [h3]
        simp only [Option.bind_some, tup5]
        rw [h4]
        simp only [Option.bind_some, tup5]
        rw [h5]
        simp only [Option.bind_some, cond_true]
        rw [h6]; rfl
    refine Tot.of_goes (s := S6.e _ _ _ _ _) ((go (decide (((L.map insR).length : Int) > 1024))).rec ⟨N1, fun k hk rec => ?_⟩)
    show t6_e k rec _ _ _ _ _ = _
    unfold t6_e
    rw [show g16 k regs slots (ins.map inR) (cs.map vlR) (L.map insR) = _ from hN1 k hk]
    rfl
  · obtain ⟨N1, hN1⟩ := g16_plain (regs := regs) (slots := slots) (ins := ins.map inR) (cs := cs.map vlR) (L := L) (b := false) hr (by omega) ⟨fun h => (by cases h), fun h => absurd (by simpa using h) hp⟩
    have fin : Goes step6 (.h0 true regs slots (ins.map inR) (cs.map vlR) (L.map insR)) true := Goes.fin0 fun k rec => rfl
    refine Tot.of_goes (s := S6.e _ _ _ _ _) (fin.rec ⟨N1, fun k hk rec => ?_⟩)
    show t6_e k rec _ _ _ _ _ = _
    unfold t6_e
    rw [show g16 k regs slots (ins.map inR) (cs.map vlR) (L.map insR) = _ from hN1 k hk]
    rfl

theorem own : ownKnob Try.prog.godebug = none := by kernel_rfl
def plainTypes : List TypeId := [35, 3, 31, 32, 33, 63, 26, 48, 24, 4]

theorem st35 : structTs Try.prog 35 = some [3, 3, 31, 32, 33] := by kernel_rfl
theorem st48 : structTs Try.prog 48 = some [3, 3, 3, 3] := by kernel_rfl
theorem st63 : structTs Try.prog 63 = some [3, 3, 3, 3] := by kernel_rfl
theorem st26 : structTs Try.prog 26 = some [3, 24] := by kernel_rfl
theorem ut3 : Try.prog.underlying 3 = some (.int .i64) := by kernel_rfl
theorem ut24 : Try.prog.underlying 24 = some (.int .u64) := by kernel_rfl
theorem ut31 : Try.prog.underlying 31 = some (.slice 63) := by kernel_rfl
theorem ut32 : Try.prog.underlying 32 = some (.slice 26) := by kernel_rfl
theorem ut33 : Try.prog.underlying 33 = some (.slice 48) := by kernel_rfl
theorem ut4 : Try.prog.underlying 4 = some .bool := by kernel_rfl

theorem ins_row {B n : Nat} {row : List Cell} (h : ShT Try.prog B n 48 row) : ∃ x, row = insR x := by
  obtain ⟨m, x0, r0, e0, h0, x1, r1, e1, h1, x2, r2, e2, h2, x3, r3, e3, h3, hz⟩ := h.fields st48
  obtain ⟨a, rfl, _⟩ := h0.int ut3
  obtain ⟨b, rfl, _⟩ := h1.int ut3
  obtain ⟨c, rfl, _⟩ := h2.int ut3
  obtain ⟨d, rfl, _⟩ := h3.int ut3
  subst hz
  exact ⟨⟨a, b, c, d⟩, by rw [e0, e1, e2, e3]; rfl⟩
theorem in_row {B n : Nat} {row : List Cell} (h : ShT Try.prog B n 63 row) : ∃ x, row = inR x := by
  obtain ⟨m, x0, r0, e0, h0, x1, r1, e1, h1, x2, r2, e2, h2, x3, r3, e3, h3, hz⟩ := h.fields st63
  obtain ⟨a, rfl, _⟩ := h0.int ut3
  obtain ⟨b, rfl, _⟩ := h1.int ut3
  obtain ⟨c, rfl, _⟩ := h2.int ut3
  obtain ⟨d, rfl, _⟩ := h3.int ut3
  subst hz
  exact ⟨⟨a, b, c, d⟩, by rw [e0, e1, e2, e3]; rfl⟩
theorem vl_row {B n : Nat} {row : List Cell} (h : ShT Try.prog B n 26 row) : ∃ x, row = vlR x := by
  obtain ⟨m, x0, r0, e0, h0, x1, r1, e1, h1, hz⟩ := h.fields st26
  obtain ⟨a, rfl, _⟩ := h0.int ut3
  obtain ⟨b, rfl, _⟩ := h1.int ut24
  subst hz
  exact ⟨⟨a, b⟩, by rw [e0, e1]; rfl⟩

theorem code_cells {B n : Nat} {l : List Cell} (h : ShT Try.prog B n 35 l) : ∃ regs slots, ∃ I : List In4, ∃ C : List Vl, ∃ L : List Ins4, l = [ic regs, ic slots, .imm (I.map inR), .imm (C.map vlR), .imm (L.map insR)] ∧ (-9223372036854775808 ≤ regs ∧ regs ≤ 9223372036854775807) ∧ I.length ≤ B ∧ C.length ≤ B ∧ L.length ≤ B := by
  obtain ⟨m, x0, r0, e0, h0, x1, r1, e1, h1, x2, r2, e2, h2, x3, r3, e3, h3, x4, r4, e4, h4, hz⟩ := h.fields st35
  obtain ⟨regs, rfl, hr⟩ := h0.int ut3
  obtain ⟨slots, rfl, _⟩ := h1.int ut3
  obtain ⟨_, li, rfl, hbi, hri⟩ := h2.slice ut31
  obtain ⟨_, lc, rfl, hbc, hrc⟩ := h3.slice ut32
  obtain ⟨_, lr, rfl, hb, hrows⟩ := h4.slice ut33
  obtain ⟨I, rfl⟩ := rows_map fun row hrow => in_row (hri row hrow)
  obtain ⟨C, rfl⟩ := rows_map fun row hrow => vl_row (hrc row hrow)
  obtain ⟨L, rfl⟩ := rows_map fun row hrow => ins_row (hrows row hrow)
  subst hz
  rw [List.length_map] at hb hbi hbc
  exact ⟨regs, slots, I, C, L, by rw [e0, e1, e2, e3, e4]; rfl, hr, hbi, hbc, hb⟩

theorem drops_ev {B : Nat} (hB : B ≤ 1048576) (ls : List (List Cell)) (h : ShAll Try.prog B Try.f6.params.toList ls) : Ev Try.prog noHand 6 (argAVs Try.prog Try.f6.params.toList ls) [] (.ret (.c (bc true))) [] := by
  have hp : Try.f6.params.toList = [35] := by kernel_rfl
  rw [hp] at h ⊢
  match ls, h with
  | [l], ⟨⟨n, hl⟩, _⟩ =>
    obtain ⟨regs, slots, I, C, L, rfl, hr, h1, h2, h3⟩ := code_cells hl
    obtain ⟨N, hN⟩ := g6_true (slots := slots) (ins := I) (cs := C) (L := L) hr (by omega) (by omega) (by omega)
    have := ev6 (hN N (Nat.le_refl _))
    have e : argAVs Try.prog [35] [[ic regs, ic slots, .imm (I.map inR), .imm (C.map vlR), .imm (L.map insR)]] = [.ag [ic regs, ic slots, .imm (I.map inR), .imm (C.map vlR), .imm (L.map insR)]] := by kernel_rfl
    rw [e]
    exact this

set_option maxRecDepth 100000 in
theorem drops_lifted (os : Os) (started : os.Started) (H : Type) (enc : TypeId × Value → H) (F : Stop.Interp) :
    ReturnsInHanded {} Try.checked os 6 .any ((Rows.OpenSpec.upto Rows.ssaDropsSpec).pre6 enc Try.prog Try.f6 Rows.ssaDropsUptoRow.domain false) (((Rows.OpenSpec.upto Rows.ssaDropsSpec).at F).post enc Try.prog Try.f6 false true false false) := by
  refine returnsInHanded_of_cond (C := Try.checked) (s := Rows.OpenSpec.upto Rows.ssaDropsSpec) (k := Rows.uptoSmall) rfl own started (by kernel_rfl) Try.func6
    (OpenSpec.witness (enc := enc) (C := Try.checked) (s := Rows.OpenSpec.upto Rows.ssaDropsSpec) (k := Rows.uptoSmall) rfl false ⟨#[], #[.agg #[.int .i64 0, .int .i64 0, .slice none 0 0, .slice none 0 0, .slice none 0 0]], []⟩ 8 (by kernel_rfl) (by kernel_rfl) (by kernel_rfl)
      (x := ([.agg [.lit (.int .i64 0), .lit (.int .i64 0), .nil, .nil, .nil]], [], [])) (by kernel_rfl) rfl (by kernel_rfl)) ?_
  intro W base args ds gs before hval hW _ hk _
  have hb : Rows.uptoBulkAll (ds ++ gs) ≤ 1048576 := of_decide_eq_true hk
  exact law_post (hand := noHand) (T := plainTypes) (B := 1048576) (s := Rows.ssaDropsSpec) (by kernel_rfl) (by kernel_rfl) (by kernel_rfl) (by kernel_rfl) (by kernel_rfl) rfl
    (fun ds hd => by
      match ds, hd with
      | [d], _ => rfl
      | [], hd => cases hd
      | _ :: _ :: _, hd => simp at hd)
    ⟨4, by kernel_rfl, ut4⟩ hval hW hb (fun ls h1 _ => drops_ev (Nat.le_refl _) ls h1)
end Ab

theorem ssaDrops_holds : Rows.SsaDropsUptoSaid :=
  OpenClaim.holds_of_cond 6 Try.f6 rfl rfl rfl rfl rfl rfl rfl ⟨rfl, rfl, rfl, rfl, rfl⟩ rfl rfl rfl rfl rfl (by kernel_rfl) Try.func6 (by kernel_rfl)
    (of_decide_eq_true (by kernel_rfl)) (by unfold Func.isWrapper; first | (rw [if_pos (by decide +kernel)]; kernel_rfl) | (rw [if_neg (by decide +kernel)]; exact ⟨rfl, rfl⟩))
    (fun os started H enc _ F => Ab.drops_lifted os started H enc F)
end Go.Proofs.Ytebmcaceklbopaa
