/-
  LexSpells' law.
-/
import Derived.Test.YtniibdfnijeaeaaDoorK17q
import Derived.Test.YtniibdfnijeaeaaDoorK13q
set_option linter.unusedVariables false
set_option linter.unusedSimpArgs false
set_option linter.unusedSectionVars false
namespace Go.Proofs.YtniibdfnijeaeaaDoor
namespace Ab
section
variable [Laid2]
/-- a token, its place, and its word. -/
structure TW where
  t : Tk
  a : Nat
  w : ByteArray
def TW.row (x : TW) : List Cell := tkRow x.t x.a
def endT : Tk := ⟨0, strB [], 0, 0⟩
/-- both Spells give the word. -/
def WOk (x : TW) : Prop := (∀ y, Tot (fun k => g14 k x.t.kind x.t.text x.t.n x.t.scale y) x.w) ∧ (∀ y, Tot (fun k => g15 k x.t.kind x.t.text x.t.n x.t.scale y) x.w) ∧ x.w.size ≤ 4000
theorem wok_end (a : Nat) : WOk ⟨endT, a, strB []⟩ :=
  ⟨fun y => Goes.fin0 (step := step14) (s := .e 0 (strB []) 0 0 y) fun k rec => rfl, fun y => Goes.fin0 (step := step15) (s := .e 0 (strB []) 0 0 y) fun k rec => rfl, by show 0 ≤ 4000; omega⟩
theorem wok_tok {s : ByteArray} (hs : s.size ≤ 4000) {p : Nat} (hp : p < s.size) {t : Tk} {e : Nat} (h : tok s p = some (t, e)) : WOk ⟨t, p, s.extract p e⟩ := by
  have hend := tok_end hp h
  have hw : (s.extract p e).size ≤ 4000 := by rw [size_ext _ _ _ hend.2]; omega
  exact ⟨fun y => g14_is (tok_spelt hs hp h) hw y, fun y => g15_is (tok_spelt hs hp h) hw y, hw⟩
theorem un_row {α : Type} (x : TW) (k : Int → ByteArray → Int → Int → Int → Option α) : un_isi3 x.row k = k x.t.kind x.t.text x.t.n x.t.scale (x.a : Int) := rfl
theorem row_at {PL : List TW} {i : Nat} (h : i < PL.length) : (PL.map TW.row)[i]? = some (PL[i].row) := by rw [List.getElem?_map, List.getElem?_eq_getElem h]; rfl
theorem awake6 : Tot (fun k => g10 k) true := tot_deep 60 fun j => by kernel_rfl
end
end Ab
end Go.Proofs.YtniibdfnijeaeaaDoor
