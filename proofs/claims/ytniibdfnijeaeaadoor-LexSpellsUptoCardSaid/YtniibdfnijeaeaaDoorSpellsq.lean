/-
  Whatever text is handed in (of bulk at most 1048576), LexSpells returns true, and the text reads as it did: what Spell gives of each token is what the document's gives, and it is the token's bytes.
  Conditions: the row's own alone (the bound on the arguments' bulk; the variables that the card ties to the program's text).
-/
import Derived.Test.YtniibdfnijeaeaaDoorK18q
import Derived.Test.YtniibdfnijeaeaaDoorCdq
import Derived.SevenTiedAt
set_option linter.unusedSectionVars false
namespace Go.Proofs.YtniibdfnijeaeaaDoor
namespace Ab
open Go.ChangeShapes Go.WideShapes Go.ChangeAt Go.RowKit
section
variable [Laid2]
theorem ut9 : Tryd.prog.underlying 9 = some .string := by kernel_rfl
theorem ut3 : Tryd.prog.underlying 3 = some (.int .i64) := by kernel_rfl
theorem ut4 : Tryd.prog.underlying 4 = some .bool := by kernel_rfl
theorem law_ev {B : Nat} (ls : List (List Cell)) (h : ShAll Tryd.prog B Tryd.f6.params.toList ls) : Ev Tryd.prog noHand 6 (argAVs Tryd.prog Tryd.f6.params.toList ls) [] (.ret (.c (bc true))) [] := by
  have hp : Tryd.f6.params.toList = [9] := by kernel_rfl
  rw [hp] at h ⊢
  match ls, h with
  | [l], ⟨⟨n, hl⟩, _⟩ =>
    obtain ⟨s, rfl, _⟩ := hl.string ut9
    obtain ⟨N, hN⟩ := spells_true s
    have := ev6 (hN N (Nat.le_refl _))
    have e : argAVs Tryd.prog [9] [[.val (.string s)]] = [.c (.val (.string s))] := by kernel_rfl
    rw [e]
    exact this
end
set_option maxRecDepth 100000 in
theorem law_lifted (os : Os) (started : os.Started) (H : Type) (enc : TypeId × Value → H) (F : Stop.Interp) :
    ReturnsInHanded {} Tryd.checked os 6 .any (Rows.lexSpellsUptoRow.pre enc Tryd.prog Tryd.f6 (Rows.OpenSpec.upto Rows.lexSpellsSpec)) (((Rows.OpenSpec.upto Rows.lexSpellsSpec).at F).post enc Tryd.prog Tryd.f6 false true false false) := by
  refine returns_cond_laid (C := Tryd.checked) (s := Rows.OpenSpec.upto Rows.lexSpellsSpec) (k := Rows.uptoSmall) (laid := laidL) rfl own started (by kernel_rfl) Tryd.func6
    (witness_cond_laid (enc := enc) (C := Tryd.checked) (s := Rows.OpenSpec.upto Rows.lexSpellsSpec) (k := Rows.uptoSmall) rfl (World.doorLaid Tryd.prog 400 os) #[.string ⟨#[]⟩] 8 rfl (World.shaped_of_RefB (by kernel_rfl) (by kernel_rfl)) (by kernel_rfl)
      (x := ([.lit (.string [])], [], [])) (by kernel_rfl) rfl (by kernel_rfl) (by kernel_rfl) (door_met os _)) ?_
  intro W base args ds gs before hval hW hk hl
  have hb : Rows.uptoBulkAll (ds ++ gs) ≤ 1048576 := of_decide_eq_true hk
  letI := laidOf (laid_plain hl)
  exact law_post (hand := noHand) (T := [9, 4]) (B := 1048576) (s := Rows.lexSpellsSpec) (by kernel_rfl) (by kernel_rfl) (by kernel_rfl) (by kernel_rfl) (by kernel_rfl) rfl
    (fun ds hd => by
      match ds, hd with
      | [d], _ => rfl
      | [], hd => cases hd
      | _ :: _ :: _, hd => simp at hd)
    ⟨4, by kernel_rfl, ut4⟩ hval hW hb (laidOf_glob _) (fun ls h _ => law_ev ls h)
theorem law_row : Rows.LexSpellsUptoSaid :=
  OpenClaim.holds_of_cond 6 Tryd.f6 rfl rfl rfl rfl rfl rfl rfl ⟨rfl, rfl, rfl, rfl, rfl⟩ rfl rfl rfl rfl rfl (by kernel_rfl) Tryd.func6 (by kernel_rfl)
    (of_decide_eq_true (by kernel_rfl)) (by unfold Func.isWrapper; first | (rw [if_pos (by decide +kernel)]; kernel_rfl) | (rw [if_neg (by decide +kernel)]; exact ⟨rfl, rfl⟩))
    (fun os started H enc _ F => law_lifted os started H enc F)
end Ab
theorem lexSpells_holds : Rows.LexSpellsUptoCardSaid :=
  Claim7.holds_tied_plain_at .later [] [.data, .data, .data, .sentinel, .sentinel] true (true, "4100ed0d3afc9f40601647e42659338bffb56437ef0e626f9dd8f404e0ef32fe") true
    Ab.law_row (fun _ h => by cases h) (by kernel_rfl) (fun _ h => by cases h) lexSpellsUpto_row_tie rfl ⟨rfl, rfl⟩ (by kernel_rfl) rfl
    (fun f fn hf hfn => by
      obtain rfl : f = 6 := Option.some.inj ((show Tryd.prog.funcNamed "auspice/auspicelaw05.LexSpells" = some 6 by kernel_rfl).symm.trans hf) |>.symm
      obtain rfl : fn = Tryd.f6 := (Option.some.inj (Tryd.func6.symm.trans hfn)).symm
      exact ⟨by kernel_rfl, fun j t ht => by
        rw [Tryd.params6] at ht
        have hm : t ∈ [9] := by simpa using Array.mem_of_getElem? ht
        have hall : ([9].all fun u => !Tryd.prog.wantsStandIn u) = true := by kernel_rfl
        exact (show Tryd.prog.wantsStandIn t = false by simpa using List.all_eq_true.1 hall t hm)⟩)
    (by kernel_rfl)
end Go.Proofs.YtniibdfnijeaeaaDoor
