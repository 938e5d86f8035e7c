/-
  Whatever text and blank are handed in (of bulk at most 1048576), LexBack returns true, and the text reads as it did: tokens that are spelt with blanks between are read as they were, their places aside.
  Conditions: the row's own alone (the bound on the arguments' bulk; the variables that the card ties to the program's text).
-/
import Derived.Test.YtniibdfnijeaeaaDoorK19q
import Derived.Test.YtniibdfnijeaeaaDoorCdq
import Derived.SevenTiedAt
set_option linter.unusedSectionVars false
namespace Go.Proofs.YtniibdfnijeaeaaDoor
namespace Ab
open Go.ChangeShapes Go.WideShapes Go.ChangeAt Go.RowKit
section
variable [Laid2]
theorem ut9 : Tryd.prog.underlying 9 = some .string := by kernel_rfl
theorem ut3 : Tryd.prog.underlying 3 = some (.int .i64) := by kernel_rfl
theorem ut4 : Tryd.prog.underlying 4 = some .bool := by kernel_rfl
theorem law_ev {B : Nat} (ls : List (List Cell)) (h : ShAll Tryd.prog B Tryd.f7.params.toList ls) : Ev Tryd.prog noHand 7 (argAVs Tryd.prog Tryd.f7.params.toList ls) [] (.ret (.c (bc true))) [] := by
  have hp : Tryd.f7.params.toList = [9, 3] := by kernel_rfl
  rw [hp] at h ⊢
  match ls, h with
  | [l, l2], ⟨⟨n, hl⟩, ⟨n2, hl2⟩, _⟩ =>
    obtain ⟨s, rfl, _⟩ := hl.string ut9
    obtain ⟨b, rfl, hb1, hb2⟩ := hl2.int ut3
    obtain ⟨N, hN⟩ := back_true s b
    have := ev7 (hN N (Nat.le_refl _))
    have e : argAVs Tryd.prog [9, 3] [[.val (.string s)], [.val (.int .i64 b)]] = [.c (.val (.string s)), .c (.val (.int .i64 b))] := by kernel_rfl
    rw [e]
    exact this
end
set_option maxRecDepth 100000 in
theorem law_lifted (os : Os) (started : os.Started) (H : Type) (enc : TypeId × Value → H) (F : Stop.Interp) :
    ReturnsInHanded {} Tryd.checked os 7 .any (Rows.lexBackUptoRow.pre enc Tryd.prog Tryd.f7 (Rows.OpenSpec.upto Rows.lexBackSpec)) (((Rows.OpenSpec.upto Rows.lexBackSpec).at F).post enc Tryd.prog Tryd.f7 false true false false) := by
  refine returns_cond_laid (C := Tryd.checked) (s := Rows.OpenSpec.upto Rows.lexBackSpec) (k := Rows.uptoSmall) (laid := laidL) rfl own started (by kernel_rfl) Tryd.func7
    (witness_cond_laid (enc := enc) (C := Tryd.checked) (s := Rows.OpenSpec.upto Rows.lexBackSpec) (k := Rows.uptoSmall) rfl (World.doorLaid Tryd.prog 400 os) #[.string ⟨#[]⟩, .int .i64 0] 8 rfl (World.shaped_of_RefB (by kernel_rfl) (by kernel_rfl)) (by kernel_rfl)
      (x := ([.lit (.string []), .lit (.int .i64 0)], [], [])) (by kernel_rfl) rfl (by kernel_rfl) (by kernel_rfl) (door_met os _)) ?_
  intro W base args ds gs before hval hW hk hl
  have hb : Rows.uptoBulkAll (ds ++ gs) ≤ 1048576 := of_decide_eq_true hk
  letI := laidOf (laid_plain hl)
  exact law_post (hand := noHand) (T := [9, 3, 4]) (B := 1048576) (s := Rows.lexBackSpec) (by kernel_rfl) (by kernel_rfl) (by kernel_rfl) (by kernel_rfl) (by kernel_rfl) rfl
    (fun ds hd => by
      match ds, hd with
      | [d1, d2], _ => rfl
      | [], hd => cases hd
      | [_], hd => cases hd
      | _ :: _ :: _ :: _, hd => simp at hd)
    ⟨4, by kernel_rfl, ut4⟩ hval hW hb (laidOf_glob _) (fun ls h _ => law_ev ls h)
theorem law_row : Rows.LexBackUptoSaid :=
  OpenClaim.holds_of_cond 7 Tryd.f7 rfl rfl rfl rfl rfl rfl rfl ⟨rfl, rfl, rfl, rfl, rfl⟩ rfl rfl rfl rfl rfl (by kernel_rfl) Tryd.func7 (by kernel_rfl)
    (of_decide_eq_true (by kernel_rfl)) (by unfold Func.isWrapper; first | (rw [if_pos (by decide +kernel)]; kernel_rfl) | (rw [if_neg (by decide +kernel)]; exact ⟨rfl, rfl⟩))
    (fun os started H enc _ F => law_lifted os started H enc F)
end Ab
theorem lexBack_holds : Rows.LexBackUptoCardSaid :=
  Claim7.holds_tied_plain_at .later [] [.data, .data, .data, .sentinel, .sentinel] true (true, "4100ed0d3afc9f40601647e42659338bffb56437ef0e626f9dd8f404e0ef32fe") true
    Ab.law_row (fun _ h => by cases h) (by kernel_rfl) (fun _ h => by cases h) lexBackUpto_row_tie rfl ⟨rfl, rfl⟩ (by kernel_rfl) rfl
    (fun f fn hf hfn => by
      obtain rfl : f = 7 := Option.some.inj ((show Tryd.prog.funcNamed "auspice/auspicelaw05.LexBack" = some 7 by kernel_rfl).symm.trans hf) |>.symm
      obtain rfl : fn = Tryd.f7 := (Option.some.inj (Tryd.func7.symm.trans hfn)).symm
      exact ⟨by kernel_rfl, fun j t ht => by
        rw [Tryd.params7] at ht
        have hm : t ∈ [9, 3] := by simpa using Array.mem_of_getElem? ht
        have hall : ([9, 3].all fun u => !Tryd.prog.wantsStandIn u) = true := by kernel_rfl
        exact (show Tryd.prog.wantsStandIn t = false by simpa using List.all_eq_true.1 hall t hm)⟩)
    (by kernel_rfl)
end Go.Proofs.YtniibdfnijeaeaaDoor
