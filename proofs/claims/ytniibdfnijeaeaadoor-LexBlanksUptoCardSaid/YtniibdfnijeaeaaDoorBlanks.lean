/-
  Whatever byte is handed in, LexBlanks returns true, and the byte reads as it did: which bytes are blanks; a byte alone is a token, a blank, or none.
  Conditions: the row's own alone (the bound on the arguments' bulk; the variables that the card ties to the program's text).
-/
import Derived.Test.YtniibdfnijeaeaaDoorF4
import Derived.Test.YtniibdfnijeaeaaDoorCd
import Derived.SevenTiedAt
set_option linter.unusedSectionVars false
namespace Go.Proofs.YtniibdfnijeaeaaDoor
namespace Ab
open Go.ChangeShapes Go.WideShapes Go.ChangeAt Go.RowKit
section
variable [Laid2]
noncomputable def okB (n : Nat) : Bool := match g4 1000 (n : Int) with
  | some true => true
  | _ => false
theorem all4 : (List.range 256).all okB = true := by kernel_rfl
theorem blanks_true {c : Int} (h0 : 0 ≤ c) (h1 : c ≤ 255) : g4 1000 c = some true := by
  obtain ⟨n, rfl⟩ := Int.eq_ofNat_of_zero_le h0
  have := List.all_eq_true.1 all4 n (List.mem_range.2 (by omega))
  unfold okB at this
  split at this
  · assumption
  · cases this
theorem ut5 : Tryd.prog.underlying 5 = some (.int .u8) := by kernel_rfl
theorem ut4 : Tryd.prog.underlying 4 = some .bool := by kernel_rfl
theorem blanks_ev {B : Nat} (ls : List (List Cell)) (h : ShAll Tryd.prog B Tryd.f4.params.toList ls) : Ev Tryd.prog noHand 4 (argAVs Tryd.prog Tryd.f4.params.toList ls) [] (.ret (.c (bc true))) [] := by
  have hp : Tryd.f4.params.toList = [5] := by kernel_rfl
  rw [hp] at h ⊢
  match ls, h with
  | [l], ⟨⟨n, hl⟩, _⟩ =>
    obtain ⟨c, rfl, h0, h1⟩ := hl.int ut5
    have hc0 : (0 : Int) ≤ c := by have : IntKind.u8.min = 0 := by decide
                                   omega
    have hc1 : c ≤ 255 := by have : IntKind.u8.max = 255 := by decide
                             omega
    have := ev4 (blanks_true hc0 hc1)
    have e : argAVs Tryd.prog [5] [[.val (.int .u8 c)]] = [.c (.val (.int .u8 c))] := by kernel_rfl
    rw [e]
    exact this
end
set_option maxRecDepth 100000 in
theorem blanks_lifted (os : Os) (started : os.Started) (H : Type) (enc : TypeId × Value → H) (F : Stop.Interp) :
    ReturnsInHanded {} Tryd.checked os 4 .any (Rows.lexBlanksUptoRow.pre enc Tryd.prog Tryd.f4 (Rows.OpenSpec.upto Rows.lexBlanksSpec)) (((Rows.OpenSpec.upto Rows.lexBlanksSpec).at F).post enc Tryd.prog Tryd.f4 false true false false) := by
  refine returns_cond_laid (C := Tryd.checked) (s := Rows.OpenSpec.upto Rows.lexBlanksSpec) (k := Rows.uptoSmall) (laid := laidL) rfl own started (by kernel_rfl) Tryd.func4
    (witness_cond_laid (enc := enc) (C := Tryd.checked) (s := Rows.OpenSpec.upto Rows.lexBlanksSpec) (k := Rows.uptoSmall) rfl (World.doorLaid Tryd.prog 400 os) #[.int .u8 0] 8 rfl (World.shaped_of_RefB (by kernel_rfl) (by kernel_rfl)) (by kernel_rfl)
      (x := ([.lit (.int .u8 0)], [], [])) (by kernel_rfl) rfl (by kernel_rfl) (by kernel_rfl) (door_met os _)) ?_
  intro W base args ds gs before hval hW hk hl
  have hb : Rows.uptoBulkAll (ds ++ gs) ≤ 1048576 := of_decide_eq_true hk
  letI := laidOf (laid_plain hl)
  exact law_post (hand := noHand) (T := [5, 4]) (B := 1048576) (s := Rows.lexBlanksSpec) (by kernel_rfl) (by kernel_rfl) (by kernel_rfl) (by kernel_rfl) (by kernel_rfl) rfl
    (fun ds hd => by
      match ds, hd with
      | [d], _ => rfl
      | [], hd => cases hd
      | _ :: _ :: _, hd => simp at hd)
    ⟨4, by kernel_rfl, ut4⟩ hval hW hb (laidOf_glob _) (fun ls h _ => blanks_ev ls h)
theorem blanks_row : Rows.LexBlanksUptoSaid :=
  OpenClaim.holds_of_cond 4 Tryd.f4 rfl rfl rfl rfl rfl rfl rfl ⟨rfl, rfl, rfl, rfl, rfl⟩ rfl rfl rfl rfl rfl (by kernel_rfl) Tryd.func4 (by kernel_rfl)
    (of_decide_eq_true (by kernel_rfl)) (by unfold Func.isWrapper; first | (rw [if_pos (by decide +kernel)]; kernel_rfl) | (rw [if_neg (by decide +kernel)]; exact ⟨rfl, rfl⟩))
    (fun os started H enc _ F => blanks_lifted os started H enc F)
end Ab
theorem lexBlanks_holds : Rows.LexBlanksUptoCardSaid :=
  Claim7.holds_tied_plain_at .later [] [.data, .data, .data, .sentinel, .sentinel] true (true, "4100ed0d3afc9f40601647e42659338bffb56437ef0e626f9dd8f404e0ef32fe") true
    Ab.blanks_row (fun _ h => by cases h) (by kernel_rfl) (fun _ h => by cases h) lexBlanksUpto_row_tie rfl ⟨rfl, rfl⟩ (by kernel_rfl) rfl
    (fun f fn hf hfn => by
      obtain rfl : f = 4 := Option.some.inj ((show Tryd.prog.funcNamed "auspice/auspicelaw05.LexBlanks" = some 4 by kernel_rfl).symm.trans hf) |>.symm
      obtain rfl : fn = Tryd.f4 := (Option.some.inj (Tryd.func4.symm.trans hfn)).symm
      exact ⟨by kernel_rfl, fun j t ht => by
        rw [Tryd.params4] at ht
        have hm : t ∈ [5] := by simpa using Array.mem_of_getElem? ht
        have hall : ([5].all fun u => !Tryd.prog.wantsStandIn u) = true := by kernel_rfl
        exact (show Tryd.prog.wantsStandIn t = false by simpa using List.all_eq_true.1 hall t hm)⟩)
    (by kernel_rfl)
end Go.Proofs.YtniibdfnijeaeaaDoor
