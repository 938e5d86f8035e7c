/-
  Whatever two texts and whatever number are handed in (of bulk at most 1048576), ExprJoins returns true: two expressions in brackets with an operator between are read as that operator's node of both.
  Conditions: the row's own alone (the bound on the arguments' bulk; the variables that the card ties to the program's text).
-/
import Derived.Test.YtfekohpjaafnhaaDoorPkq
import Derived.Test.YtfekohpjaafnhaaDoorCdq
import Derived.SevenTiedAt
set_option linter.unusedSectionVars false
namespace Go.Proofs.YtfekohpjaafnhaaDoor
namespace Ab
open Go.ChangeShapes Go.WideShapes Go.ChangeAt Go.RowKit
section
variable [vo]
theorem ut9:Tryd.prog.underlying 9=some .string := by kernel_rfl
theorem ut3:Tryd.prog.underlying 3=some (.int .i64) := by kernel_rfl
theorem ut4:Tryd.prog.underlying 4=some .bool := by kernel_rfl
theorem qmU {B:Nat} (ls:List (List Cell)) (h:qiH Tryd.prog B Tryd.f6.params.toList ls):Ev Tryd.prog noHand 6 (vJ Tryd.prog Tryd.f6.params.toList ls) [] (.ret (.c (bc true))) [] := by
 have hp:Tryd.f6.params.toList=[9,9,3] := by kernel_rfl
 rw [hp] at h ⊢
 match ls,h with
 | [l,l2,l3],⟨⟨n,hl⟩,⟨n2,hl2⟩,⟨n3,hl3⟩,_⟩ =>
  obtain ⟨s,rfl,_⟩ := hl.string ut9
  obtain ⟨t,rfl,_⟩ := hl2.string ut9
  obtain ⟨b,rfl,hb1,hb2⟩ := hl3.int ut3
  obtain ⟨N,hN⟩ := qox s t b
  have := ev6 (hN N (Nat.le_refl _))
  have e:vJ Tryd.prog [9,9,3] [[.val (.string s)],[.val (.string t)],[.val (.int .i64 b)]]=[.c (.val (.string s)),.c (.val (.string t)),.c (.val (.int .i64 b))] := by kernel_rfl
  rw [e]
  exact this
end
set_option maxRecDepth 100000 in
theorem qgJ (os:Os) (started:os.Started) (H:Type) (enc:TypeId×Value→H) (F:Stop.Interp) :
  ReturnsInHanded {} Tryd.checked os 6 .any (Rows.exprJoinsUptoRow.pre enc Tryd.prog Tryd.f6 (Rows.OpenSpec.upto Rows.exprJoinsSpec)) (((Rows.OpenSpec.upto Rows.exprJoinsSpec).at F).post enc Tryd.prog Tryd.f6 false true false false) := by
 refine QC (C := Tryd.checked) (s := Rows.OpenSpec.upto Rows.exprJoinsSpec) (k := Rows.uptoSmall) (laid := qeC) rfl own started (by kernel_rfl) Tryd.func6
  (Qv (enc := enc) (C := Tryd.checked) (s := Rows.OpenSpec.upto Rows.exprJoinsSpec) (k := Rows.uptoSmall) rfl (World.doorLaid Tryd.prog 400 os) #[.string ⟨#[]⟩,.string ⟨#[]⟩,.int .i64 0] 8 rfl (World.shaped_of_RefB (by kernel_rfl) (by kernel_rfl)) (by kernel_rfl)
   (x := ([.lit (.string []),.lit (.string []),.lit (.int .i64 0)],[],[])) (by kernel_rfl) rfl (by kernel_rfl) (by kernel_rfl) (qju os _)) ?_
 intro W base args ds gs before hval hW hk hl
 have hb:Rows.uptoBulkAll (ds ++ gs)≤1048576 := of_decide_eq_true hk
 letI := qiK (qf1 hl)
 exact qjt (hand := noHand) (T := [9,9,3,4]) (B := 1048576) (s := Rows.exprJoinsSpec) (by kernel_rfl) (by kernel_rfl) (by kernel_rfl) (by kernel_rfl) (by kernel_rfl) rfl
  (fun ds hd => by
   match ds,hd with
   | [d1,d2,d3],_ => rfl
   | [],hd => cases hd
   | [_],hd => cases hd
   | [_,_],hd => cases hd
   | _ :: _ :: _ :: _ :: _,hd => simp at hd)
  ⟨4,by kernel_rfl,ut4⟩ hval hW hb (qef _) (fun ls h _ => qmU ls h)
theorem law_row:Rows.ExprJoinsUptoSaid :=
 OpenClaim.holds_of_cond 6 Tryd.f6 rfl rfl rfl rfl rfl rfl rfl ⟨rfl,rfl,rfl,rfl,rfl⟩ rfl rfl rfl rfl rfl (by kernel_rfl) Tryd.func6 (by kernel_rfl)
  (of_decide_eq_true (by kernel_rfl)) (by unfold Func.isWrapper;first | (rw [if_pos (by decide +kernel)];kernel_rfl) | (rw [if_neg (by decide +kernel)];exact ⟨rfl,rfl⟩))
  (fun os started H enc _ F => qgJ os started H enc F)
end Ab
theorem exprJoins_holds:Rows.ExprJoinsUptoCardSaid :=
 Claim7.holds_tied_plain_at .later [] [.data,.data,.data,.sentinel,.sentinel,.listed,.data] true (true, "f10f59190b95bca8cbcdf6c08c87619bb710f10d898c2f9c085b0434a8e81398") true
  Ab.law_row (fun _ h => by cases h) (by kernel_rfl) (fun _ h => by cases h) exprJoinsUpto_row_tie rfl ⟨rfl,rfl⟩ (by kernel_rfl) rfl
  (fun f fn hf hfn => by
   obtain rfl:f=6 := Option.some.inj ((show Tryd.prog.funcNamed "auspice/auspicelaw06.ExprJoins" = some 6 by kernel_rfl).symm.trans hf) |>.symm
   obtain rfl:fn=Tryd.f6 := (Option.some.inj (Tryd.func6.symm.trans hfn)).symm
   exact ⟨by kernel_rfl,fun j t ht => by
    rw [Tryd.params6] at ht
    have hm:t∈[9,9,3] := by simpa using Array.mem_of_getElem? ht
    have hall:([9,9,3].all fun u => !Tryd.prog.wantsStandIn u)=true := by kernel_rfl
    exact (show Tryd.prog.wantsStandIn t=false by simpa using List.all_eq_true.1 hall t hm)⟩)
  (by kernel_rfl)
end Go.Proofs.YtfekohpjaafnhaaDoor
