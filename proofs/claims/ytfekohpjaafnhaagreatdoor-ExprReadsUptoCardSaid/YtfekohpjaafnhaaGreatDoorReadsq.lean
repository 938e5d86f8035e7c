/-
  The expression that begins at any token of any text, and what stands behind it: as the document says.
  Conditions: the row's own alone (the bound on the arguments' bulk; the variables that the card ties to the program's text).
-/
import Derived.Test.YtfekohpjaafnhaaGreatDoorZfq
import Derived.Test.YtfekohpjaafnhaaGreatDoorCdq
import Derived.SevenTiedAt
set_option linter.all false
namespace Go.Proofs.YtfekohpjaafnhaaGreatDoor
namespace Ab
open Go.ChangeShapes Go.WideShapes Go.ChangeAt Go.RowKit
section
variable [vo]
theorem ut9:Tryz.prog.underlying 9=some .string:=by kernel_rfl
theorem ut3:Tryz.prog.underlying 3=some (.int .i64):=by kernel_rfl
theorem ut4:Tryz.prog.underlying 4=some .bool:=by kernel_rfl
theorem qmU {B:Nat}(ls:List (List Cell))(h:qiH Tryz.prog B Tryz.f4.params.toList ls):Ev Tryz.prog noHand 4 (vJ Tryz.prog Tryz.f4.params.toList ls) [] (.ret (.c (bc true))) []:=by
 have hp:Tryz.f4.params.toList=[9,3]:=by kernel_rfl
 rw[hp]at h ⊢
 match ls,h with
 |[l,l3],⟨⟨n,hl⟩,⟨n3,hl3⟩,_⟩=>
  obtain⟨s,rfl,_⟩:=hl.string ut9;obtain⟨b,rfl,hb1,hb2⟩:=hl3.int ut3;obtain⟨N,hN⟩:=qrb s b;have:=ev4 (hN N (Nat.le_refl _));have e:vJ Tryz.prog [9,3] [[.val (.string s)],[.val (.int .i64 b)]]=[.c (.val (.string s)),.c (.val (.int .i64 b))]:=by kernel_rfl
  rw[e];exact this
end
set_option maxRecDepth 100000 in
theorem qgJ (os:Os)(started:os.Started)(H:Type)(enc:TypeId×Value→H)(F:Stop.Interp):
  ReturnsInHanded {} Tryz.checked os 4 .any (Rows.exprReadsUptoRow.pre enc Tryz.prog Tryz.f4 (Rows.OpenSpec.upto Rows.exprReadsSpec)) (((Rows.OpenSpec.upto Rows.exprReadsSpec).at F).post enc Tryz.prog Tryz.f4 false true false false):=by
 refine QC (C:=Tryz.checked) (s:=Rows.OpenSpec.upto Rows.exprReadsSpec) (k:=Rows.uptoSmall) (laid:=qeC) rfl own started (by kernel_rfl) Tryz.func4
  (Qv (enc:=enc) (C:=Tryz.checked) (s:=Rows.OpenSpec.upto Rows.exprReadsSpec) (k:=Rows.uptoSmall) rfl (World.doorLaid Tryz.prog 400 os) #[.string ⟨#[]⟩,.int .i64 0] 8 rfl (World.shaped_of_RefB (by kernel_rfl) (by kernel_rfl)) (by kernel_rfl)
   (x:=([.lit (.string []),.lit (.int .i64 0)],[],[])) (by kernel_rfl) rfl (by kernel_rfl) (by kernel_rfl) (qju os _)) ?_
 intro W base args ds gs before hval hW hk hl;have hb:Rows.uptoBulkAll (ds++gs)≤1048576:=of_decide_eq_true hk
 letI:=qiK (qf1 hl)
 exact qjt (hand:=noHand) (T:=[9,3,4]) (B:=1048576) (s:=Rows.exprReadsSpec) (by kernel_rfl) (by kernel_rfl) (by kernel_rfl) (by kernel_rfl) (by kernel_rfl) rfl
  (fun ds hd=>by
   match ds,hd with
   |[d1,d2],_=>rfl
   |[],hd=>cases hd
   |[_],hd=>cases hd
   |_::_::_::_,hd=>simp at hd)
  ⟨4,by kernel_rfl,ut4⟩ hval hW hb (qef _) (fun ls h _=>qmU ls h)
theorem law_row:Rows.ExprReadsUptoSaid:=
 OpenClaim.holds_of_cond 4 Tryz.f4 rfl rfl rfl rfl rfl rfl rfl ⟨rfl,rfl,rfl,rfl,rfl⟩ rfl rfl rfl rfl rfl (by kernel_rfl) Tryz.func4 (by kernel_rfl)
  (of_decide_eq_true (by kernel_rfl)) (by unfold Func.isWrapper;first|(rw[aD (by decide +kernel)];kernel_rfl)|(rw[aF (by decide +kernel)];exact⟨rfl,rfl⟩))
  (fun os started H enc _ F=>qgJ os started H enc F)
end Ab
theorem exprReads_holds:Rows.ExprReadsUptoCardSaid:=
 Claim7.holds_tied_plain_at .later [] [.data,.data,.data,.sentinel,.sentinel,.listed,.data] true (true, "63ba89ebd7b1452b65c42fd8ff87326eb3957a3fcbbb189733e6d5b4c2b5795a") true
  Ab.law_row (fun _ h=>by cases h) (by kernel_rfl) (fun _ h=>by cases h) exprReadsUpto_row_tie rfl ⟨rfl,rfl⟩ (by kernel_rfl) rfl
  (fun f fn hf hfn=>by
   obtain rfl:f=4:=Option.some.inj ((show Tryz.prog.funcNamed "auspice/auspicelaw06.ExprReads" = some 4 by kernel_rfl).symm.trans hf) |>.symm
   obtain rfl:fn=Tryz.f4:=(Option.some.inj (Tryz.func4.symm.trans hfn)).symm;exact⟨by kernel_rfl,fun j t ht=>by
    rw[Tryz.params4]at ht;have hm:t∈[9,3]:=by simpa using Array.mem_of_getElem? ht
    have hall:([9,3].all fun u=>!Tryz.prog.wantsStandIn u)=true:=by kernel_rfl
    exact(show Tryz.prog.wantsStandIn t=false by simpa using List.all_eq_true.1 hall t hm)⟩)
  (by kernel_rfl)
end Go.Proofs.YtfekohpjaafnhaaGreatDoor
