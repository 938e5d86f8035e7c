/-
  QueryParses: the query of any text, with all its places, or what is wrong, and where, is what the document says.
  Conditions: the row's own alone (the bound on the arguments' bulk; the variables that the card ties to the program's text).
-/
import Derived.Test.YtgfbbmjoflehlaaGreatDoorDbq
import Derived.Test.YtgfbbmjoflehlaaGreatDoorCdq
import Derived.SevenTiedAt
set_option linter.all false
namespace Go.Proofs.YtgfbbmjoflehlaaGreatDoor
namespace Ab
open Go.ChangeShapes Go.WideShapes Go.ChangeAt Go.RowKit
section
variable [vo]
theorem ut9:Tryz.prog.underlying 9=some .string:=by kernel_rfl
theorem ut3:Tryz.prog.underlying 3=some (.int .i64):=by kernel_rfl
theorem ut4:Tryz.prog.underlying 4=some .bool:=by kernel_rfl
theorem qmU {B:Nat}(ls:List (List Cell))(h:qiH Tryz.prog B Tryz.f3.params.toList ls):Ev Tryz.prog noHand 3 (vJ Tryz.prog Tryz.f3.params.toList ls) [] (.ret (.c (bc true))) []:=by
 have hp:Tryz.f3.params.toList=[9]:=by kernel_rfl
 rw[hp]at h |-
 match ls,h with
 |[l],⟨⟨n,hl⟩,_⟩=>
  obtain⟨s,rfl,_⟩:=hl.string ut9;obtain⟨N,hN⟩:=qwO s;have:=evI (hN N (Nat.le_refl _));have e:vJ Tryz.prog [9] [[.val (.string s)]]=[.c (.val (.string s))]:=by kernel_rfl
  rw[e];exact this
end
set_option maxRecDepth 100000 in
theorem qgJ (os:Os)(started:os.Started)(H:Type)(enc:TypeId×Value->H)(F:Stop.Interp):
  ReturnsInHanded {} Tryz.checked os 3 .any (Rows.queryParsesUptoRow.pre enc Tryz.prog Tryz.f3 (Rows.OpenSpec.upto Rows.queryParsesSpec)) (((Rows.OpenSpec.upto Rows.queryParsesSpec).at F).post enc Tryz.prog Tryz.f3 false true false false):=by
 refine QC (C:=Tryz.checked) (s:=Rows.OpenSpec.upto Rows.queryParsesSpec) (k:=Rows.uptoSmall) (laid:=qeC) rfl own started (by kernel_rfl) Tryz.func3
  (Qv (enc:=enc) (C:=Tryz.checked) (s:=Rows.OpenSpec.upto Rows.queryParsesSpec) (k:=Rows.uptoSmall) rfl (World.doorLaid Tryz.prog 400 os) #[.string ⟨#[]⟩] 8 rfl (World.shaped_of_RefB (by kernel_rfl) (by kernel_rfl)) (by kernel_rfl)
   (x:=([.lit (.string [])],[],[])) (by kernel_rfl) rfl (by kernel_rfl) (by kernel_rfl) (qju os _)) ?_
 intro W base args ds gs before hval hW hk hl;have hb:Rows.uptoBulkAll (ds++gs)<=1048576:=of_decide_eq_true hk
 letI:=qiK (qf1 hl)
 exact qjt (hand:=noHand) (T:=[9,4]) (B:=1048576) (s:=Rows.queryParsesSpec) (by kernel_rfl) (by kernel_rfl) (by kernel_rfl) (by kernel_rfl) (by kernel_rfl) rfl
  (fun ds hd=>by
   match ds,hd with
   |[d],_=>rfl
   |[],hd=>cases hd
   |_::_::_,hd=>simp at hd)
  ⟨4,by kernel_rfl,ut4⟩ hval hW hb (qef _) (fun ls h _=>qmU ls h)
theorem law_row:Rows.QueryParsesUptoSaid:=
 OpenClaim.holds_of_cond 3 Tryz.f3 rfl rfl rfl rfl rfl rfl rfl ⟨rfl,rfl,rfl,rfl,rfl⟩ rfl rfl rfl rfl rfl (by kernel_rfl) Tryz.func3 (by kernel_rfl)
  (of_decide_eq_true (by kernel_rfl)) (by unfold Func.isWrapper;first|(rw[aD (by decide +kernel)];kernel_rfl)|(rw[aF (by decide +kernel)];exact⟨rfl,rfl⟩))
  (fun os started H enc _ F=>qgJ os started H enc F)
end Ab
theorem queryParses_holds:Rows.QueryParsesUptoCardSaid:=
 Claim7.holds_tied_plain_at .later [] [.data,.data,.data,.sentinel,.sentinel,.listed,.data] true (true, "ec4c11043de47a64ab84e72725cb6068c7ee6d8e88a81e753510d30a7f601ce0") true
  Ab.law_row (fun _ h=>by cases h) (by kernel_rfl) (fun _ h=>by cases h) queryParsesUpto_row_tie rfl ⟨rfl,rfl⟩ (by kernel_rfl) rfl
  (fun f fn hf hfn=>by
   obtain rfl:f=3:=Option.some.inj ((show Tryz.prog.funcNamed "auspice/auspicelaw07.QueryParses" = some 3 by kernel_rfl).symm.trans hf) |>.symm
   obtain rfl:fn=Tryz.f3:=(Option.some.inj (Tryz.func3.symm.trans hfn)).symm;exact⟨by kernel_rfl,fun j t ht=>by
    rw[Tryz.params3]at ht;have hm:t∈[9]:=by simpa using Array.mem_of_getElem? ht
    have hall:([9].all fun u=>!Tryz.prog.wantsStandIn u)=true:=by kernel_rfl
    exact(show Tryz.prog.wantsStandIn t=false by simpa using List.all_eq_true.1 hall t hm)⟩)
  (by kernel_rfl)
end Go.Proofs.YtgfbbmjoflehlaaGreatDoor
