/-
  Whatever text is handed in (of bulk at most 1048576), ExprBack returns true: what is read is printed and read again as it was; printed again it is the same text.
  Conditions: the row's own alone (the bound on the arguments' bulk; the variables that the card ties to the program's text).
-/
import Derived.Test.YtfekohpjaafnhaaDoorBfq
import Derived.Test.YtfekohpjaafnhaaDoorCdq
import Derived.SevenTiedAt
set_option linter.all false
namespace Go.Proofs.YtfekohpjaafnhaaDoor
namespace Ab
open Go.ChangeShapes Go.WideShapes Go.ChangeAt Go.RowKit
section
variable [vo]
theorem ut9:Tryd.prog.underlying 9=some .string:=by kernel_rfl
theorem ut3:Tryd.prog.underlying 3=some (.int .i64):=by kernel_rfl
theorem ut4:Tryd.prog.underlying 4=some .bool:=by kernel_rfl
theorem qmU {B:Nat}(ls:List (List Cell))(h:qiH Tryd.prog B Tryd.f4.params.toList ls):Ev Tryd.prog noHand 4 (vJ Tryd.prog Tryd.f4.params.toList ls) [] (.ret (.c (bc true))) []:=by
 have hp:Tryd.f4.params.toList=[9]:=by kernel_rfl
 rw[hp]at h ⊢
 match ls,h with
 |[l],⟨⟨n,hl⟩,_⟩=>
  obtain⟨s,rfl,_⟩:=hl.string ut9;obtain⟨N,hN⟩:=qvu s;have:=ev4 (hN N (Nat.le_refl _));have e:vJ Tryd.prog [9] [[.val (.string s)]]=[.c (.val (.string s))]:=by kernel_rfl
  rw[e];exact this
end
set_option maxRecDepth 100000 in
theorem qgJ (os:Os)(started:os.Started)(H:Type)(enc:TypeId×Value→H)(F:Stop.Interp):
  ReturnsInHanded {} Tryd.checked os 4 .any (Rows.exprBackUptoRow.pre enc Tryd.prog Tryd.f4 (Rows.OpenSpec.upto Rows.exprBackSpec)) (((Rows.OpenSpec.upto Rows.exprBackSpec).at F).post enc Tryd.prog Tryd.f4 false true false false):=by
 refine QC (C:=Tryd.checked) (s:=Rows.OpenSpec.upto Rows.exprBackSpec) (k:=Rows.uptoSmall) (laid:=qeC) rfl own started (by kernel_rfl) Tryd.func4
  (Qv (enc:=enc) (C:=Tryd.checked) (s:=Rows.OpenSpec.upto Rows.exprBackSpec) (k:=Rows.uptoSmall) rfl (World.doorLaid Tryd.prog 400 os) #[.string ⟨#[]⟩] 8 rfl (World.shaped_of_RefB (by kernel_rfl) (by kernel_rfl)) (by kernel_rfl)
   (x:=([.lit (.string [])],[],[])) (by kernel_rfl) rfl (by kernel_rfl) (by kernel_rfl) (qju os _)) ?_
 intro W base args ds gs before hval hW hk hl;have hb:Rows.uptoBulkAll (ds++gs)≤1048576:=of_decide_eq_true hk
 letI:=qiK (qf1 hl)
 exact qjt (hand:=noHand) (T:=[9,4]) (B:=1048576) (s:=Rows.exprBackSpec) (by kernel_rfl) (by kernel_rfl) (by kernel_rfl) (by kernel_rfl) (by kernel_rfl) rfl
  (fun ds hd=>by
   match ds,hd with
   |[d],_=>rfl
   |[],hd=>cases hd
   |_::_::_,hd=>simp at hd)
  ⟨4,by kernel_rfl,ut4⟩ hval hW hb (qef _) (fun ls h _=>qmU ls h)
theorem law_row:Rows.ExprBackUptoSaid:=
 OpenClaim.holds_of_cond 4 Tryd.f4 rfl rfl rfl rfl rfl rfl rfl ⟨rfl,rfl,rfl,rfl,rfl⟩ rfl rfl rfl rfl rfl (by kernel_rfl) Tryd.func4 (by kernel_rfl)
  (of_decide_eq_true (by kernel_rfl)) (by unfold Func.isWrapper;first|(rw[aD (by decide +kernel)];kernel_rfl)|(rw[aF (by decide +kernel)];exact⟨rfl,rfl⟩))
  (fun os started H enc _ F=>qgJ os started H enc F)
end Ab
theorem exprBack_holds:Rows.ExprBackUptoCardSaid:=
 Claim7.holds_tied_plain_at .later [] [.data,.data,.data,.sentinel,.sentinel,.listed,.data] true (true, "f10f59190b95bca8cbcdf6c08c87619bb710f10d898c2f9c085b0434a8e81398") true
  Ab.law_row (fun _ h=>by cases h) (by kernel_rfl) (fun _ h=>by cases h) exprBackUpto_row_tie rfl ⟨rfl,rfl⟩ (by kernel_rfl) rfl
  (fun f fn hf hfn=>by
   obtain rfl:f=4:=Option.some.inj ((show Tryd.prog.funcNamed "auspice/auspicelaw06.ExprBack" = some 4 by kernel_rfl).symm.trans hf) |>.symm
   obtain rfl:fn=Tryd.f4:=(Option.some.inj (Tryd.func4.symm.trans hfn)).symm;exact⟨by kernel_rfl,fun j t ht=>by
    rw[Tryd.params4]at ht;have hm:t∈[9]:=by simpa using Array.mem_of_getElem? ht
    have hall:([9].all fun u=>!Tryd.prog.wantsStandIn u)=true:=by kernel_rfl
    exact(show Tryd.prog.wantsStandIn t=false by simpa using List.all_eq_true.1 hall t hm)⟩)
  (by kernel_rfl)
end Go.Proofs.YtfekohpjaafnhaaDoor
