/-
  Whatever text is handed in (of bulk at most 1048576), QueryBack returns true: what is read is printed and read again as it was; printed again it is the same text.
  Conditions: the row's own alone (the bound on the arguments' bulk; the variables that the card ties to the program's text).
-/
import Derived.Test.YtpdhhkfllkgahaaGreatDoorQiq
import Derived.Test.YtpdhhkfllkgahaaGreatDoorCdq
import Derived.SevenTiedAt
set_option linter.all false
namespace Go.Proofs.YtpdhhkfllkgahaaGreatDoor
namespace Ab
open Go.ChangeShapes Go.WideShapes Go.ChangeAt Go.RowKit
section
variable [vo]
theorem ut9:Tryz.prog.underlying 9=some .string:=by kernel_rfl
theorem ut3:Tryz.prog.underlying 3=some (.int .i64):=by kernel_rfl
theorem ut4:Tryz.prog.underlying 4=some .bool:=by kernel_rfl
theorem qmU {B:Nat}(ls:List (List Cell))(h:qiH Tryz.prog B Tryz.f5.params.toList ls):Ev Tryz.prog noHand 5 (vJ Tryz.prog Tryz.f5.params.toList ls) [] (.ret (.c (bc true))) []:=by
 have hp:Tryz.f5.params.toList=[9]:=by kernel_rfl
 rw[hp]at h ⊢
 match ls,h with
 |[l],⟨⟨n,hl⟩,_⟩=>
  obtain⟨s,rfl,_⟩:=hl.string ut9;obtain⟨N,hN⟩:=qBL s;have:=ev5 (hN N (Nat.le_refl _));have e:vJ Tryz.prog [9] [[.val (.string s)]]=[.c (.val (.string s))]:=by kernel_rfl
  rw[e];exact this
end
set_option maxRecDepth 100000 in
theorem qgJ (os:Os)(started:os.Started)(H:Type)(enc:TypeId×Value→H)(F:Stop.Interp):
  ReturnsInHanded {} Tryz.checked os 5 .any (Rows.queryBackUptoRow.pre enc Tryz.prog Tryz.f5 (Rows.OpenSpec.upto Rows.queryBackSpec)) (((Rows.OpenSpec.upto Rows.queryBackSpec).at F).post enc Tryz.prog Tryz.f5 false true false false):=by
 refine QC (C:=Tryz.checked) (s:=Rows.OpenSpec.upto Rows.queryBackSpec) (k:=Rows.uptoSmall) (laid:=qeC) rfl own started (by kernel_rfl) Tryz.func5
  (Qv (enc:=enc) (C:=Tryz.checked) (s:=Rows.OpenSpec.upto Rows.queryBackSpec) (k:=Rows.uptoSmall) rfl (World.doorLaid Tryz.prog 400 os) #[.string ⟨#[]⟩] 8 rfl (World.shaped_of_RefB (by kernel_rfl) (by kernel_rfl)) (by kernel_rfl)
   (x:=([.lit (.string [])],[],[])) (by kernel_rfl) rfl (by kernel_rfl) (by kernel_rfl) (qju os _)) ?_
 intro W base args ds gs before hval hW hk hl;have hb:Rows.uptoBulkAll (ds++gs)≤1048576:=of_decide_eq_true hk
 letI:=qiK (qf1 hl)
 exact qjt (hand:=noHand) (T:=[9,4]) (B:=1048576) (s:=Rows.queryBackSpec) (by kernel_rfl) (by kernel_rfl) (by kernel_rfl) (by kernel_rfl) (by kernel_rfl) rfl
  (fun ds hd=>by
   match ds,hd with
   |[d],_=>rfl
   |[],hd=>cases hd
   |_::_::_,hd=>simp at hd)
  ⟨4,by kernel_rfl,ut4⟩ hval hW hb (qef _) (fun ls h _=>qmU ls h)
theorem law_row:Rows.QueryBackUptoSaid:=
 OpenClaim.holds_of_cond 5 Tryz.f5 rfl rfl rfl rfl rfl rfl rfl ⟨rfl,rfl,rfl,rfl,rfl⟩ rfl rfl rfl rfl rfl (by kernel_rfl) Tryz.func5 (by kernel_rfl)
  (of_decide_eq_true (by kernel_rfl)) (by unfold Func.isWrapper;first|(rw[aD (by decide +kernel)];kernel_rfl)|(rw[aF (by decide +kernel)];exact⟨rfl,rfl⟩))
  (fun os started H enc _ F=>qgJ os started H enc F)
end Ab
theorem queryBack_holds:Rows.QueryBackUptoCardSaid:=
 Claim7.holds_tied_plain_at .later [] [.data,.data,.data,.sentinel,.sentinel,.listed,.data] true (true, "14534a1734817fe9ab17ccbaed663eee527a3be917698c25d60fdbeb2698ccb5") true
  Ab.law_row (fun _ h=>by cases h) (by kernel_rfl) (fun _ h=>by cases h) queryBackUpto_row_tie rfl ⟨rfl,rfl⟩ (by kernel_rfl) rfl
  (fun f fn hf hfn=>by
   obtain rfl:f=5:=Option.some.inj ((show Tryz.prog.funcNamed "auspice/auspicelaw07.QueryBack" = some 5 by kernel_rfl).symm.trans hf) |>.symm
   obtain rfl:fn=Tryz.f5:=(Option.some.inj (Tryz.func5.symm.trans hfn)).symm;exact⟨by kernel_rfl,fun j t ht=>by
    rw[Tryz.params5]at ht;have hm:t∈[9]:=by simpa using Array.mem_of_getElem? ht
    have hall:([9].all fun u=>!Tryz.prog.wantsStandIn u)=true:=by kernel_rfl
    exact(show Tryz.prog.wantsStandIn t=false by simpa using List.all_eq_true.1 hall t hm)⟩)
  (by kernel_rfl)
end Go.Proofs.YtpdhhkfllkgahaaGreatDoor
