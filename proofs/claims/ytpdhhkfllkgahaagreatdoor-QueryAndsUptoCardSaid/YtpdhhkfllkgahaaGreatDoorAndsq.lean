/-
  Whatever tree is handed in (of bulk at most 1048576), QueryAnds returns true, and it reads as it did: a query with that condition, and the same with another condition beside it.
  Conditions: the row's own alone (the bound on the arguments' bulk; the variables that the card ties to the program's text).
-/
import Derived.Test.YtpdhhkfllkgahaaGreatDoorRcq
import Derived.Test.YtpdhhkfllkgahaaGreatDoorCdq
import Derived.SevenTiedAt
set_option linter.all false
namespace Go.Proofs.YtpdhhkfllkgahaaGreatDoor
namespace Ab
open Go.ChangeShapes Go.WideShapes Go.ChangeAt Go.RowKit
theorem st24:qfd Tryz.prog 24=some [3,22,2,3,9,9,3]:=by kernel_rfl
theorem ut2:Tryz.prog.underlying 2=some (.int .i64):=by kernel_rfl
theorem ut3:Tryz.prog.underlying 3=some (.int .i64):=by kernel_rfl
theorem ut4:Tryz.prog.underlying 4=some .bool:=by kernel_rfl
theorem ut9:Tryz.prog.underlying 9=some .string:=by kernel_rfl
theorem ut22:Tryz.prog.underlying 22=some (.slice 24):=by kernel_rfl
mutual
theorem qxi:∀ n:Ex,cnt n≤wtL (Xe n)
 |.mk op args n scale name attr pos=>by have:=qvI args;simp only[cnt,Xe,wtL,wtC,ic,sc];omega
theorem qvI:∀ l:List Ex,cnts l≤wtRs (qg l)
 |[]=>by simp[cnts]
 |n::l=>by have h1:=qxi n;have h2:=qvI l;simp only[cnts,qg,wtRs];omega
end
theorem ShT.fieldsN {P:Program}{B n:Nat}{t:TypeId}{l:List Cell}{ts:List TypeId}(h:ShT P B (n+1) t l)(hu:qfd P t=some ts):ShFs P B n ts l:=by
 unfold qfd at hu;simp only[ShT]at h;split at hu
 ·
  rename_i fs he;rw[he]at h;simp only[aa]at hu;subst hu;obtain⟨ls,rfl,hl,hs⟩:=h;have key:∀ (fl:List Field) (ls:List (List Cell)),ls.length=fl.length→(∀ (i:Nat) f x,fl[i]? = some f→ls[i]? = some x→ShT P B n f.type x)→ShFs P B n (fl.map (·.type)) ls.flatten:=by
   intro fl
   induction fl with
   |nil=>intro ls hl _;have:ls=[]:=List.length_eq_zero_iff.1 hl;rw[this];rfl
   |cons f fl ih=>
    intro ls hl hs;cases ls with
    |nil=>simp at hl
    |cons x ls=>exact⟨x,ls.flatten,by simp,hs 0 f x rfl rfl,ih ls (by simpa using hl) (fun i f' x' h1 h2=>hs (i+1) f' x' (by simpa using h1) (by simpa using h2))⟩
  exact key fs.toList ls (by simpa using hl) (fun i f x h1 h2=>hs i f x (by simpa using h1) h2)
 · cases hu
theorem ShT.sliceN {P:Program}{B n:Nat}{t e:TypeId}{l:List Cell}(h:ShT P B (n+1) t l)(hu:P.underlying t=some (.slice e)):∃ rows,l=[.imm rows]∧rows.length≤B∧∀ row∈rows,ShT P B n e row:=by simpa only[ShT,hu]using h
theorem qv9:∀ {rows:List (List Cell)},(∀ row∈rows,∃ x,row=Xe x∧nB x)→∃ L:List Ex,rows=qg L∧nBs L
 |[],_=>⟨[],rfl,trivial⟩
 |row::rows,h=>by obtain⟨x,hx,hx2⟩:=h row au;obtain⟨L,hL,hL2⟩:=qv9 fun r hr=>h r (aB _ hr);exact⟨x::L,by rw[hx,hL];rfl,hx2,hL2⟩
section
variable [vo]
set_option maxRecDepth 100000 in
theorem qxo {B:Nat}:∀ (n:Nat) {row:List Cell},ShT Tryz.prog B n 24 row→∃ x,row=Xe x∧nB x
 |0,_,h=>h.elim
 |1,_,h=>by obtain⟨x0,r0,e0,h0,_⟩:=h.fieldsN st24;exact h0.elim
 |n+2,row,h=>by obtain⟨x0,r0,e0,h0,x1,r1,e1,h1,x2,r2,e2,h2,x3,r3,e3,h3,x4,r4,e4,h4,x5,r5,e5,h5,x6,r6,e6,h6,hz⟩:=h.fieldsN st24;obtain⟨a,rfl,_⟩:=h0.int ut3;obtain⟨rows,rfl,_,hr⟩:=h1.sliceN ut22;obtain⟨L,rfl,hL⟩:=qv9 fun row hrow=>qxo n (hr row hrow);obtain⟨b,rfl,hb1,hb2⟩:=h2.int ut2;obtain⟨c,rfl,_⟩:=h3.int ut3;obtain⟨s,rfl,_⟩:=h4.string ut9;obtain⟨t,rfl,_⟩:=h5.string ut9;obtain⟨f,rfl,_⟩:=h6.int ut3;subst hz;exact⟨.mk a L b c s t f,by rw[e0,e1,e2,e3,e4,e5,e6];rfl,⟨hb1,hb2⟩,hL⟩
theorem qmU (ls:List (List Cell))(h:qiH Tryz.prog 1048576 Tryz.f3.params.toList ls)(hw:wtRs ls≤1048576):Ev Tryz.prog noHand 3 (vJ Tryz.prog Tryz.f3.params.toList ls) [] (.ret (.c (bc true))) []:=by
 have hp:Tryz.f3.params.toList=[24,4]:=by kernel_rfl
 rw[hp]at h ⊢
 match ls,h with
 |[l,l2],⟨⟨n,hl⟩,⟨n2,hl2⟩,_⟩=>
  obtain⟨a,rfl,hn⟩:=qxo n hl;obtain⟨b,rfl⟩:=hl2.bool ut4;have ha:=qxi a;simp only[wtRs]at hw;obtain⟨N,hN⟩:=qFd (x:=a) (by omega) hn b;have:=ev3 (hN N (Nat.le_refl _));have e:vJ Tryz.prog [24,4] [Xe a,[.val (.bool b)]]=[.ag [ic a.op,.imm (qg a.args),ic a.n,ic a.scale,sc a.name,sc a.attr,ic a.pos],.c (bc b)]:=by rw[qjn a];kernel_rfl
  rw[e];exact this
end
set_option maxRecDepth 100000 in
theorem qgJ (os:Os)(started:os.Started)(H:Type)(enc:TypeId×Value→H)(F:Stop.Interp):
  ReturnsInHanded {} Tryz.checked os 3 .any (Rows.queryAndsUptoRow.pre enc Tryz.prog Tryz.f3 (Rows.OpenSpec.upto Rows.queryAndsSpec)) (((Rows.OpenSpec.upto Rows.queryAndsSpec).at F).post enc Tryz.prog Tryz.f3 false true false false):=by
 refine QC (C:=Tryz.checked) (s:=Rows.OpenSpec.upto Rows.queryAndsSpec) (k:=Rows.uptoSmall) (laid:=qeC) rfl own started (by kernel_rfl) Tryz.func3
  (Qv (enc:=enc) (C:=Tryz.checked) (s:=Rows.OpenSpec.upto Rows.queryAndsSpec) (k:=Rows.uptoSmall) rfl (World.doorLaid Tryz.prog 400 os) #[.agg #[.int .i64 0,.slice none 0 0,.int .i64 0,.int .i64 0,.string ⟨#[]⟩,.string ⟨#[]⟩,.int .i64 0],.bool false] 8 rfl (World.shaped_of_RefB (by kernel_rfl) (by kernel_rfl)) (by kernel_rfl)
   (x:=([.agg [.lit (.int .i64 0),.nil,.lit (.int .i64 0),.lit (.int .i64 0),.lit (.string []),.lit (.string []),.lit (.int .i64 0)],.lit (.bool false)],[],[])) (by kernel_rfl) rfl (by kernel_rfl) (by kernel_rfl) (qju os _)) ?_
 intro W base args ds gs before hval hW hk hl;have hb:Rows.uptoBulkAll (ds++gs)≤1048576:=of_decide_eq_true hk
 letI:=qiK (qf1 hl)
 exact qjt (hand:=noHand) (T:=[24,22,3,2,9,4]) (B:=1048576) (s:=Rows.queryAndsSpec) (by kernel_rfl) (by kernel_rfl) (by kernel_rfl) (by kernel_rfl) (by kernel_rfl) rfl
  (fun ds hd=>by
   match ds,hd with
   |[d,d2],_=>rfl
   |[],hd=>cases hd
   |[_],hd=>simp at hd
   |_::_::_::_,hd=>simp at hd)
  ⟨4,by kernel_rfl,ut4⟩ hval hW hb (qef _) (fun ls h1 h2=>qmU ls h1 h2)
theorem law_row:Rows.QueryAndsUptoSaid:=
 OpenClaim.holds_of_cond 3 Tryz.f3 rfl rfl rfl rfl rfl rfl rfl ⟨rfl,rfl,rfl,rfl,rfl⟩ rfl rfl rfl rfl rfl (by kernel_rfl) Tryz.func3 (by kernel_rfl)
  (of_decide_eq_true (by kernel_rfl)) (by unfold Func.isWrapper;first|(rw[aD (by decide +kernel)];kernel_rfl)|(rw[aF (by decide +kernel)];exact⟨rfl,rfl⟩))
  (fun os started H enc _ F=>qgJ os started H enc F)
end Ab
theorem queryAnds_holds:Rows.QueryAndsUptoCardSaid:=
 Claim7.holds_tied_plain_at .later [] [.data,.data,.data,.sentinel,.sentinel,.listed,.data] true (true, "14534a1734817fe9ab17ccbaed663eee527a3be917698c25d60fdbeb2698ccb5") true
  Ab.law_row (fun _ h=>by cases h) (by kernel_rfl) (fun _ h=>by cases h) queryAndsUpto_row_tie rfl ⟨rfl,rfl⟩ (by kernel_rfl) rfl
  (fun f fn hf hfn=>by
   obtain rfl:f=3:=Option.some.inj ((show Tryz.prog.funcNamed "auspice/auspicelaw07.QueryAnds" = some 3 by kernel_rfl).symm.trans hf) |>.symm
   obtain rfl:fn=Tryz.f3:=(Option.some.inj (Tryz.func3.symm.trans hfn)).symm;exact⟨by kernel_rfl,fun j t ht=>by
    rw[Tryz.params3]at ht;have hm:t∈[24,4]:=by simpa using Array.mem_of_getElem? ht
    have hall:([24,4].all fun u=>!Tryz.prog.wantsStandIn u)=true:=by kernel_rfl
    exact(show Tryz.prog.wantsStandIn t=false by simpa using List.all_eq_true.1 hall t hm)⟩)
  (by kernel_rfl)
end Go.Proofs.YtpdhhkfllkgahaaGreatDoor
