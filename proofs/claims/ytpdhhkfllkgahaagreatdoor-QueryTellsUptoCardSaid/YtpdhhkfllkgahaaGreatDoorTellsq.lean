/-
  Whatever queries are handed in (of bulk at most 1048576), QueryTells returns true, and they read as they did: whether two queries are the same, and how many nodes one has, the program's and the document's alike; a query is its twin.
  Conditions: the row's own alone (the bound on the arguments' bulk; the variables that the card ties to the program's text).
-/
import Derived.Test.YtpdhhkfllkgahaaGreatDoorTaq
import Derived.Test.YtpdhhkfllkgahaaGreatDoorCdq
import Derived.SevenTiedAt
set_option linter.all false
namespace Go.Proofs.YtpdhhkfllkgahaaGreatDoor
namespace Ab
open Go.ChangeShapes Go.WideShapes Go.ChangeAt Go.RowKit
theorem st24:qfd Tryz.prog 24=some [3,22,2,3,9,9,3]:=by kernel_rfl
theorem st31:qfd Tryz.prog 31=some [29,22,3,2,9,3]:=by kernel_rfl
theorem st59:qfd Tryz.prog 59=some [3,9,9,3]:=by kernel_rfl
theorem ut2:Tryz.prog.underlying 2=some (.int .i64):=by kernel_rfl
theorem ut3:Tryz.prog.underlying 3=some (.int .i64):=by kernel_rfl
theorem ut4:Tryz.prog.underlying 4=some .bool:=by kernel_rfl
theorem ut9:Tryz.prog.underlying 9=some .string:=by kernel_rfl
theorem ut22:Tryz.prog.underlying 22=some (.slice 24):=by kernel_rfl
theorem ut29:Tryz.prog.underlying 29=some (.slice 57):=by kernel_rfl
theorem ut57:Tryz.prog.underlying 57=some (.slice 59):=by kernel_rfl
mutual
theorem qxi:∀ n:Ex,cnt n≤wtL (Xe n)
 |.mk op args n scale name attr pos=>by have:=qvI args;simp only[cnt,Xe,wtL,wtC,ic,sc];omega
theorem qvI:∀ l:List Ex,cnts l≤wtRs (qg l)
 |[]=>by simp[cnts]
 |n::l=>by have h1:=qxi n;have h2:=qvI l;simp only[cnts,qg,wtRs];omega
end
theorem ShT.fieldsN {P:Program}{B n:Nat}{t:TypeId}{l:List Cell}{ts:List TypeId}(h:ShT P B (n+1) t l)(hu:qfd P t=some ts):ShFs P B n ts l:=by
 unfold qfd at hu;simp only[ShT]at h;split at hu
 ·
  rename_i fs he;rw[he]at h;simp only[aa]at hu;subst hu;obtain⟨ls,rfl,hl,hs⟩:=h;have key:∀ (fl:List Field) (ls:List (List Cell)),ls.length=fl.length→(∀ (i:Nat) f x,fl[i]? = some f→ls[i]? = some x→ShT P B n f.type x)→ShFs P B n (fl.map (·.type)) ls.flatten:=by
   intro fl
   induction fl with
   |nil=>intro ls hl _;have:ls=[]:=List.length_eq_zero_iff.1 hl;rw[this];rfl
   |cons f fl ih=>
    intro ls hl hs;cases ls with
    |nil=>simp at hl
    |cons x ls=>exact⟨x,ls.flatten,by simp,hs 0 f x rfl rfl,ih ls (by simpa using hl) (fun i f' x' h1 h2=>hs (i+1) f' x' (by simpa using h1) (by simpa using h2))⟩
  exact key fs.toList ls (by simpa using hl) (fun i f x h1 h2=>hs i f x (by simpa using h1) h2)
 · cases hu
theorem ShT.sliceN {P:Program}{B n:Nat}{t e:TypeId}{l:List Cell}(h:ShT P B (n+1) t l)(hu:P.underlying t=some (.slice e)):∃ rows,l=[.imm rows]∧rows.length≤B∧∀ row∈rows,ShT P B n e row:=by simpa only[ShT,hu]using h
theorem qv9:∀ {rows:List (List Cell)},(∀ row∈rows,∃ x,row=Xe x)→∃ L:List Ex,rows=qg L
 |[],_=>⟨[],rfl⟩
 |row::rows,h=>by obtain⟨x,hx⟩:=h row au;obtain⟨L,hL⟩:=qv9 fun r hr=>h r (aB _ hr);exact⟨x::L,by rw[hx,hL];rfl⟩
theorem qwG:∀ {rows:List (List Cell)},(∀ row∈rows,∃ x,row=qv7 x)→∃ L:List It,rows=xe L
 |[],_=>⟨[],rfl⟩
 |row::rows,h=>by obtain⟨x,hx⟩:=h row au;obtain⟨L,hL⟩:=qwG fun r hr=>h r (aB _ hr);exact⟨x::L,by rw[hx,hL];rfl⟩
theorem qwF:∀ {rows:List (List Cell)},(∀ row∈rows,∃ x,row=qvJ x)→∃ L:List (List It),rows=zf L
 |[],_=>⟨[],rfl⟩
 |row::rows,h=>by obtain⟨x,hx⟩:=h row au;obtain⟨L,hL⟩:=qwF fun r hr=>h r (aB _ hr);exact⟨x::L,by rw[hx,hL];rfl⟩
theorem qw1:∀ (rows:Rs),(∀ row∈rows,1≤wtL row)→rows.length≤wtRs rows
 |[],_=>by simp
 |row::rows,h=>by have:=qw1 rows fun r hr=>h r (aB _ hr);have:=h row au;simp only[List.length_cons,wtRs];omega
theorem qxS:∀ {rows:Rs} {row:List Cell},row∈rows→wtL row≤wtRs rows
 |[],_,h=>by simp at h
 |r::rows,row,h=>by
  rcases List.mem_cons.1 h with rfl|h
  · simp only[wtRs];omega
  · have:=qxS h;simp only[wtRs];omega
theorem qxh (l:List It):l.length≤wtL (qvJ l):=by
 have:=qw1 (xe l) fun row hr=>by obtain⟨x,_,rfl⟩:=List.mem_map.1 hr;simp only[qv7,wtL,wtC,ic,sc];omega
 rw[qu5]at this;simp only[qvJ,wtL,wtC];omega
def qww (q:Qu):List Cell:=[.imm (zf q.br),.imm (qg q.wh),ic q.st,ic q.wd,sc q.key,ic q.ka]
theorem qx1 {q:Qu}(h:wtL (qww q)≤1048576):Few q:=by
 simp only[qww,wtL,wtC,ic,sc]at h;have h1:=qw1 (zf q.br) fun row hr=>by obtain⟨x,_,rfl⟩:=List.mem_map.1 hr;simp only[qvJ,wtL,wtC];omega
 rw[qu0]at h1;have h2:=qvI q.wh;refine⟨by omega,fun l hl=>?_,by omega⟩;have h3:qvJ l∈zf q.br:=List.mem_map_of_mem hl;have h4:=qxS h3;have h5:=qxh l;omega
section
variable [vo]
set_option maxRecDepth 100000 in
theorem qxo {B:Nat}:∀ (n:Nat) {row:List Cell},ShT Tryz.prog B n 24 row→∃ x,row=Xe x
 |0,_,h=>h.elim
 |1,_,h=>by obtain⟨x0,r0,e0,h0,_⟩:=h.fieldsN st24;exact h0.elim
 |n+2,row,h=>by obtain⟨x0,r0,e0,h0,x1,r1,e1,h1,x2,r2,e2,h2,x3,r3,e3,h3,x4,r4,e4,h4,x5,r5,e5,h5,x6,r6,e6,h6,hz⟩:=h.fieldsN st24;obtain⟨a,rfl,_⟩:=h0.int ut3;obtain⟨rows,rfl,_,hr⟩:=h1.sliceN ut22;obtain⟨L,rfl⟩:=qv9 fun row hrow=>qxo n (hr row hrow);obtain⟨b,rfl,_⟩:=h2.int ut2;obtain⟨c,rfl,_⟩:=h3.int ut3;obtain⟨s,rfl,_⟩:=h4.string ut9;obtain⟨t,rfl,_⟩:=h5.string ut9;obtain⟨f,rfl,_⟩:=h6.int ut3;subst hz;exact⟨.mk a L b c s t f,by rw[e0,e1,e2,e3,e4,e5,e6];rfl⟩
set_option maxRecDepth 100000 in
theorem qyY {B n:Nat}{row:List Cell}(h:ShT Tryz.prog B n 59 row):∃ x,row=qv7 x:=by
 match n,h with
 |n+2,h=>obtain⟨x0,r0,e0,h0,x1,r1,e1,h1,x2,r2,e2,h2,x3,r3,e3,h3,hz⟩:=h.fieldsN st59;obtain⟨a,rfl,_⟩:=h0.int ut3;obtain⟨s,rfl,_⟩:=h1.string ut9;obtain⟨t,rfl,_⟩:=h2.string ut9;obtain⟨b,rfl,_⟩:=h3.int ut3;subst hz;exact⟨⟨a,s,t,b⟩,by rw[e0,e1,e2,e3];rfl⟩
 |1,h=>obtain⟨x0,r0,e0,h0,_⟩:=h.fieldsN st59;exact h0.elim
 |0,h=>exact h.elim
set_option maxRecDepth 100000 in
theorem qye {B n:Nat}{row:List Cell}(h:ShT Tryz.prog B n 57 row):∃ x,row=qvJ x:=by
 match n,h with
 |n+1,h=>obtain⟨rows,rfl,_,hr⟩:=h.sliceN ut57;obtain⟨L,rfl⟩:=qwG fun row hrow=>qyY (hr row hrow);exact⟨L,rfl⟩
 |0,h=>exact h.elim
set_option maxRecDepth 100000 in
theorem qxt {B n:Nat}{row:List Cell}(h:ShT Tryz.prog B n 31 row):∃ q,row=qww q:=by
 match n,h with
 |n+2,h=>obtain⟨x0,r0,e0,h0,x1,r1,e1,h1,x2,r2,e2,h2,x3,r3,e3,h3,x4,r4,e4,h4,x5,r5,e5,h5,hz⟩:=h.fieldsN st31;obtain⟨rows,rfl,_,hr⟩:=h0.sliceN ut29;obtain⟨L,rfl⟩:=qwF fun row hrow=>qye (hr row hrow);obtain⟨rows2,rfl,_,hr2⟩:=h1.sliceN ut22;obtain⟨M,rfl⟩:=qv9 fun row hrow=>qxo n (hr2 row hrow);obtain⟨a,rfl,_⟩:=h2.int ut3;obtain⟨b,rfl,_⟩:=h3.int ut2;obtain⟨s,rfl,_⟩:=h4.string ut9;obtain⟨c,rfl,_⟩:=h5.int ut3;subst hz;exact⟨⟨L,M,a,b,s,c⟩,by rw[e0,e1,e2,e3,e4,e5];rfl⟩
 |1,h=>obtain⟨x0,r0,e0,h0,_⟩:=h.fieldsN st31;exact h0.elim
 |0,h=>exact h.elim
theorem qmU (ls:List (List Cell))(h:qiH Tryz.prog 1048576 Tryz.f4.params.toList ls)(hw:wtRs ls≤1048576):Ev Tryz.prog noHand 4 (vJ Tryz.prog Tryz.f4.params.toList ls) [] (.ret (.c (bc true))) []:=by
 have hp:Tryz.f4.params.toList=[31,31]:=by kernel_rfl
 rw[hp]at h ⊢
 match ls,h with
 |[l,l2],⟨⟨n,hl⟩,⟨n2,hl2⟩,_⟩=>
  obtain⟨a,rfl⟩:=qxt hl;obtain⟨b,rfl⟩:=qxt hl2;have ha:Few a:=qx1 (by simp only[wtRs]at hw;omega);obtain⟨N,hN⟩:=qv8 a b ha;have:=ev4 (hN N (Nat.le_refl _));have e:vJ Tryz.prog [31,31] [qww a,qww b]=[.ag [.imm (zf a.br),.imm (qg a.wh),ic a.st,ic a.wd,sc a.key,ic a.ka],.ag [.imm (zf b.br),.imm (qg b.wh),ic b.st,ic b.wd,sc b.key,ic b.ka]]:=by unfold qww;kernel_rfl
  rw[e];exact this
end
set_option maxRecDepth 100000 in
theorem qgJ (os:Os)(started:os.Started)(H:Type)(enc:TypeId×Value→H)(F:Stop.Interp):
  ReturnsInHanded {} Tryz.checked os 4 .any (Rows.queryTellsUptoRow.pre enc Tryz.prog Tryz.f4 (Rows.OpenSpec.upto Rows.queryTellsSpec)) (((Rows.OpenSpec.upto Rows.queryTellsSpec).at F).post enc Tryz.prog Tryz.f4 false true false false):=by
 refine QC (C:=Tryz.checked) (s:=Rows.OpenSpec.upto Rows.queryTellsSpec) (k:=Rows.uptoSmall) (laid:=qeC) rfl own started (by kernel_rfl) Tryz.func4
  (Qv (enc:=enc) (C:=Tryz.checked) (s:=Rows.OpenSpec.upto Rows.queryTellsSpec) (k:=Rows.uptoSmall) rfl (World.doorLaid Tryz.prog 400 os) #[.agg #[.slice none 0 0,.slice none 0 0,.int .i64 0,.int .i64 0,.string ⟨#[]⟩,.int .i64 0],.agg #[.slice none 0 0,.slice none 0 0,.int .i64 0,.int .i64 0,.string ⟨#[]⟩,.int .i64 0]] 8 rfl (World.shaped_of_RefB (by kernel_rfl) (by kernel_rfl)) (by kernel_rfl)
   (x:=([.agg [.nil,.nil,.lit (.int .i64 0),.lit (.int .i64 0),.lit (.string []),.lit (.int .i64 0)],.agg [.nil,.nil,.lit (.int .i64 0),.lit (.int .i64 0),.lit (.string []),.lit (.int .i64 0)]],[],[])) (by kernel_rfl) rfl (by kernel_rfl) (by kernel_rfl) (qju os _)) ?_
 intro W base args ds gs before hval hW hk hl;have hb:Rows.uptoBulkAll (ds++gs)≤1048576:=of_decide_eq_true hk
 letI:=qiK (qf1 hl)
 exact qjt (hand:=noHand) (T:=[31,29,57,59,24,22,3,2,9,4]) (B:=1048576) (s:=Rows.queryTellsSpec) (by kernel_rfl) (by kernel_rfl) (by kernel_rfl) (by kernel_rfl) (by kernel_rfl) rfl
  (fun ds hd=>by
   match ds,hd with
   |[d,d2],_=>rfl
   |[],hd=>cases hd
   |[_],hd=>simp at hd
   |_::_::_::_,hd=>simp at hd)
  ⟨4,by kernel_rfl,ut4⟩ hval hW hb (qef _) (fun ls h1 h2=>qmU ls h1 h2)
theorem law_row:Rows.QueryTellsUptoSaid:=
 OpenClaim.holds_of_cond 4 Tryz.f4 rfl rfl rfl rfl rfl rfl rfl ⟨rfl,rfl,rfl,rfl,rfl⟩ rfl rfl rfl rfl rfl (by kernel_rfl) Tryz.func4 (by kernel_rfl)
  (of_decide_eq_true (by kernel_rfl)) (by unfold Func.isWrapper;first|(rw[aD (by decide +kernel)];kernel_rfl)|(rw[aF (by decide +kernel)];exact⟨rfl,rfl⟩))
  (fun os started H enc _ F=>qgJ os started H enc F)
end Ab
theorem queryTells_holds:Rows.QueryTellsUptoCardSaid:=
 Claim7.holds_tied_plain_at .later [] [.data,.data,.data,.sentinel,.sentinel,.listed,.data] true (true, "14534a1734817fe9ab17ccbaed663eee527a3be917698c25d60fdbeb2698ccb5") true
  Ab.law_row (fun _ h=>by cases h) (by kernel_rfl) (fun _ h=>by cases h) queryTellsUpto_row_tie rfl ⟨rfl,rfl⟩ (by kernel_rfl) rfl
  (fun f fn hf hfn=>by
   obtain rfl:f=4:=Option.some.inj ((show Tryz.prog.funcNamed "auspice/auspicelaw07.QueryTells" = some 4 by kernel_rfl).symm.trans hf) |>.symm
   obtain rfl:fn=Tryz.f4:=(Option.some.inj (Tryz.func4.symm.trans hfn)).symm;exact⟨by kernel_rfl,fun j t ht=>by
    rw[Tryz.params4]at ht;have hm:t∈[31,31]:=by simpa using Array.mem_of_getElem? ht
    have hall:([31,31].all fun u=>!Tryz.prog.wantsStandIn u)=true:=by kernel_rfl
    exact(show Tryz.prog.wantsStandIn t=false by simpa using List.all_eq_true.1 hall t hm)⟩)
  (by kernel_rfl)
end Go.Proofs.YtpdhhkfllkgahaaGreatDoor
