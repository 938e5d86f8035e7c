/-
  What a node is in a look at a script: the document's answer ends. No claim stands here.
-/
import Derived.Test.YtjnefcbeemkkeaaGreatX7q
import Derived.Test.YtjnefcbeemkkeaaGreatX5q
set_option linter.all false
namespace Go.Proofs.YtjnefcbeemkkeaaGreat
namespace Ab
variable [Glob]
structure Ev4 where
 typ:Int
 time:Int
 attrs:List Vl
def qEO (e:Ev4):List Cell:=[ic e.typ,ic e.time,.imm (e.attrs.map vlR)]
theorem qFN {α:Type}(e:Ev4)(k:Int->Int->Rs->Option α):qEY (qEO e) k=k e.typ e.time (e.attrs.map vlR):=rfl
theorem qEW:∀ l:List Vl,qG (l.map vlR)=l.map vlR
 |[]=>rfl
 |v::l=>by rw[List.map_cons,qG,qEW l];rfl
theorem qFu:∀ l:List Ev4,qG (l.map qEO)=l.map qEO
 |[]=>rfl
 |v::l=>by rw[List.map_cons,qG,qFu l];rfl
def ScOk (E:List Ev4):Prop:=E.length<1073741823/\∀ e∈E,e.attrs.length<1073741823/\∀ v∈e.attrs,U64 v.bits
theorem qkp (e:Ev4)(h:e.attrs.length<1073741823):Tot (fun k=>g41 k e.typ e.time (e.attrs.map vlR)) (e.typ,e.time,e.attrs.map vlR):=by
 have loop:∀ (m i:Nat),i+m=e.attrs.length->Goes Zy (.h0 (e.attrs.map vlR) (e.attrs.length:Int) (i:Int) e.typ e.time ((e.attrs.take i).map vlR) 0 0) (e.typ,e.time,e.attrs.map vlR):=by
  intro m
  induction m with
  |zero=>intro i hi;refine Goes.fin fun k=>?_;simp only[Zy,nt,xe];rw[aG (by omega),List.take_of_length_le (by omega),qEW]
  |succ m ih=>
   intro i hi;have hlt:i<e.attrs.length:=by omega
   have hx:e.attrs[i]? = some e.attrs[i]:=ax hlt;have ih:=ih (i+1) (by omega);rw[List.take_succ_eq_append_getElem hlt,List.map_append]at ih;have h76:Tot (fun k=>g76 k e.attrs[i].kind e.attrs[i].bits) (e.attrs[i].kind,e.attrs[i].bits):=Goes.fin (s:=S76.e ..) fun k=>rfl;refine Goes.of2 h76 ih fun k q q2=>?_;simp only[Zy,nt,xe];rw[aF (by omega),Yi (rwAt hx),qBG,q];simp only[ae,tup2];have o1:apOk 16 2 ((e.attrs.take i).map vlR) [[ic e.attrs[i].kind,.val (.int .u64 e.attrs[i].bits)]]=true:=by simp only[apOk,lim,List.length_map,List.length_take,List.length_singleton,List.head?_cons,Option.all_some,List.length_cons,List.length_nil];simp;omega
   rw[o1,zq (by omega)];exact q2
 refine(loop e.attrs.length 0 (by omega)).go (s:=S41.e ..) fun k=>?_;simp only[Zy,nt,List.length_map];rfl
theorem qdP {E:List Ev4}(hE:ScOk E):Tot (fun k=>g13 k (E.map qEO)) (E.map qEO):=by
 obtain⟨hl,he⟩:=hE;have loop:∀ (m i:Nat),i+m=E.length->Goes zx (.h0 ((E.take i).map qEO) (E.map qEO) (E.length:Int) (i:Int)) (E.map qEO):=by
  intro m
  induction m with
  |zero=>intro i hi;refine Goes.fin fun k=>?_;simp only[zx,nt,xe];rw[aG (by omega),List.take_of_length_le (by omega)]
  |succ m ih=>
   intro i hi;have hlt:i<E.length:=by omega
   have hx:E[i]? = some E[i]:=ax hlt;have ih:=ih (i+1) (by omega);rw[List.take_succ_eq_append_getElem hlt,List.map_append]at ih;refine Goes.of2 (qkp E[i] (he _ (List.getElem_mem hlt)).1) ih fun k q q2=>?_;simp only[zx,nt,xe];rw[aF (by omega),Yi (rwAt hx),qFN,q];simp only[ae,tup3];have o1:apOk 40 3 ((E.take i).map qEO) [[ic E[i].typ,ic E[i].time,.imm (E[i].attrs.map vlR)]]=true:=by simp only[apOk,lim,List.length_map,List.length_take,List.length_singleton,List.head?_cons,Option.all_some,List.length_cons,List.length_nil];simp;omega
   rw[o1,zq (by omega)];exact q2
 refine(loop E.length 0 (by omega)).go (s:=S13.e ..) fun k=>?_;simp only[zx,nt,List.length_map];rfl
def qEG (E:List Ev4)(n a:Int):Int×Int:=if n<0 then(0,0)else match E[n.toNat]? with
 |none=>(0,0)
 |some e=>if a < -1 then(0,0)else if a = -1 then(1,IntKind.u64.wrap e.time)else match e.attrs[a.toNat]? with
  |none=>(0,0)
  |some v=>clB v
theorem qFd {E:List Ev4}(hE:ScOk E)(n a:Int):Cl (qEG E n a):=by
 unfold qEG;split
 . exact cl0
 .
  split
  . exact cl0
  .
   rename_i e he;split
   . exact cl0
   .
    split
    . exact cl1 (qFi _)
    . split
      . exact cl0
      . rename_i v hv;exact qE3 ((hE.2 e (aN he)).2 v (aN hv))
theorem qFQ {E:List Ev4}(hE:ScOk E)(n a:Int):Tot (fun k=>g47 k (E.map qEO) n a) (qEG E n a):=by
 have no:Goes qEL (.h0 (E.map qEO) n a true 0 0) (0,0):=Goes.fin fun k=>rfl;by_cases h0:n<0
 . rw[show qEG E n a=(0,0)by simp[qEG,h0]];exact no.go (s:=S47.e ..) fun k=>by simp only[qEL,nt,xe,aF h0]
 obtain⟨i,rfl⟩:∃ i:Nat,n=i:=⟨n.toNat,by omega⟩
 by_cases h1:(i:Int)>=(E.length:Int)
 . have hn:E[i]? = none:=List.getElem?_eq_none (by omega);rw[show qEG E (i:Int) a=(0,0)by simp[qEG,hn]];exact no.go (s:=S47.e ..) fun k=>by simp only[qEL,nt,xe,List.length_map,aG h0,aF h1]
 have hx:E[i]? = some (E[i]'(by omega)):=ax (by omega);have hi:i<E.length:=by omega
 by_cases h2:a < -1
 . rw[show qEG E (i:Int) a=(0,0)by simp[qEG,hx,h2]];exact no.go (s:=S47.e ..) fun k=>by simp only[qEL,nt,xe,List.length_map,aG h0,aG h1,aF h2]
 have main:∀ b,b=decide (a>=((E[i].attrs.length:Nat):Int))->Goes qEL (.h0 (E.map qEO) (i:Int) a b 0 0) (qEG E (i:Int) a):=by
  intro b hb;cases b with
  |true=>have hb:=of_decide_eq_true hb.symm;have hn:E[i].attrs[a.toNat]? = none:=List.getElem?_eq_none (by omega);rw[show qEG E (i:Int) a=(0,0)by simp[qEG,hx,hn];omega];exact no
  |false=>
   have hb:=of_decide_eq_false hb.symm;by_cases h3:a = -1
   . subst h3;rw[show qEG E (i:Int) (-1)=(1,IntKind.u64.wrap E[i].time)by simp[qEG,hx]];refine Goes.fin fun k=>?_;simp only[qEL,nt,af,beq_self_eq_true,ah];rw[Yi (rwAt hx),qFN]
   . obtain⟨j,rfl⟩:∃ j:Nat,a=j:=⟨a.toNat,by omega⟩
     have hv:E[i].attrs[j]? = some (E[i].attrs[j]'(by omega)):=ax (by omega);have hbits:=(hE.2 _ (List.getElem_mem hi)).2 _ (List.getElem_mem (show j<E[i].attrs.length by omega));have ea:qEG E (i:Int) (j:Int)=clB (E[i].attrs[j]'(by omega)):=by unfold qEG;rw[aG h0];simp only[Int.toNat_natCast,hx];rw[aG h2,aG h3];simp only[hv]
     rw[ea];refine Goes.of1 (zK _ hbits.1 hbits.2) fun k q=>?_;simp only[qEL,nt,af,zt,aG h3];rw[Yi (rwAt hx),qFN,Yi (rwAt hv),qBG,q];rfl
 refine(main _ rfl).go (s:=S47.e ..) fun k=>?_;simp only[qEL,nt,xe,List.length_map,aG h0,aG h1,aG h2];rw[Yi (rwAt hx),qFN,List.length_map]
def Clv (v:Vl):Prop:=Cl (v.kind,v.bits)
theorem qFK:∀ (n:Nat) (l:List Vl),l.length=n+1->n<1073741824->(∀ v∈l,Clv v)->Has (fun k=>g82 k (l.map vlR)) Cl:=by
 intro n
 induction n with
 |zero=>
  intro l hl _ hc
  match l,hl with
  |[v],_=>exact⟨(v.kind,v.bits),hc v (by simp),Goes.fin (s:=S82.e ..) fun k=>by simp[qp2,nt,ixR,qBG]⟩
 |succ n ih=>
  intro l hl hb hc;obtain⟨s,s1,s2⟩:=ih (l.take (n+1)) (by simp;omega) (by omega) fun v hv=>hc v (List.mem_of_mem_take hv);have hx:l[n+1]? = some (l[n+1]'(by omega)):=ax (by omega);have hcx:=hc _ (List.getElem_mem (show n+1<l.length by omega));obtain⟨t,t1,t2⟩:=qER (op:=1) (l:=[⟨s.1,s.2⟩,l[n+1]'(by omega)]) (.inr rfl) (fun v hv=>by
   simp only[List.mem_cons,List.not_mem_nil,or_false]at hv;rcases hv with rfl|rfl
   . exact s1.1
   . exact hcx.1)
  refine⟨t,t1,Goes.of2 (s:=S82.e ..) (f:=fun k=>itS qp2 k (.e ((l.take (n+1)).map vlR))) s2 t2 fun k q q2=>?_⟩;have hw:IntKind.i64.wrap (((l.map vlR).length:Int)-1)=((n+1:Nat):Int):=by rw[List.length_map,wrapN (by omega) (by omega)];omega
  have hd:List.drop (Int.toNat 0) (List.take (Int.toNat ((n+1:Nat):Int)) (l.map vlR))=(l.take (n+1)).map vlR:=by simp[List.map_take]
  have ho:slOk 0 ((n+1:Nat):Int) (l.map vlR) 2=true:=by
   unfold slOk;rw[aY];refine⟨by omega,by omega,by rw[List.length_map];omega,?_⟩;cases l with
   |nil=>rfl
   |cons v l=>rfl
  have e1:(((l.map vlR).length:Int)==1)=false:=by rw[List.length_map,qxO,aO];omega
  simp only[qp2,nt,e1,af,hw,hd,ho];have q:itS qp2 k (.e ((l.take (n+1)).map vlR))=some s:=q;simp only[gd,ah,q,ae,tup2];rw[Yi (rwAt hx),qBG];have q2:g45 k 1 [[ic s.1,.val (.int .u64 s.2)],vlR (l[n+1]'(by omega))]=some t:=q2;exact(congrArg (fun z:Option (Int×Int)=>z.bind fun m=>tup2 m fun n o=>some (n,o)) q2).trans rfl
theorem qFL {l:List Vl}{b:Bool}{f:Vl}(h0:l[0]? = some f)(hb:l.length<1073741824)(hc:∀ v∈l,Clv v):Has (fun k=>g83 k (l.map vlR) b) Cl:=by
 have loop:∀ (m i:Nat) (w:Int) (x y:Int),i+m=l.length->Cl (f.kind,w)->Ends qEC (.h0 (l.map vlR) b (l.map vlR) (l.length:Int) (i:Int) f.kind w x y) Cl:=by
  intro m
  induction m with
  |zero=>intro i w x y hi hw;exact .fin (f.kind,w) hw fun k=>by simp only[qEC,nt,xe];rw[aG (by omega)]
  |succ m ih=>
   intro i w x y hi hw;have hlt:i<l.length:=by omega
   have hx:l[i]? = some l[i]:=ax hlt;have hci:=hc _ (List.getElem_mem hlt);obtain⟨v,hv⟩:∃ v,v=l[i]:=⟨_,rfl⟩
   rw[<- hv]at hx hci;have h2:∀ w' x y,Cl (f.kind,w')->Ends qEC (.h2 (l.map vlR) b (l.map vlR) (l.length:Int) (i:Int) f.kind w' x y) Cl:=fun w' x y hw'=>(ih (i+1) w' x y (by omega) hw').go fun k=>by simp only[qEC,nt];rw[zq (by omega)]
   have h1:∀ c x y,(c=false->v.kind=f.kind/\(v.kind=1\/v.kind=4))->Ends qEC (.h1 (l.map vlR) b (l.map vlR) (l.length:Int) (i:Int) c v.kind v.bits f.kind w x y) Cl:=fun c x y hk=>by
    cases c
    .
     obtain⟨k1,k2⟩:=hk rfl;by_cases k4:v.kind=4
     . have hcv:Cl (4,v.bits):=by rw[<- k4];exact hci
       have hcw:Cl (4,w):=by rw[<- k4,k1];exact hw
       obtain⟨o,⟨o1,o2⟩,o3⟩:=qFs (c:=b) hcw.1 hcv.1 hcw.four hcv.four;obtain⟨r,r1,r2⟩:=h2 o x y (by rw[<- k1,k4];exact cl4 o1 o2);refine⟨r,r1,Goes.of2 o3 r2 fun k q q2=>?_⟩;simp only[qEC,nt,af,zt,aF k4,q,ae];exact q2
     .
      have h3:∀ c x y,Ends qEC (.h3 (l.map vlR) b (l.map vlR) (l.length:Int) (i:Int) c v.kind v.bits f.kind w x y) Cl:=fun c x y=>by
       cases c
       . exact(h2 w x y hw).go fun k=>rfl
       . refine(h2 v.bits x y (by rw[<- k1];exact hci)).go fun k=>?_;simp only[qEC,nt,ah,k1]
      cases b with
      |false=>exact(h3 (decide ((IntKind.i64.wrap v.bits)<(IntKind.i64.wrap w))) x y).go fun k=>by simp only[qEC,nt,af,zt,aG k4]
      |true=>
       by_cases kc:(IntKind.i64.wrap v.bits)>(IntKind.i64.wrap w)
       . exact(h3 true x y).go fun k=>by simp only[qEC,nt,af,ah,zt,aG k4,xe,aF kc]
       . exact(h3 false x y).go fun k=>by simp only[qEC,nt,af,ah,zt,aG k4,xe,aG kc]
    . exact .fin (0,0) cl0 fun k=>rfl
   have open1:∀ k,qEC k (itS qEC k) (.h0 (l.map vlR) b (l.map vlR) (l.length:Int) (i:Int) f.kind w x y)=(bif v.kind != f.kind then itS qEC k (.h1 (l.map vlR) b (l.map vlR) (l.length:Int) (i:Int) true v.kind v.bits f.kind w x y)else bif v.kind != 1 then itS qEC k (.h1 (l.map vlR) b (l.map vlR) (l.length:Int) (i:Int) (v.kind != 4) v.kind v.bits f.kind w x y)else itS qEC k (.h1 (l.map vlR) b (l.map vlR) (l.length:Int) (i:Int) false v.kind v.bits f.kind w x y)):=fun k=>by simp only[qEC,nt,xe];rw[aF (by omega),Yi (rwAt hx),qBG,show(0:Int)=((0:Nat):Int)from rfl,Yi (rwAt h0),qBG]
   by_cases kf:v.kind=f.kind
   . by_cases k1:v.kind=1
     . exact(h1 false x y (fun _=>⟨kf,.inl k1⟩)).go fun k=>by rw[open1,qvM,aF kf,qvM,aF k1]
     . refine(h1 (v.kind != 4) x y (fun h=>⟨kf,.inr (by simpa using h)⟩)).go fun k=>by rw[open1,qvM,aF kf,qvM,aG k1]
   . exact(h1 true x y (fun h=>by cases h)).go fun k=>by rw[open1,qvM,aG kf]
 refine(loop l.length 0 f.bits 0 0 (by omega) (hc f (aN h0))).go (s:=S83.e ..) fun k=>?_;simp only[qEC,nt,List.length_map];rw[show(0:Int)=((0:Nat):Int)from rfl,Yi (rwAt h0),qBG]
theorem qFF {op:Int}{l:List Vl}(hb:l.length<1073741824)(hc:∀ v∈l,Clv v):Has (fun k=>g48 k op (l.map vlR)) Cl:=by
 by_cases o25:op=25
 . exact Ends.fin (s:=S48.e ..) (1,IntKind.u64.wrap (l.length:Int)) (cl1 (qFi _)) fun k=>by simp only[qpX,nt,zt,aF o25,List.length_map]
 cases l with
 |nil=>exact Ends.fin (s:=S48.e ..) (0,0) cl0 fun k=>by simp only[qpX,nt,zt,aG o25];rfl
 |cons v t=>
  obtain⟨l,hl⟩:∃ l,l=v::t:=⟨_,rfl⟩
  rw[<- hl]at hb hc |-;have h0:l[0]? = some v:=by rw[hl];rfl
  have hn:l.length=t.length+1:=by rw[hl];rfl
  have en:¬ (((l.map vlR).length:Int)=0):=by rw[List.length_map];omega
  by_cases o27:op=27
  . have hx:l[l.length-1]? = some (l[l.length-1]'(by omega)):=ax (by omega);have hw:IntKind.i64.wrap (((l.map vlR).length:Int)-1)=((l.length-1:Nat):Int):=by rw[List.length_map,wrapN (by omega) (by omega)];omega
    refine Ends.fin (s:=S48.e ..) ((l[l.length-1]'(by omega)).kind,(l[l.length-1]'(by omega)).bits) (hc _ (List.getElem_mem _)) fun k=>?_;simp only[qpX,nt,zt,aG o25,aG en,aF o27,hw];rw[Yi (rwAt hx),qBG]
  obtain⟨s,s1,s2⟩:=qFK t.length l hn (by omega) hc;by_cases o28:op=28
  . refine⟨s,s1,Goes.of1 (s:=S48.e ..) s2 fun k q=>?_⟩;simp only[qpX,nt,zt,aG o25,aG en,aG o27,aF o28,q,ae,tup2]
  have main:∀ c x y,Ends qpX (.h0 op (l.map vlR) op c 1 (IntKind.u64.wrap ((l.map vlR).length:Int)) x y) Cl:=fun c x y=>by
   cases c
   .
    by_cases o31:op=31
    . obtain⟨u,u1,u2⟩:=qER (op:=16) (l:=[⟨1,IntKind.u64.wrap ((l.map vlR).length:Int)⟩]) (.inl rfl) (fun w hw=>by simp only[List.mem_cons,List.not_mem_nil,or_false]at hw;subst hw;exact qFi _);obtain⟨z,z1,z2⟩:=qER (op:=4) (l:=[⟨s.1,s.2⟩,⟨u.1,u.2⟩]) (.inr rfl) (fun w hw=>by
       simp only[List.mem_cons,List.not_mem_nil,or_false]at hw;rcases hw with rfl|rfl
       . exact s1.1
       . exact u1.1)
      refine⟨z,z1,Goes.of3 s2 u2 z2 fun k q1 q2 q3=>?_⟩;have q2:g45 k 16 [[ic 1,.val (.int .u64 (IntKind.u64.wrap ((l.map vlR).length:Int)))]]=some u:=q2;have q3:g45 k 4 [[ic s.1,.val (.int .u64 s.2)],[ic u.1,.val (.int .u64 u.2)]]=some z:=q3;simp only[qpX,nt,af,zt,aF o31,q1,q2,q3,ae,tup2]
    . refine .fin (v.kind,v.bits) (hc v (aN h0)) fun k=>?_;simp only[qpX,nt,af,zt,aG o31];rw[show(0:Int)=((0:Nat):Int)from rfl,Yi (rwAt h0),qBG]
   . obtain⟨z,z1,z2⟩:=qFL (b:=op==30) h0 hb hc;exact⟨z,z1,Goes.of1 z2 fun k q=>by simp only[qpX,nt,ah,q,ae,tup2]⟩
  by_cases o29:op=29
  . exact(main true 0 0).go (s:=S48.e ..) fun k=>by simp only[qpX,nt,zt,aG o25,aG en,aG o27,aG o28,aF o29]
  . exact(main (op==30) 0 0).go (s:=S48.e ..) fun k=>by simp only[qpX,nt,zt,aG o25,aG en,aG o27,aG o28,aG o29]
end Ab
end Go.Proofs.YtjnefcbeemkkeaaGreat
