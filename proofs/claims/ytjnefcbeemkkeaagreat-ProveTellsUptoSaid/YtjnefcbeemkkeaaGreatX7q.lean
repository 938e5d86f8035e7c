/-
  The document's operators of values end: whole numbers, comparisons, what decides, all of them. No claim stands here.
-/
import Derived.Test.YtjnefcbeemkkeaaGreatX6q
set_option linter.all false
namespace Go.Proofs.YtjnefcbeemkkeaaGreat
namespace Ab
variable [Glob]
def truth (b:Bool):Int×Int:=(2,if b then 1 else 0)
theorem qEJ (a:Bool):Tot (fun k=>g126 k a) (truth a):=Goes.fin (s:=S126.e ..) fun k=>by cases a<;>rfl
theorem qFo {a b c d:Int}(hb:U64 b)(hd:U64 d):Has (fun k=>g127 k a b c d) fun _=>True:=by
 have h1:∀ x y,Ends qEE (.h1 x y) fun _=>True:=fun x y=>by
  by_cases p:x<y
  . exact .fin (-1) trivial fun k=>by simp only[qEE,nt,xe,aF p]
  . by_cases q:x>y
    . exact .fin 1 trivial fun k=>by simp only[qEE,nt,xe,aG p,aF q]
    . exact .fin 0 trivial fun k=>by simp only[qEE,nt,xe,aG p,aG q]
 have h0:∀ x j l f g,U64 l->U64 g->Ends qEE (.h0 x j l f g) fun _=>True:=fun x j l f g hl hg=>by
  cases x
  . cases hx:(f != j)with
    |true=>exact(h1 f j).go fun k=>by simp only[qEE,nt,af,hx,ah]
    |false=>exact(h1 (IntKind.i64.wrap g) (IntKind.i64.wrap l)).go fun k=>by simp only[qEE,nt,af,hx]
  . obtain⟨v,_,hv⟩:=qEV hg hl;exact⟨v,trivial,Goes.of1 hv fun k q=>by simp only[qEE,nt,ah,q,ae]⟩
 have c1:=qE3 (x:=⟨a,b⟩) hb;have c2:=qE3 (x:=⟨c,d⟩) hd;cases hx:((clB ⟨a,b⟩).1==4)with
 |true=>obtain⟨r,_,hr⟩:=h0 ((clB ⟨c,d⟩).1==4) (clB ⟨c,d⟩).1 (clB ⟨c,d⟩).2 (clB ⟨a,b⟩).1 (clB ⟨a,b⟩).2 c2.1 c1.1;exact⟨r,trivial,Goes.of3 (s:=S127.e ..) (zK ⟨a,b⟩ hb.1 hb.2) (zK ⟨c,d⟩ hd.1 hd.2) hr fun k q1 q2 q3=>by simp only[qEE,nt,q1,q2,ae,tup2,hx,ah];exact q3⟩
 |false=>obtain⟨r,_,hr⟩:=h0 false (clB ⟨c,d⟩).1 (clB ⟨c,d⟩).2 (clB ⟨a,b⟩).1 (clB ⟨a,b⟩).2 c2.1 c1.1;exact⟨r,trivial,Goes.of3 (s:=S127.e ..) (zK ⟨a,b⟩ hb.1 hb.2) (zK ⟨c,d⟩ hd.1 hd.2) hr fun k q1 q2 q3=>by simp only[qEE,nt,q1,q2,ae,tup2,hx,af];exact q3⟩
theorem qFH {op a b c d:Int}(hb:U64 b)(hd:U64 d):Has (fun k=>g78 k op a b c d) Cl:=by
 have h1:∀ l e m x y,Ends qEQ (.h1 op l e m x y) Cl:=fun l e m x y=>by refine⟨truth (if op=7 then e else if op=8 then !e else if op=9 then l else if op=10 then l||e else if op=11 then m else if op=12 then m||e else false),cl2 _,Goes.of2 (qEJ true) (qEJ false) fun k q1 q2=>?_⟩;cases l<;>cases e<;>cases m<;>simp only[qEQ,zt,ah,af,aj,Bool.not_false,q1,q2,ae,tup2]<;>(repeat' split)<;>rfl
 have h0:∀ l e m f x y u v,Ends qEQ (.h0 op l e m f x y u d v b) Cl:=fun l e m f x y u v=>by
  cases f
  . exact(h1 l e m x y).go fun k=>rfl
  . obtain⟨p,_,hp⟩:=qE4 hb hd;obtain⟨q,_,hq⟩:=qE5 hb hd;obtain⟨r,_,hr⟩:=qE4 hd hb;obtain⟨z,hz1,hz2⟩:=h1 p q r x y;refine⟨z,hz1,Goes.alw (hp.and (hq.and (hr.and hz2))) fun k e=>?_⟩;obtain⟨e1,e2,e3,e4⟩:=e;simp only[qEQ,ah,e1,e2,e3,ae];exact e4
 obtain⟨f,_,hf⟩:=qFo (a:=a) (c:=c) hb hd;cases hx:decide (f<0)with
 |true=>obtain⟨z,hz1,hz2⟩:=h0 true (a==c&&(b==d&&true)) false (a==4) 0 0 c a;exact⟨z,hz1,Goes.of2 (s:=S78.e ..) hf hz2 fun k q1 q2=>by simp only[qEQ,q1,ae,hx,aj,af];exact q2⟩
 |false=>obtain⟨z,hz1,hz2⟩:=h0 false (a==c&&(b==d&&true)) (!(a==c&&(b==d&&true))) (a==4) 0 0 c a;exact⟨z,hz1,Goes.of2 (s:=S78.e ..) hf hz2 fun k q1 q2=>by simp only[qEQ,q1,ae,hx,Bool.not_false,ah];exact q2⟩
theorem qFG (a b c d:Int)(e:Bool):Has (fun k=>g77 k a b c d e) Cl:=by
 have h1:∀ x y z,Ends qEM (.h1 e x y z) Cl:=fun x y z=>by
  cases x
  . exact⟨truth (!e),cl2 _,Goes.of1 (qEJ (!e)) fun k q=>by simp only[qEM,nt,af,q,ae,tup2,truth]⟩
  . exact .fin (0,0) cl0 fun k=>rfl
 have h0:∀ x y z u v w t,Ends qEM (.h0 e x y z u v w t) Cl:=fun x y z u v w t=>by
  cases x
  . cases hx:(w != 2)with
    |true=>exact(h1 true y z).go fun k=>by simp only[qEM,nt,af,hx,ah]
    |false=>exact(h1 (u != 2) y z).go fun k=>by simp only[qEM,nt,af,hx]
  . exact⟨truth e,cl2 _,Goes.of1 (qEJ e) fun k q=>by simp only[qEM,nt,ah,q,ae,tup2,truth]⟩
 cases hx:(a==(truth e).1&&(b==(truth e).2&&true))with
 |true=>obtain⟨z,hz1,hz2⟩:=h0 true 0 0 c d a b;exact⟨z,hz1,Goes.of2 (s:=S77.e ..) (qEJ e) hz2 fun k q1 q2=>by simp only[qEM,nt,q1,ae,tup2,hx,ah];exact q2⟩
 |false=>obtain⟨z,hz1,hz2⟩:=h0 (c==(truth e).1&&(d==(truth e).2&&true)) 0 0 c d a b;exact⟨z,hz1,Goes.of2 (s:=S77.e ..) (qEJ e) hz2 fun k q1 q2=>by simp only[qEM,nt,q1,ae,tup2,hx,af];exact q2⟩
theorem qFr (a b:Int):Has (fun k=>g134 k a b) fun _=>True:=by
 have h0:∀ c,(c=false->b≠0)->Ends qEH (.h0 a b c) fun _=>True:=fun c hc=>by
  cases c
  .
   have hb:=hc rfl;cases h1:(a == -1)with
   |true=>exact .fin _ trivial fun k=>by simp only[qEH,nt,af,h1,ah];rfl
   |false=>
    cases h2:(b == -1)with
    |true=>exact .fin _ trivial fun k=>by simp only[qEH,nt,af,h1,h2,ah];rfl
    |false=>
     cases h3:((IntKind.i64.wrap (Int.tdiv (IntKind.i64.wrap (a*b)) b))==a)with
     |false=>exact .fin _ trivial fun k=>by simp only[qEH,nt,af,h1,h2,h3,aQ hb,gd,ah];rfl
     |true=>
      cases h4:((IntKind.i64.wrap (a*b))!=(-9223372036854775808))with
      |true=>exact .fin _ trivial fun k=>by simp only[qEH,nt,af,h1,h2,h3,h4,aQ hb,gd,ah];rfl
      |false=>exact .fin _ trivial fun k=>by simp only[qEH,nt,af,h1,h2,h3,h4,aQ hb,gd,ah];rfl
  . exact .fin _ trivial fun k=>rfl
 cases hx:(a==0)with
 |true=>exact(h0 true (fun h=>by cases h)).go (s:=S134.e ..) fun k=>by simp only[qEH,nt,hx,ah]
 |false=>exact(h0 (b==0) (fun h=>by simpa using h)).go (s:=S134.e ..) fun k=>by simp only[qEH,nt,hx,af]
theorem qFJ {op a b:Int}(h0' : -9223372036854775808<=a)(h1':a<9223372036854775808):Has (fun k=>g80 k op a b) Cl:=by
 have h1:∀ s x y z,Ends qq5 (.h1 s x y z) Cl:=fun s x y z=>by
  cases x
  . exact .fin (0,0) cl0 fun k=>rfl
  . exact .fin (1,IntKind.u64.wrap s) (cl1 (qFi s)) fun k=>rfl
 have h2:∀ a b c d e f g,(e=true->b≠0)->Ends qq5 (.h2 a b c d e f g) Cl:=fun a b c d e f g he=>by
  cases e
  . exact(h1 c d f g).go fun k=>rfl
  . exact(h1 (IntKind.i64.wrap (Int.tdiv a b)) d f g).go fun k=>by simp only[qq5,nt,ah,aQ (he rfl),gd]
 have h3:∀ a b c d e f g,(e=true->b≠0)->Ends qq5 (.h3 a b c d e f g) Cl:=fun a b c d e f g he=>by
  cases e
  . exact(h1 c d f g).go fun k=>rfl
  . exact(h1 (Int.tmod a b) d f g).go fun k=>by simp only[qq5,nt,ah,aQ (he rfl),gd]
 have h0:∀ op a b x y,Ends qq5 (.h0 op a b x y) Cl:=fun op a b x y=>by
  by_cases o1:op=1
  .
   by_cases c1:b>=0
   .
    by_cases c2:a<=IntKind.i64.wrap ((9223372036854775807:Int)-b)
    . exact(h1 _ true x y).go fun k=>by simp only[qq5,nt,zt,xe,aF o1,aF c1,aF c2];rfl
    . by_cases c3:b<0
      . exact(h1 _ _ x y).go fun k=>by simp only[qq5,nt,zt,xe,aF o1,aF c1,aG c2,aF c3];rfl
      . exact(h1 _ false x y).go fun k=>by simp only[qq5,nt,zt,xe,aF o1,aF c1,aG c2,aG c3];rfl
   . by_cases c3:b<0
     . exact(h1 _ _ x y).go fun k=>by simp only[qq5,nt,zt,xe,aF o1,aG c1,aF c3];rfl
     . exact(h1 _ false x y).go fun k=>by simp only[qq5,nt,zt,xe,aF o1,aG c1,aG c3];rfl
  by_cases o2:op=2
  .
   by_cases c1:b>=0
   .
    by_cases c2:a>=IntKind.i64.wrap (((-9223372036854775808):Int)+b)
    . exact(h1 _ true x y).go fun k=>by simp only[qq5,nt,zt,xe,aG o1,aF o2,aF c1,aF c2];rfl
    . by_cases c3:b<0
      . exact(h1 _ _ x y).go fun k=>by simp only[qq5,nt,zt,xe,aG o1,aF o2,aF c1,aG c2,aF c3];rfl
      . exact(h1 _ false x y).go fun k=>by simp only[qq5,nt,zt,xe,aG o1,aF o2,aF c1,aG c2,aG c3];rfl
   . by_cases c3:b<0
     . exact(h1 _ _ x y).go fun k=>by simp only[qq5,nt,zt,xe,aG o1,aF o2,aG c1,aF c3];rfl
     . exact(h1 _ false x y).go fun k=>by simp only[qq5,nt,zt,xe,aG o1,aF o2,aG c1,aG c3];rfl
  by_cases o3:op=3
  . obtain⟨v,_,hv⟩:=qFr a b;obtain⟨z,hz1,hz2⟩:=h1 v.1 v.2 x y;exact⟨z,hz1,Goes.of2 hv hz2 fun k q1 q2=>by simp only[qq5,nt,zt,aG o1,aG o2,aF o3,q1,ae,tup2];exact q2⟩
  by_cases o4:op=4
  .
   by_cases c1:b=0
   . exact(h2 a b 0 false false x y (fun h=>by cases h)).go fun k=>by simp only[qq5,nt,zt,qvM,aG o1,aG o2,aG o3,aF o4,aF c1]
   . by_cases c2:b = -1
     . exact(h2 a b 0 _ _ x y (fun _=>c1)).go fun k=>by simp only[qq5,nt,zt,qvM,aG o1,aG o2,aG o3,aF o4,aG c1,aF c2];rfl
     . exact(h2 a b 0 true true x y (fun _=>c1)).go fun k=>by simp only[qq5,nt,zt,qvM,aG o1,aG o2,aG o3,aF o4,aG c1,aG c2]
  by_cases o5:op=5
  . by_cases c1:b=0
    . exact(h3 a b 0 false false x y (fun h=>by cases h)).go fun k=>by simp only[qq5,nt,zt,qvM,aG o1,aG o2,aG o3,aG o4,aF o5,aF c1]
    . exact(h3 a b 0 true _ x y (fun _=>c1)).go fun k=>by simp only[qq5,nt,zt,qvM,aG o1,aG o2,aG o3,aG o4,aF o5,aG c1];rfl
  . exact(h1 0 false x y).go fun k=>by simp only[qq5,nt,zt,qvM,aG o1,aG o2,aG o3,aG o4,aG o5]
 by_cases o15:op=15
 . exact⟨truth (a==0),cl2 _,Goes.of1 (s:=S80.e ..) (qEJ (a==0)) fun k q=>by simp only[qq5,nt,zt,aF o15,q,ae,tup2,truth]⟩
 by_cases o16:op=16
 . obtain⟨v,⟨hv1,hv2⟩,hv⟩:=qFq h0' h1';exact⟨(4,v),cl4 hv1 hv2,Goes.of1 (s:=S80.e ..) hv fun k q=>by simp only[qq5,nt,zt,aG o15,aF o16,q,ae]⟩
 by_cases o6:op=6
 . exact(h0 2 0 a 0 0).go (s:=S80.e ..) fun k=>by simp only[qq5,nt,zt,aG o15,aG o16,aF o6]
 . exact(h0 op a b 0 0).go (s:=S80.e ..) fun k=>by simp only[qq5,nt,zt,aG o15,aG o16,aG o6]
theorem qFI {op a b:Int}(ha:U64 a)(hb:U64 b):Has (fun k=>g79 k op a b) Cl:=by
 by_cases o6:op=6
 . obtain⟨v,⟨hv1,hv2⟩,hv⟩:=qFp ha;exact⟨(4,v),cl4 hv1 hv2,Goes.of1 (s:=S79.e ..) hv fun k q=>by simp only[qE6,nt,zt,aF o6,q,ae]⟩
 by_cases o17:op=17
 . exact⟨truth (decide (a % 9223372036854775808>9218868437227405312)),cl2 _,Goes.of2 (s:=S79.e ..) (qCg ha.1 ha.2) (qEJ (decide (a % 9223372036854775808>9218868437227405312))) fun k q1 q2=>by simp only[qE6,nt,zt,aG o6,aF o17,q1,q2,ae,tup2,truth]⟩
 . exact⟨(4,doF op a b),cl4 (qFy _ _ _).1 (qFy _ _ _).2,Goes.of1 (s:=S79.e ..) (qF0 (op:=op) ha hb) fun k q=>by simp only[qE6,nt,zt,aG o6,aG o17,q,ae]⟩
def clv (x:Vl):Vl:=⟨(clB x).1,(clB x).2⟩
theorem qER {op:Int}{l:List Vl}(hl:l.length=1\/l.length=2)(hb:∀ v∈l,U64 v.bits):Has (fun k=>g45 k op (l.map vlR)) Cl:=by
 have hc:∀ v∈l.map clv,U64 v.bits:=by intro v hv;rw[List.mem_map]at hv;obtain⟨x,hx,rfl⟩:=hv;exact(qE3 (hb x hx)).1
 have hlen:(l.map clv).length=l.length:=List.length_map ..;obtain⟨M,hM⟩:∃ M,M=l.map clv:=⟨_,rfl⟩
 rw[<- hM]at hc hlen;obtain⟨f,hf⟩:∃ f,M[0]? = some f:=⟨_,ax (by omega)⟩
 obtain⟨t,ht⟩:∃ t,M[M.length-1]? = some t:=⟨_,ax (by omega)⟩
 have bf:=hc f (aN hf);have bt:=hc t (aN ht);have h2:∀ c e g,Ends qED (.h2 op c t.kind t.bits f.kind f.bits e g) Cl:=fun c e g=>by
  cases c
  . by_cases k4:f.kind=4
    . obtain⟨v,hv1,hv⟩:=qFI (op:=op) bf bt;exact⟨v,hv1,Goes.of1 hv fun k q=>by simp only[qED,nt,af,zt,aF k4,q,ae,tup2]⟩
    . obtain⟨v,hv1,hv⟩:=qFJ (op:=op) (a:=IntKind.i64.wrap f.bits) (b:=IntKind.i64.wrap t.bits) (qFS _).1 (qFS _).2;exact⟨v,hv1,Goes.of1 hv fun k q=>by simp only[qED,nt,af,zt,aG k4,q,ae,tup2]⟩
  . obtain⟨v,hv1,hv⟩:=qFH (op:=op) (a:=f.kind) (c:=t.kind) bf bt;exact⟨v,hv1,Goes.of1 hv fun k q=>by simp only[qED,nt,ah,q,ae,tup2]⟩
 have hk:qG ((M.map (·.kind)).map oneR)=(M.map (·.kind)).map oneR:=qxS _;have h1:∀ c e g,(c=true->l.length=2)->Ends qED (.h1 op (M.map vlR) ((M.map (·.kind)).map oneR) c e g) Cl:=fun c e g hcl=>by
  cases c
  .
   by_cases hz:resF op (M.map (·.kind))=0
   . refine⟨(0,0),cl0,Goes.of1 (qtx op (M.map (·.kind)) (by simpa [hlen]using hl)) fun k q=>?_⟩;simp only[qED,nt,af,hk,q,ae,zt,aF hz]
   . have hw:IntKind.i64.wrap (((M.map vlR).length:Int)-1)=((M.length-1:Nat):Int):=by rw[List.length_map,wrapN (by omega) (by omega)];omega
     by_cases o7:op>=7
     . obtain⟨v,hv1,hv⟩:=h2 (decide (op<=12)) e g;refine⟨v,hv1,Goes.of2 (qtx op (M.map (·.kind)) (by simpa [hlen]using hl)) hv fun k q q2=>?_⟩;simp only[qED,nt,af,hk,q,ae,zt,aG hz,hw];rw[show(0:Int)=((0:Nat):Int)from rfl,Yi (rwAt hf),qBG,Yi (rwAt ht),qBG,xe,aF o7];exact q2
     . obtain⟨v,hv1,hv⟩:=h2 false e g;refine⟨v,hv1,Goes.of2 (qtx op (M.map (·.kind)) (by simpa [hlen]using hl)) hv fun k q q2=>?_⟩;simp only[qED,nt,af,hk,q,ae,zt,aG hz,hw];rw[show(0:Int)=((0:Nat):Int)from rfl,Yi (rwAt hf),qBG,Yi (rwAt ht),qBG,xe,aG o7];exact q2
  . have h2l:=hcl rfl;have ht1:M[1]? = some t:=by rw[<- ht];congr 1;omega
    obtain⟨v,hv1,hv⟩:=qFG f.kind f.bits t.kind t.bits (op==14);refine⟨v,hv1,Goes.of1 hv fun k q=>?_⟩;simp only[qED,nt,ah];rw[show(0:Int)=((0:Nat):Int)from rfl,Yi (rwAt hf),qBG,show(1:Int)=((1:Nat):Int)from rfl,Yi (rwAt ht1),qBG,q];rfl
 have hend:Ends qED (.h0 op (M.map vlR) ((M.map (·.kind)).map oneR) (l.map vlR) (l.length:Int) (l.length:Int) 0 0) Cl:=by
  by_cases h2l:l.length=2
  .
   have e:(((M.map vlR).length:Int)==2)=true:=by rw[List.length_map,hlen,h2l];rfl
   by_cases o13:op=13
   . exact(h1 true 0 0 (fun _=>h2l)).go fun k=>by simp only[qED,nt,xe,aG (show ¬ ((l.length:Int)<(l.length:Int))by omega),e,ah,zt,aF o13]
   . exact(h1 (op==14) 0 0 (fun _=>h2l)).go fun k=>by simp only[qED,nt,xe,aG (show ¬ ((l.length:Int)<(l.length:Int))by omega),e,ah,zt,aG o13]
  . have e:(((M.map vlR).length:Int)==2)=false:=by rw[List.length_map,hlen,qxO,aO];omega
    exact(h1 false 0 0 (fun h=>by cases h)).go fun k=>by simp only[qED,nt,xe,aG (show ¬ ((l.length:Int)<(l.length:Int))by omega),e,af]
 have loop:∀ (m i:Nat),i+m=l.length->Ends qED (.h0 op ((M.take i).map vlR) (((M.take i).map (·.kind)).map oneR) (l.map vlR) (l.length:Int) (i:Int) 0 0) Cl:=by
  intro m
  induction m with
  |zero=>intro i hi;rw[List.take_of_length_le (by omega),show i=l.length by omega];exact hend
  |succ m ih=>
   intro i hi;have hlt:i<l.length:=by omega
   have hx:l[i]? = some l[i]:=ax hlt;have hMi:M[i]'(by omega)=clv l[i]:=by subst hM;simp
   obtain⟨v,hv1,hv⟩:=ih (i+1) (by omega);rw[List.take_succ_eq_append_getElem (by omega),List.map_append,List.map_append,List.map_append,hMi]at hv;have hbi:=hb _ (List.getElem_mem hlt);refine⟨v,hv1,Goes.of2 (zK l[i] hbi.1 hbi.2) hv fun k q q2=>?_⟩;simp only[qED,nt,xe];rw[aF (by omega),Yi (rwAt hx),qBG,q];simp only[ae,tup2];have o1:apOk 16 2 ((M.take i).map vlR) [[ic (clB l[i]).1,.val (.int .u64 (clB l[i]).2)]]=true:=by simp[apOk,lim];omega
   have o2:apOk 8 1 (((M.take i).map (·.kind)).map oneR) [[ic (clB l[i]).1]]=true:=by simp[apOk,lim];omega
   rw[o1,o2,zq (by omega)];exact q2
 exact(loop l.length 0 (by omega)).go (s:=S45.e ..) fun k=>by simp only[qED,nt,List.length_map];rfl
end Ab
end Go.Proofs.YtjnefcbeemkkeaaGreat
