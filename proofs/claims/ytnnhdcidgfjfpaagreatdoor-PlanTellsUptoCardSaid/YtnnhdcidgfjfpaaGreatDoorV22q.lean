/-
  The document's printer of queries ends: the whole. No claim stands here.
-/
import Derived.Test.YtnnhdcidgfjfpaaGreatDoorV21q
set_option linter.all false
namespace Go.Proofs.YtnnhdcidgfjfpaaGreatDoor
namespace Ab
theorem qy7 {ts:List Tx}{i:Nat}{t:Tx}(h:ts[i]? = some t):cnts (ts.drop i)=t.cnt+cnts (ts.drop (i+1)):=by obtain⟨a,b⟩:=az.1 h;rw[List.drop_eq_getElem_cons a,b,cnts]
def I38 (A:Rs)(ts:List Tx)(h:Int)(key:By):S38->Prop
 |.e ..=>False
 |.h0 a b c d e f g=>b=A/\c=trows ts/\d=h/\f=key/\(a=false->A.length<=4)
 |.h1 a b c d e f g i j l=>b=A/\c=A.length/\0<=d/\d<=A.length/\e=A/\f=trows ts/\g=h/\j=key/\A.length<=4/\(a.size:Int)<=8+80003*d
 |.h2 a b c d e f g i j l m=>c=A/\d=A.length/\0<=e/\e<A.length/\f=A/\g=trows ts/\i=h/\l=key/\A.length<=4/\(a.size:Int)<=11+80003*e/\AllI b/\b.length<=8
 |.h3 a b c d e f g i j l=>c=ts.length/\0<=d/\d<=ts.length/\f=trows ts/\g=h/\j=key/\a.size+9200*cnts (ts.drop d.toNat)<=184609200
 |.h4 a b c d e f g i j l m n o p=>f=ts.length/\g=c/\0<=c/\c<ts.length/\l=trows ts/\m=h/\o=key/\∃ t,ts[c.toNat]? = some t/\a.size+9200*(t.cnt+cnts (ts.drop (c.toNat+1)))<=184609200/\d.size<=9000*t.cnt
 |.h6 a b c d e f g i j l m n o=>f=ts.length/\g=c/\0<=c/\c<ts.length/\j=trows ts/\l=h/\n=key/\∃ t,ts[c.toNat]? = some t/\a.size+9200*(t.cnt+cnts (ts.drop (c.toNat+1)))<=184609200/\d.size<=9000*t.cnt+2
 |.h5 ..=>True
def m38:S38->Nat
 |.e ..=>0
 |.h0 ..=>1000000000
 |.h1 _ _ c d ..=>100000000+2*(c.toNat-d.toNat)+1
 |.h2 _ _ _ d e ..=>100000000+2*(d.toNat-e.toNat)
 |.h3 _ _ c d ..=>1000000+3*(c.toNat-d.toNat)+2
 |.h4 _ _ _ _ _ f g ..=>1000000+3*(f.toNat-g.toNat)+1
 |.h6 _ _ _ _ _ f g ..=>1000000+3*(f.toNat-g.toNat)
 |.h5 ..=>0
instance {a b:Rs} {c d:Int} {e:By} {f:Int}:Ends (λk=>g38 k a b c d e f) (AllB a/\a.length<=6000/\AllX b 20001/\e.size<=4000) λ(r:By×Int)=>r.2=0->RQ a b c:=⟨λ⟨p0,K,p2,p3⟩=>by
 refine .go ?_;simp only[nt,qpb];refine .call ⟨p0,K,p2⟩ λr A=>.br (λ_=>.ret λh=>by cases h) λE=>?_;have V:=A (by simpa using E);obtain⟨⟨q1,q2,q3,_⟩,ts,rfl,q5,q6⟩:=V;have V:=A (by simpa using E);have q7:=qvl ts;have M:∀ s,I38 a ts c e s->En (λ_=>True) λk=>itS qpb k s:=.loop (I38 a ts c e) m38 (λs h q=>match s,h,q with
 |.h0 x y z u v w g,⟨F,B,D,I,C⟩,q=>by simp only[nt,qpb];subst F B D I;refine .br (λ_=>.ret trivial) λhx=>q (.h1 ..) ⟨rfl,rfl,Int.le_refl 0,by omega,rfl,rfl,rfl,rfl,C hx,by simp[quY]⟩ ?_;have:=C hx;simp only[m38];omega
 |.h1 x y z d u v g i j l,⟨F,B,D,I,C,H,G,L,J,W⟩,q=>by
  simp only[nt,qpb];subst F B H G L;refine .br (λE=>?_) λ_=>q (.h3 ..) ⟨by rw[ve],Int.le_refl 0,by omega,rfl,rfl,rfl,by simp;omega⟩ (by simp only[m38,ve];omega);simp only[aW]at E;refine .ixR D E λrow A=>?_;obtain⟨X,rfl,N,hx2⟩:=p0 _ (aM A);simp only[qEj];refine .br (λ_=>.ret trivial) λY=>?_;simp only[decide_eq_false_iff_not]at Y;refine .br (λ_=>.gd ?_ ?_) λ_=>q (.h2 ..) ⟨rfl,rfl,D,E,C,rfl,rfl,rfl,J,by omega,N,by omega⟩ (by simp only[m38];omega)
  . simp only[aW,quY,List.length_cons,List.length_nil];omega
  . exact q (.h2 ..) ⟨rfl,rfl,D,E,C,rfl,rfl,rfl,J,by simp only[ByteArray.size_append,quY,List.length_cons,List.length_nil];omega,N,by omega⟩ (by simp only[m38];omega)
 |.h2 x y z d u f g i j l m,⟨F,B,D,I,C,H,G,L,J,W,Z,h11⟩,q=>by simp only[nt,qpb];refine .call ⟨Z,h11⟩ λr A=>.gd (aO (by omega)) ?_;rw[w1 D (by omega)];exact q (.h1 ..) ⟨F,B,by omega,by omega,C,H,G,L,J,by rw[ByteArray.size_append];omega⟩ (by simp only[m38];omega)
 |.h3 x y z d u v g i j l,⟨F,B,D,I,C,H,G⟩,q=>by
  simp only[nt,qpb];subst F I C H;refine .br (λE=>?_) λ_=>?_
  . simp only[aW]at E;refine .ixR B (by rw[ve];exact E) λrow A=>?_;rw[qvk]at A;obtain⟨t,U,rfl⟩:=aG.1 A;have hm:=aM U;have hc:=qvh hm;rw[qy7 U]at G;have tx:∀ O P Q K R S xs,t=.mk O P Q K R S xs->En (λ(r:By×Int)=>r.1.size<=9000*t.cnt) λk=>itS qrC k (.e O (trows xs) P Q R S K):=λO P Q K R S xs e=>by subst e;simp only[Tx.cnt]at hc |-;exact qFF 20002 O P Q K R S xs (by omega) (by omega) (q5 _ hm).1 (q5 _ hm).2
    cases t with
    |mk O P Q K R S xs=>simp only[qzz];refine .bind (tx _ _ _ _ _ _ _ rfl) λr A=>?_;simp only[tup2];exact .br (λ_=>q (.h4 ..) ⟨rfl,rfl,B,E,rfl,rfl,rfl,_,U,G,A⟩ (by simp only[m38];omega)) λ_=>q (.h4 ..) ⟨rfl,rfl,B,E,rfl,rfl,rfl,_,U,G,A⟩ (by simp only[m38];omega)
  .
   rw[qes (x:=g-1) (by omega)];have hS:AllS [[sc (strB [83,84,82,73,67,84])],[sc (strB [78,69,88,84])],[sc (strB [65,78,89])]]:=by simp[AllS,sc,quY]
   refine .ixR (by omega) (by simp;omega) λrow A=>?_;obtain⟨s,rfl,hs⟩:=hS.at A;simp only[qwu];refine .gd ?_ (.gd ?_ (.call trivial λr A=>.gd ?_ (.gd ?_ (.br (λ_=>.gd ?_ (.gd ?_ ?_)) λ_=>?_))))
   any_goals (simp only[aW,ByteArray.size_append,quY,List.length_cons,List.length_nil];omega)
   all_goals exact q (.h5 ..) trivial (by simp only[m38];omega)
 |.h4 x y z d u f g i j l m n o p,⟨F,B,D,I,C,H,G,t,L,J,W⟩,q=>by
  simp only[nt,qpb];refine .br (λ_=>.gd ?_ (.gd ?_ ?_)) λ_=>q (.h6 ..) ⟨F,B,D,I,C,H,G,t,L,J,by omega⟩ (by simp only[m38];omega)
  any_goals (simp only[aW,ByteArray.size_append,quY,List.length_cons,List.length_nil];omega)
  exact q (.h6 ..) ⟨F,B,D,I,C,H,G,t,L,J,by simp only[ByteArray.size_append,quY,List.length_cons,List.length_nil];omega⟩ (by simp only[m38];omega)
 |.h5 x y,_,q=>by simp only[nt,qpb];exact .br (λ_=>.ret trivial) λ_=>.br (λ_=>.ret trivial) λ_=>.ret trivial
 |.h6 x y z d u f g i j l m n o,⟨F,B,D,I,C,H,G,t,L,J,W⟩,q=>by
  simp only[nt,qpb];have hS:AllS [[sc (strB [32,87,72,69,82,69,32])],[sc (strB [32,65,78,68,32])]]:=by simp[AllS,sc,quY]
  have hi:0<=(if (1:Int)<z then 1 else z)/\(if (1:Int)<z then 1 else z)<2:=by split<;>omega
  have hp:=qzJ t;refine .ixR hi.1 hi.2 λrow A=>?_;obtain⟨s,rfl,hs⟩:=hS.at A;simp only[qwu];refine .gd ?_ (.gd ?_ ?_)
  any_goals (simp only[aW,ByteArray.size_append,quY,List.length_cons,List.length_nil];omega)
  subst B;rw[w1 D (by omega)];exact q (.h3 ..) ⟨F,by omega,by omega,C,H,G,by rw[show(g+1).toNat=g.toNat+1 by omega];simp only[ByteArray.size_append];omega⟩ (by simp only[m38];omega))
 have T:∀ {s},I38 a ts c e s->En (λ(r:By×Int)=>r.2=0->RQ a (trows ts) c) λk=>itS qpb k s:=λh=>(M _ h).mono λ_ _ _=>V;refine .br (λ_=>T (s:=.h0 ..) ⟨rfl,rfl,rfl,rfl,λh=>by cases h⟩) λY=>?_;simp only[decide_eq_false_iff_not]at Y;exact .call p2 λ_ _=>T (s:=.h0 ..) ⟨rfl,rfl,rfl,rfl,λ_=>by omega⟩⟩
end Ab
end Go.Proofs.YtnnhdcidgfjfpaaGreatDoor
