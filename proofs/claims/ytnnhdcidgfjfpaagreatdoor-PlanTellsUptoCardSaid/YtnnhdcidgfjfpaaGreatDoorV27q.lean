/-
  The document's planner ends, and what it makes is a plan. No claim stands here.
-/
import Derived.Test.YtnnhdcidgfjfpaaGreatDoorV26q
set_option linter.all false
namespace Go.Proofs.YtnnhdcidgfjfpaaGreatDoor
namespace Ab
abbrev PTy:=Int×Int×List Nx×List Nx
abbrev BTy:=Int×Int×List PTy
def prow (p:PTy):List Cell:=[ic p.1,ic p.2.1,.imm (nrows p.2.2.1),.imm (nrows p.2.2.2)]
def brow (b:BTy):List Cell:=[ic b.1,ic b.2.1,.imm (b.2.2.map prow)]
def NOk (l:List Nx):Prop:=(∀ t∈l,t.Ok)/\l.length<=big
def POk (p:PTy):Prop:=NOk p.2.2.1/\NOk p.2.2.2
def BOk (b:BTy):Prop:=(∀ p∈b.2.2,POk p)/\b.2.2.length<=big
def PD (B:Rs):Prop:=∃ a:List BTy,B=a.map brow/\(∀ b∈a,BOk b)/\a.length<=big
theorem GC.data {c:Nat}{x:Cell}(h:GC c x)(b:c<=big):∃ l:List Nx,immC x=.imm (nrows l)/\NOk l:=by
 rcases h with rfl|⟨X,rfl,us,rfl,a,d⟩
 . exact⟨[],rfl,by simp,by simp⟩
 . exact⟨us,by show Cell.imm (qG (nrows us))=_;rw[qvT],a,by omega⟩
theorem qyq {c:Nat}(b:c<=big):∀ (P:Rs),(∀ row∈P,PRow c row)->∃ a:List PTy,qG P=a.map prow/\(∀ p∈a,POk p)/\a.length=P.length
 |[],_=>⟨[],rfl,by simp,rfl⟩
 |r::P,h=>by
  obtain⟨a,e,d,i⟩:=qyq b P λrow j=>h row (aB _ j);obtain⟨f,t,G,C,rfl,k,l⟩:=h _ (au ..);obtain⟨g,m,n⟩:=k.data b;obtain⟨y,o,q⟩:=l.data b;refine⟨(f,t,g,y)::a,?_,λp hp=>?_,by simp[i]⟩
  . rw[qG,e,List.map_cons];congr 1;show [_,_,immC G,immC C]=_;rw[m,o];rfl
  . rcases List.mem_cons.1 hp with rfl|hp
    . exact⟨n,q⟩
    . exact d p hp
theorem qzo {c:Nat}(f:c<=big):∀ (B:Rs),(∀ row∈B,∃ (id a:Int) (P:Rs),row=[ic id,ic a,.own 4 P]/\P.length<=big/\∀ row∈P,PRow c row)->∃ d:List BTy,qG B=d.map brow/\(∀ b∈d,BOk b)/\d.length=B.length
 |[],_=>⟨[],rfl,by simp,rfl⟩
 |r::B,h=>by
  obtain⟨d,e,i,j⟩:=qzo f B λrow k=>h row (aB _ k);obtain⟨id,a,P,rfl,n,l⟩:=h _ (au ..);obtain⟨g,m,op,o⟩:=qyq f P l;refine⟨(id,a,g)::d,?_,λb hb=>?_,by simp[j]⟩
  . rw[qG,e,List.map_cons];congr 1;show [_,_,Cell.imm (qG P)]=_;rw[m];rfl
  . rcases List.mem_cons.1 hb with rfl|hb
    . exact⟨op,by show g.length<=_;omega⟩
    . exact i b hb
abbrev R17':=Int×Rs×Rs×Int×Int
def Q17 (r:R17'):Prop:=AllK r.2.1/\r.2.1.length<=big/\PD r.2.2.1
theorem Q17.nil {a b c:Int}:Q17 (a,[],[],b,c):=⟨by simp[AllK],Nat.zero_le _,[],rfl,by simp,Nat.zero_le _⟩
theorem apBr {b:Rs}{a c d:Cell}(h:b.length<=big):apOk 40 3 b [[a,c,d]]=true:=by unfold big at h;simp[apOk,lim];omega
def PBn (A:Rs)(n:Int)(B:Rs):Prop:=(B.length:Int)=n/\∀ (i:Nat) row,B[i]? = some row->∃ (id a:Int) (P X:Rs),row=[ic id,ic a,.own 4 P]/\A[i]? = some [.imm X]/\P.length=X.length/\∀ row∈P,PRow 0 row
def J17 (A:Rs)(ts:List Tx)(T S a:Rs)(b c:Int)(e f g i n o:Rs):Prop:=a=A/\b=A.length/\0<=c/\f=T/\g=S/\n=A/\o=trows ts/\PBn A c e/\qvG A i/\i.length<=6000*c.toNat/\(0<c->0<i.length)
def I17 (A:Rs)(ts:List Tx)(T S:Rs):S17->Prop
 |.e ..=>False
 |.h0 ..=>False
 |.h1 ..=>False
 |.h2 a b c _ e f g i _ _ _ n o ..=>J17 A ts T S a b c e f g i n o/\c<=A.length
 |.h3 x y a b c _ e f g i _ _ _ n o ..=>J17 A ts T S a b c e f g i n o/\c<A.length/\x=c/\A[c.toNat]? = some [.imm y]/\AllI y/\y.length<=6000/\0<y.length
 |.h4 _ b c d e _ _ _ n o ..=>J17 A ts T S A A.length A.length b c d e n o
 |.h5 a b _ d e f g i _ _ _ n o ..=>a=ts.length/\0<=b/\b<=ts.length/\AllK d/\d.length<=big/\PB A (λ_=>b.toNat) e/\f=T/\g=S/\qvG A i/\i.length<=big/\n=A/\o=trows ts
 |.h6 x a b _ d e f g i _ _ _ n o ..=>x=b/\a=ts.length/\0<=b/\b<ts.length/\AllK d/\d.length<=big/\PB A (λ_=>b.toNat) e/\f=T/\g=S/\qvG A i/\i.length<=big/\n=A/\o=trows ts
 |.h7 _ _ _ d e=>d=[]/\e=[]
 |.h8 _ _ _ d e=>AllK d/\d.length<=big/\PD e
def m17:S17->Nat
 |.h2 _ b c ..=>100000+2*(b.toNat-c.toNat)+1
 |.h3 _ _ _ b c ..=>100000+2*(b.toNat-c.toNat)
 |.h4 ..=>100000
 |.h5 a b ..=>2*(a.toNat-b.toNat)+1
 |.h6 _ a b ..=>2*(a.toNat-b.toNat)
 |_=>0
theorem qDj {T S A W:Rs}{st Q ka:Int}{key:By}(hs:SC T S)(hq:QB A W key):En Q17 λk=>g17 k T S A W st Q key ka:=by
 obtain⟨p0,p1,p2,p3⟩:=hq;have bye:∀ (a b c d e:Int),En Q17 λk=>itS qjR k (.h0 a b c [] []):=λa b c d e=>.go (by simp only[nt,qjR];exact .ret .nil);have Z:∀ (a b c d e:Int),En Q17 λk=>itS qjR k (.h1 a b c [] []):=λa b c d e=>.go (by simp only[nt,qjR];exact .ret .nil);refine .go ?_;simp only[nt,qjR];refine .call hs λ_ _=>.br (λ_=>bye _ _ _ 0 0) λ_=>.call ⟨p0,p1,p2,p3⟩ λr F=>?_;simp only[tup2];refine .br (λ_=>Z _ _ _ 0 0) λJ=>?_;obtain⟨⟨q1,q2,q3,q4⟩,ts,rfl,q5,q6⟩:=F (by simpa using J);have q7:=qvl ts;have R:∀ (i:Nat) (row:List Cell),A[i]? = some row->∃ X:Rs,row=[.imm X]/\0<X.length:=λi row h=>q4 i row (by have:=(az.1 h).1;omega) h;have h00:Wd A 0 0:=by obtain⟨X,e,hX⟩:=R 0 _ (ax q1);exact⟨Int.le_refl 0,Int.le_refl 0,X,by rw[<- e];exact ax q1,by omega⟩
 refine .loop (I17 A ts T S) m17 (λs h w=>match s,h,w with
 |.h2 a b c d e f g i j l m n o p q t u,⟨⟨G,B,C,D,K,H,L,E,z,M,v⟩,I⟩,w=>by
  simp only[nt,qjR];subst G B D K H L;refine .br (λJ=>?_) λJ=>?_
  . simp only[aW]at J;refine .ixR C J λrow F=>?_;obtain⟨X,rfl,hX⟩:=R _ _ F;obtain⟨X',e,x1,x2⟩:=p0 _ (aM F);simp only[List.cons.injEq,Cell.imm.injEq,and_true]at e;subst e;simp only[qEj];exact w (.h3 ..) ⟨⟨rfl,rfl,C,rfl,rfl,rfl,rfl,E,z,M,v⟩,J,rfl,F,x1,x2,hX⟩ (by simp only[m17];omega)
  . simp only[decide_eq_false_iff_not]at J;obtain rfl:c=(List.length ‹Rs› : Int):=by omega
    exact w (.h4 ..) ⟨rfl,rfl,C,rfl,rfl,rfl,rfl,E,z,M,v⟩ (by simp only[m17];omega)
 |.h3 x y a b c d e f g i j l m n o p q t u,⟨⟨G,B,C,D,K,H,L,E,z,M,v⟩,I,h12,h13,h14,h15,h16⟩,w=>by
  simp only[nt,qjR];subst G B D K H L h12;refine .bind (qCP hs z (by omega) h15 h14 C h13) λr ⟨⟨U,V⟩,r2,O,Y,r5⟩=>?_;simp only[tup8];have hl:=E.1;refine .gd (apBr (by unfold big;omega)) ?_;rw[w1 C (by omega)];refine w (.h2 ..) ⟨⟨rfl,rfl,by omega,r2,O,rfl,rfl,⟨by simp;omega,λk row N=>?_⟩,Y,by omega,λ_=>by omega⟩,by omega⟩ (by simp only[m17];omega);by_cases hlt:k<List.length e
  . rw[aX hlt]at N;exact E.2 k row N
  . rw[aY (by omega)]at N;have hk0:k=x.toNat:=by have:=(az.1 N).1;simp at this;omega
    subst hk0;rw[show x.toNat-List.length e=0 by omega]at N;simp only[aI,aa]at N;subst N;exact⟨_,_,_,_,rfl,h13,U,V⟩
 |.h4 a b c d e f g i n o ..,⟨_,_,C,D,K,H,L,E,z,M,v⟩,w=>by
  simp only[nt,qjR];subst D K H L;have hB:PB n (λ_=>0) b:=⟨by have:=E.1;omega,E.2⟩
  refine .bind (qER ⟨hs,z.is,by unfold big;omega⟩ (v (by omega))) λr F=>?_;cases r with
  |inl r=>obtain⟨U,V,r2,O,Y⟩:=F;show En Q17 _;simp only[altC,tup6];rw[Y,z.is.imm];exact w (.h5 ..) ⟨by rw[ve],Int.le_refl 0,by omega,U,V,hB,r2,O,z,by unfold big;omega,rfl,rfl⟩ (by simp only[m17,ve];omega)
  |inr r=>obtain⟨U,V,r2,O,Y⟩:=F;show En Q17 _;simp only[altC,tup6];rw[Y];exact w (.h5 ..) ⟨by rw[ve],Int.le_refl 0,by omega,U,V,hB,r2,O,z,by unfold big;omega,rfl,rfl⟩ (by simp only[m17,ve];omega)
 |.h5 a b c d e f g i j l m n o ..,⟨G,B,C,D,K,H,L,E,z,M,v,I⟩,w=>by
  simp only[nt,qjR];subst G;refine .br (λJ=>?_) λ_=>.br (λ_=>w (.h7 ..) ⟨rfl,rfl⟩ (by simp only[m17];omega)) λ_=>w (.h8 ..) ⟨?_,?_,?_⟩ (by simp only[m17];omega)
  . simp only[aW]at J;exact w (.h6 ..) ⟨rfl,rfl,B,J,D,K,H,L,E,z,M,v,I⟩ (by simp only[m17];omega)
  . rw[D.imm];exact D
  . rw[D.imm];exact K
  . obtain⟨bs,e1,e2,e3⟩:=qzo (c:=b.toNat) (by unfold big;omega) e λrow hm=>by obtain⟨k,N⟩:=List.getElem?_of_mem hm;obtain⟨id,Q,P,X,w1',w2,w3,w4⟩:=H.2 k row N;obtain⟨X',w5,w6,w7⟩:=p0 _ (aM w2);simp only[List.cons.injEq,Cell.imm.injEq,and_true]at w5;subst w5;exact⟨id,Q,P,w1',by unfold big;omega,w4⟩
    exact⟨bs,e1,e2,by have:=H.1;unfold big;omega⟩
 |.h6 x a b c d e f g i j l m n o ..,⟨h00',G,B,C,D,K,H,L,E,z,M,v,I⟩,w=>by simp only[nt,qjR];subst h00' G L E v I;refine .ixR B (by rw[ve];exact C) λrow F=>?_;rw[qvk]at F;obtain⟨t,ht,rfl⟩:=aG.1 F;have hc:=qvh (aM ht);obtain⟨o1,n1,s1,p1',m1,a1,xs⟩:=t;simp only[Tx.cnt]at hc;simp only[qzz];refine .bind (qEE hs z M h00 R (by omega) p1 (by omega) H) λr ⟨U,V,r2,O,Y⟩=>?_;simp only[tup7];rw[w1 B (by omega)];exact w (.h5 ..) ⟨rfl,by omega,by omega,by rw[O];exact D,by rw[O];exact K,by rw[show(x+1).toNat=x.toNat+1 by omega];exact Y,U,V,by rw[r2];exact z,by rw[r2];exact M,rfl,rfl⟩ (by simp only[m17];omega)
 |.h7 ..,⟨G,B⟩,w=>by simp only[nt,qjR];subst G B;exact .ret .nil
 |.h8 ..,⟨G,B,C⟩,w=>by simp only[nt,qjR];exact .ret ⟨G,B,C⟩) _ ⟨⟨rfl,rfl,Int.le_refl 0,rfl,rfl,rfl,rfl,⟨rfl,λi row h=>by simp at h⟩,by simp[qvG],by simp,λh=>by omega⟩,by omega⟩
end Ab
end Go.Proofs.YtnnhdcidgfjfpaaGreatDoor
