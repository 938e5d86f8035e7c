/-
  The document's parser of queries: a condition's expression, its operands, their nodes. No claim stands here.
-/
import Derived.Test.YtnnhdcidgfjfpaaGreatDoorV11q
set_option linter.all false
namespace Go.Proofs.YtnnhdcidgfjfpaaGreatDoor
namespace Ab
theorem PI.cut {L:Rs}{i op:Int}{X:Rs}{c a:By}{d:Rs}{j:Int}(h:PI L i op X c a d j)(l:0<=i):GI op X 20001/\c.size<=4000/\a.size<=4000/\Aft L i L j:=by obtain⟨b,f,g,k⟩:=h;have e:=b.1;subst e;exact⟨f.mono (by have:=b.lt;have:=b.le;omega),g,k,b⟩
def I48 (L:Rs)(i:Int):S48->Prop
 |.e a b=>a=L/\b=i
 |.h0 a b c ..=>a=L/\b=i/\c=false
 |.h1 _ _ c ..=>c≠0
 |.h2 a b c d e f g h j l m n ..=>(a=true->n≠0)/\PX L i b c f g j l
 |.h3 a b c d e f g h j l m n ..=>(a=true->n≠0)/\PI L i b c f g j l
 |.h4 _ _ c ..=>c≠0
 |.h5 a b c d e f g h j l=>GI d e 20001/\h.size<=4000/\j.size<=4000/\Aft L i L a
def m48:S48->Nat
 |.e ..=>5
 |.h0 ..=>4
 |.h2 ..=>2
 |.h3 ..=>2
 |_=>1
instance {L:Rs} {i:Int}:Ends (λk=>g48 k L i) (TI L i) λ(r:Int×Rs×Int×Int×By×By×Int×Int×Int×Int)=>r.2.2.2.2.2.2.2.2.2=0->GI r.1 r.2.1 20001/\r.2.2.2.2.1.size<=4000/\r.2.2.2.2.2.1.size<=4000/\Aft L i L r.2.2.2.2.2.2.2.1:=⟨λv=>.loop (I48 L i) m48 (λs h o=>match s,h,o with
 |.e a b,⟨t,u⟩,o=>by
  simp only[nt,qpX];subst t u;refine .br (λz=>?_) λ_=>?_
  . simp only[aW]at z;have:=v.2.1;omega
  . exact o (.h0 ..) ⟨rfl,rfl,decide_eq_false (by have:=v.2.2;omega)⟩ (by simp[m48])
 |.h0 a b c ..,⟨t,u,A⟩,o=>by
  simp only[nt,qpX];subst t u A;simp only[cond_false];refine .call ⟨v,by omega,by omega⟩ λp w=>?_;refine .alt (λq e=>?_) λB e=>?_<;>subst e
  . exact o (.h2 ..) ⟨λh=>by simpa using h,w⟩ (by simp[m48,qoG])
  . refine .alt (λq e=>?_) λq e=>?_<;>subst e
    . exact o (.h2 ..) ⟨λh=>by simpa using h,w⟩ (by simp[m48,zu])
    . exact o (.h3 ..) ⟨λh=>by simpa using h,w⟩ (by simp[m48,zu])
 |.h1 _ _ c ..,h,o=>by simp only[nt,qpX];exact .ret λe=>absurd e h
 |.h2 a b c d e f g y j l m n ..,⟨t,u⟩,o=>by simp only[nt,qpX];refine .br (λx=>o (.h4 ..) (t x) (by simp[m48])) λ_=>o (.h5 ..) (u.i.cut v.2.1) (by simp[m48])
 |.h3 a b c d e f g y j l m n ..,⟨t,u⟩,o=>by simp only[nt,qpX];refine .br (λx=>o (.h4 ..) (t x) (by simp[m48])) λ_=>o (.h5 ..) (u.cut v.2.1) (by simp[m48])
 |.h4 _ _ c ..,h,o=>by simp only[nt,qpX];exact .ret λe=>absurd e h
 |.h5 a b c d e f g y j l,h,o=>by simp only[nt,qpX];exact .ret λ_=>h) _ ⟨rfl,rfl⟩⟩
theorem qzw:∀ a b:List Tx,trows (a++b)=trows a++trows b
 |[],b=>rfl
 |t::a,b=>by simp only[List.cons_append,trows,qzw a b]
theorem qAt:∀ a b:List Tx,cnts (a++b)=cnts a+cnts b
 |[],b=>by simp[cnts]
 |t::a,b=>by simp only[List.cons_append,cnts,qAt a b];omega
theorem ve:∀ l:List Tx,(trows l).length=l.length
 |[]=>rfl
 |t::l=>by simp only[trows,List.length_cons,ve l]
theorem qvk:∀ (l:List Tx) (i:Nat),(trows l)[i]? = (l[i]?).map trow
 |[],i=>by simp[trows]
 |t::l,0=>by simp[trows]
 |t::l,i+1=>by simp only[trows,List.getElem?_cons_succ];exact qvk l i
theorem qzJ (t:Tx):1<=t.cnt:=by obtain⟨⟩:=t;simp only[Tx.cnt];omega
theorem qvl:∀ l:List Tx,l.length<=cnts l
 |[]=>by simp[cnts]
 |t::l=>by have:=qvl l;have:=qzJ t;simp only[List.length_cons,cnts];omega
theorem qvh {t:Tx}:∀ {l:List Tx},t∈l->t.cnt<=cnts l
 |x::l,h=>by
  simp only[cnts];rcases List.mem_cons.1 h with rfl|h
  . omega
  . have:=qvh h;omega
def AllX (X:Rs)(m:Nat):Prop:=∃ ts:List Tx,X=trows ts/\(∀ t∈ts,t.Good)/\cnts ts<=m
def Tx.st49:Tx->S49|.mk op n s p b a args=>.e op (trows args) n s b a p
theorem qzz {α:Type}(t:Tx)(k:Int->Rs->Int->Int->By->By->Int->Option α):qE (trow t) k=match t with|.mk op n s p b a args=>k op (trows args) n s b a p:=by obtain⟨⟩:=t;rfl
theorem apX {a b:Rs}{m n:Nat}(h:AllX a m)(d:AllX b n)(g:m+n<=100000):apOk 88 7 a b=true:=by
 obtain⟨e,rfl,_,i⟩:=h;obtain⟨c,rfl,_,j⟩:=d;have:=qvl e;have:=qvl c;have f:(trows c).head?.all (·.length==7)=true:=by
  cases c with
  |nil=>rfl
  |cons t l=>obtain⟨⟩:=t;rfl
 simp[apOk,lim,ve,f];omega
theorem qEP (m:Nat):∀ t:Tx,t.cnt<=m->m<=50000->t.Good->En (λr=>AllX r t.cnt) λk=>itS qq2 k t.st49:=by
 induction m with
 |zero=>intro t h;have:=qzJ t;omega
 |succ m v=>
  intro t h H c;obtain⟨op,n,s,p,w,d,args⟩:=t;refine .go ?_;simp only[nt,qq2,Tx.st49];refine .br (λ_=>?_) λe=>?_
  . exact .ret ⟨[.mk op n s p w d args],rfl,by simpa using c,by simp[cnts]⟩
  .
   have e:op=13:=by simpa using e
   cases c with
   |mk i y I J=>
   obtain⟨t,u,rfl⟩:∃ t u,args=[t,u]:=by
    have:=y e
    match args,this with
    |[t,u],_=>exact⟨t,u,rfl⟩
   simp only[Tx.cnt,cnts]at h;have j:∀ t:Tx,t.cnt<=m->t.Good->∀ {Q:Rs->Prop} {g:Nat->Rs->Option Rs},(∀ a,AllX a t.cnt->En Q λk=>g k a)->En Q λk=>qE (trow t) λo x n s a b p=>(itS qq2 k (.e o x n s a b p)).bind (g k):=λt z c Q g A=>by have B:=v t z (by omega) c;obtain⟨⟩:=t;exact .bind B A
   refine .ixR (Int.le_refl 0) (by simp[trows]) λrow f=>?_;obtain rfl:trow t=row:=by simpa [trows]using f
   refine j t (by omega) (i t (by simp)) λa l=>?_;refine .ixR (by omega) (by simp[trows]) λrow f=>?_;obtain rfl:trow u=row:=by simpa [trows]using f
   refine j u (by omega) (i u (by simp)) λb q=>?_;refine .gd (apX l q (by omega)) (.ret ?_);obtain⟨C,rfl,D,K⟩:=l;obtain⟨E,rfl,F,L⟩:=q;exact⟨C++E,by rw[qzw],λx G=>(List.mem_append.1 G).elim (D x) (F x),by simp only[qAt,Tx.cnt,cnts];omega⟩
end Ab
end Go.Proofs.YtnnhdcidgfjfpaaGreatDoor
