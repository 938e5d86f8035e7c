/-
  Words, names, numbers, tokens: the document's scanner ends, and its tokens are of the form. No claim stands here.
-/
import Derived.Test.YtnnhdcidgfjfpaaGreatDoorV0q
set_option linter.all false
namespace Go.Proofs.YtnnhdcidgfjfpaaGreatDoor
namespace Ab
theorem En.loop {S R:Type}{Q:R->Prop}{step:Nat->(S->Option R)->S->Option R}(I:S->Prop)(μ:S->Nat)(h:∀ s,I s->(∀ a,I a->μ a<μ s->En Q λk=>itS step k a)->En Q λk=>step k (itS step k) s)(s:S)(b:I s):En Q λk=>itS step k s:=by
 generalize c:μ s=m
 induction m using Nat.strongRecOn generalizing s with
 |_ m d=>exact .go (h s b λa e f=>d _ (c▸f) a e rfl)
def AllS (L:Rs):Prop:=∀ row∈L,∃ s:By,row=[sc s]/\s.size<=100
theorem quY (l:List Nat):(strB l).size=l.length:=by simp[strB,ByteArray.size]
theorem qwu {α:Type}(s:By)(k:By->Option α):un_s [sc s] k=k s:=rfl
theorem AllS.at {L:Rs}(h:AllS L){i:Nat}{row:List Cell}(e:L[i]? = some row):∃ s:By,row=[sc s]/\s.size<=100:=h row (aM e)
theorem w1 {i:Int}(a:0<=i)(b:i<4000000000000000000):IntKind.i64.wrap (i+1)=i+1:=qes (by omega)
instance:Ends (λk=>g117 k) True λr=>AllS r/\r.length<100:=⟨λ_=>by
 refine .go ?_
 simp only[nt,qqb]
 exact .ret ⟨by simp[AllS,sc,quY],by simp⟩⟩
def I87:S87->Prop
 |.e _=>True
 |.h0 _ b c d=>AllS b/\c=b.length/\b.length<100/\0<=d
def m87:S87->Nat
 |.e _=>1000
 |.h0 _ b _ d=>b.length-d.toNat
instance {a:By}:Ends (λk=>g87 k a) True λ_=>True:=⟨λ_=>.loop I87 m87 (λs h d=>by
 cases s<;>simp only[nt,qCt]<;>simp only[I87,m87]at h d
 . refine .call trivial λb c=>?_;exact d (.h0 ..) ⟨c.1,rfl,c.2,Int.le_refl 0⟩ (by have:=c.2;simp only[m87];omega)
 . obtain⟨e,rfl,g,f⟩:=h;refine .br (λc=>?_) (λ_=>.ret trivial);simp only[aW]at c;refine .ixR f c λrow i=>?_;obtain⟨s,rfl,_⟩:=e.at i;simp only[qwu];refine .br (λ_=>.ret trivial) (λ_=>?_);rw[w1 f (by omega)];exact d (.h0 ..) ⟨e,rfl,g,by omega⟩ (by simp only[m87];omega)) _ trivial⟩
def m88:S88->Nat
 |.e _=>1000
 |.h0 _ _=>999
 |.h1 _ b=>100-3*b.toNat
 |.h2 _ b _=>99-3*b.toNat
instance {a:By}:Ends (λk=>g88 k a) True λr=>r=true->0<a.size/\a.size<=24:=⟨λ_=>by
 have key:∀ a:By,0<a.size->a.size<=24->En (λr=>r=true->0<a.size/\a.size<=24) λk=>itS qyb k (.h0 a false):=λa l i=>.loop (λs=>match s with|.h0 x _=>x=a|.h1 x b=>x=a/\0<=b/\b<=24|.h2 x b _=>x=a/\0<=b/\b<24|_=>False) m88 (λs h g=>by
  cases s<;>simp only[nt,qyb]<;>simp only[m88]at h g
  . subst h;exact .br (λ_=>.ret λh=>by cases h) λ_=>g (.h1 ..) (by simp) (by simp[m88])
  . obtain⟨rfl,f,m⟩:=h;refine .br (λj=>?_) (λ_=>.ret λ_=>⟨l,i⟩);simp only[aW]at j;refine .sxI f j λc _ _ _=>?_
    repeat' first|exact g (.h2 ..) ⟨rfl,by omega,by omega⟩ (by simp only[m88];omega)|refine .call trivial λ_ _=>?_|refine .br (λ_=>?_) (λ_=>?_)
  . obtain⟨rfl,f,m⟩:=h;rw[w1 f (by omega)];exact .br (λ_=>.ret λh=>by cases h) λ_=>g (.h1 ..) ⟨rfl,by omega,by omega⟩ (by simp only[m88];omega)) _ rfl
 have e:∀ a:By,En (λr=>r=true->0<a.size/\a.size<=24) λk=>itS qyb k (.h0 a true):=λa=>.go (by simp only[nt,qyb,cond_true];exact .ret λh=>by cases h);refine .go ?_;simp only[nt,qyb];refine .br (λ_=>e a) (λi=>?_);refine .br (λ_=>e a) (λf=>?_);simp only[decide_eq_false_iff_not]at i f;refine .sxI (by omega) (by omega) λc _ _ _=>?_;refine .call trivial λd _=>?_;refine .br (λ_=>e a) (λ_=>?_);refine .call trivial λd _=>?_;cases d
 . exact key a (by omega) (by omega)
 . exact e a⟩
theorem qp3 (n:Int):(qhy [n]).size=1:=rfl
def I76:S76->Prop
 |.e _=>True
 |.h0 _ b c=>b.size=0/\0<=c/\c<18446744073709551616
 |.h1 _ b c=>0<=c/\c<18446744073709551616/\∃ j:Nat,b.size=j/\j<=19/\c<10 ^ (20-j)
def m76:S76->Nat
 |.e _=>18446744073709551618
 |.h0 _ _ _=>18446744073709551617
 |.h1 _ _ c=>c.toNat
theorem sz0:(strB []).size=0:=rfl
theorem u64r (n:Int):0<=IntKind.u64.wrap n/\IntKind.u64.wrap n<18446744073709551616:=by rw[IntKind.wrap_u64];omega
instance {a:Int}:Ends (λk=>g76 k a) True λr=>0<r.size/\r.size<=21:=⟨λ_=>.loop I76 m76 (λs h b=>by
 cases s<;>simp only[nt,qCs]<;>simp only[I76,m76]at h b
 . refine .br (λ_=>?_) (λ_=>?_)<;>exact b (.h0 ..) ⟨sz0,u64r _⟩ (by simp only[m76];omega)
 . exact b (.h1 ..) ⟨h.2.1,h.2.2,0,h.1,by omega,by omega⟩ (by simp only[m76];omega)
 .
  obtain⟨f,g,j,i,l,m⟩:=h;refine .br (λd=>?_) (λd=>?_)
  .
   simp only[aW]at d;refine .gd (aO (by simp only[qp3];omega)) ?_;rename_i c;have e:IntKind.u64.wrap (Int.tdiv c 10)=c / 10:=by rw[IntKind.wrap_u64,Int.tdiv_eq_ediv_of_nonneg f];omega
   rw[e];have n:j<=18:=by
    rcases Nat.lt_or_ge j 19 with h|h
    . omega
    . obtain rfl:j=19:=by omega
      omega
   have o:(10:Int) ^ (20-j)=10*10 ^ (20-(j+1)):=by rw[show 20-j=(20-(j+1))+1 by omega,Int.pow_succ];omega
   exact b (.h1 ..) ⟨by omega,by omega,j+1,by rw[ByteArray.size_append,qp3];omega,by omega,by omega⟩ (by simp only[m76];omega)
  . refine .gd (aO (by simp only[qp3];omega)) ?_;have z:(strB [45]).size=1:=rfl;refine .br (λ_=>?_) (λ_=>?_)
    . refine .gd (aO (by simp only[ByteArray.size_append,qp3,z];omega)) ?_;exact .ret (by simp only[ByteArray.size_append,qp3,z];omega)
    . exact .ret (by simp only[ByteArray.size_append,qp3];omega)) _ trivial⟩
end Ab
end Go.Proofs.YtnnhdcidgfjfpaaGreatDoor
