/-
  The document's words of schemas: each ends. No claim stands here.
-/
import Derived.Test.YtnnhdcidgfjfpaaGreatDoorV15q
import Derived.Test.YtnnhdcidgfjfpaaGreatDoorFQcq
set_option linter.all false
namespace Go.Proofs.YtnnhdcidgfjfpaaGreatDoor
namespace Ab
def big:Nat:=1000000000000
def AllN (X:Rs):Prop:=∀ row∈X,∃ s:By,row=[sc s]
def AllF (X:Rs):Prop:=∀ row∈X,∃ (s:By) (k:Int),row=[sc s,ic k]
def qw9 (X:Rs):Prop:=∀ row∈X,∃ (s:By) (F:Rs),row=[sc s,.imm F]/\AllF F/\F.length<=big
theorem AllN.at {X:Rs}(h:AllN X){i:Nat}{row:List Cell}(e:X[i]? = some row):∃ s:By,row=[sc s]:=h row (aM e)
theorem AllF.at {X:Rs}(h:AllF X){i:Nat}{row:List Cell}(e:X[i]? = some row):∃ (s:By) (k:Int),row=[sc s,ic k]:=h row (aM e)
theorem qw9.at {X:Rs}(h:qw9 X){i:Nat}{row:List Cell}(e:X[i]? = some row):∃ (s:By) (F:Rs),row=[sc s,.imm F]/\AllF F/\F.length<=big:=h row (aM e)
theorem AllN.add {X:Rs}(h:AllN X){s:By}:AllN (X++[[sc s]]):=λrow hr=>by
 rcases List.mem_append.1 hr with hr|hr
 . exact h row hr
 . obtain rfl:=aU.1 hr;exact⟨s,rfl⟩
theorem AllN.imm {X:Rs}(h:AllN X):qG X=X:=by
 induction X with
 |nil=>rfl
 |cons r l a=>obtain⟨s,rfl⟩:=h _ (au ..);rw[qG,a λx b=>h x (aB _ b)];rfl
theorem qCJ {α:Type}(s:By)(n:Int)(k:By->Int->Option α):qBj [sc s,ic n] k=k s n:=rfl
theorem qyD {α:Type}(s:By)(F:Rs)(k:By->Rs->Option α):qyV [sc s,.imm F] k=k s F:=rfl
theorem apN {b:Rs}{x:Cell}(h:b.length<=big):apOk 16 1 b [[x]]=true:=by simp[apOk,lim];unfold big at h;omega
instance {a:Rs} {b:By}:Ends (λk=>g113 k a b) (AllN a/\a.length<=big) λ_=>True:=⟨λ⟨j,l⟩=>.loop
 (λs=>match s with|.e x _=>AllN x/\x.length<=big|.h0 _ x n i=>AllN x/\x.length<=big/\n=x.length/\0<=i)
 (λs=>match s with|.e x _=>x.length+1|.h0 _ x n i=>x.length-i.toNat) (λs h c=>match s,h,c with
 |.e x _,⟨d,e⟩,c=>by simp only[nt,qyO];exact c (.h0 ..) ⟨d,e,rfl,Int.le_refl 0⟩ (by dsimp only;omega)
 |.h0 _ x n i,⟨d,e,m,f⟩,c=>by simp only[nt,qyO];subst m;refine .br (λg=>?_) λ_=>.ret trivial;simp only[aW]at g;refine .ixR f g λrow o=>?_;obtain⟨s,rfl⟩:=d.at o;simp only[qwu];refine .br (λ_=>.ret trivial) λ_=>?_;unfold big at e;rw[w1 f (by omega)];exact c (.h0 ..) ⟨d,e,rfl,by omega⟩ (by dsimp only;omega)) _ ⟨j,l⟩⟩
instance {a b:Rs} {c:By}:Ends (λk=>g77 k a b c) (qw9 a/\a.length<=big) λ_=>True:=⟨λ⟨l,m⟩=>.loop
 (λs=>match s with|.e x _ _=>qw9 x/\x.length<=big|.h0 _ x n i=>qw9 x/\x.length<=big/\n=x.length/\0<=i)
 (λs=>match s with|.e x _ _=>x.length+1|.h0 _ x n i=>x.length-i.toNat) (λs h d=>match s,h,d with
 |.e x _ _,⟨e,f⟩,d=>by simp only[nt,qAS];exact d (.h0 ..) ⟨e,f,rfl,Int.le_refl 0⟩ (by dsimp only;omega)
 |.h0 _ x n i,⟨e,f,o,g⟩,d=>by simp only[nt,qAS];subst o;refine .br (λj=>?_) λ_=>.ret trivial;simp only[aW]at j;refine .ixR g j λrow p=>?_;obtain⟨s,F,rfl,_⟩:=e.at p;simp only[qyD];refine .br (λ_=>.ret trivial) λ_=>?_;unfold big at f;rw[w1 g (by omega)];exact d (.h0 ..) ⟨e,f,rfl,by omega⟩ (by dsimp only;omega)) _ ⟨l,m⟩⟩
instance {a b:Rs} {c:Int} {d:By}:Ends (λk=>g81 k a b c d) (qw9 a/\a.length<=big) λ_=>True:=⟨λ⟨q,u⟩=>.loop
 (λs=>match s with
  |.e x _ _ _=>qw9 x
  |.h0 a _ c d ..=>qw9 d/\(c=true->0<=a/\a<d.length)
  |.h1 _ x n i=>AllF x/\x.length<=big/\n=x.length/\0<=i/\i<=x.length
  |.h2=>True)
 (λs=>match s with|.e ..=>big+3|.h0 ..=>big+2|.h1 _ x n i=>x.length+1-i.toNat|.h2=>0) (λs h e=>match s,h,e with
 |.e x _ c _,f,e=>by simp only[nt,qq6];refine .br (λl=>?_) λ_=>e (.h0 ..) ⟨f,λh=>by cases h⟩ (by dsimp only;omega);exact e (.h0 ..) ⟨f,λh=>⟨by simpa using l,by simpa using h⟩⟩ (by dsimp only;omega)
 |.h0 a b c d ..,⟨f,g⟩,e=>by simp only[nt,qq6];refine .br (λl=>?_) λ_=>e .h2 trivial (by dsimp only;omega);obtain⟨m,j⟩:=g l;refine .ixR m j λrow o=>?_;obtain⟨s,F,rfl,r,t⟩:=f.at o;simp only[qyD];exact e (.h1 ..) ⟨r,t,rfl,Int.le_refl 0,by omega⟩ (by dsimp only;omega)
 |.h1 _ x n i,⟨f,g,m,j,v⟩,e=>by simp only[nt,qq6];subst m;refine .br (λp=>?_) λp=>e .h2 trivial (by dsimp only;omega);simp only[aW]at p;refine .ixR j p λrow o=>?_;obtain⟨s,k,rfl⟩:=f.at o;simp only[qCJ];refine .br (λ_=>.ret trivial) λ_=>?_;unfold big at g;rw[w1 j (by omega)];exact e (.h1 ..) ⟨f,g,rfl,by omega,by omega⟩ (by dsimp only;omega)
 |.h2,_,e=>by simp only[nt,qq6];exact .ret trivial) _ q⟩
end Ab
end Go.Proofs.YtnnhdcidgfjfpaaGreatDoor
