/-
  Functions by steps that come to an answer of some kind: rules by which one goes along a function's text. No claim stands here.
-/
import Derived.Test.YtnnhdcidgfjfpaaGreatDoorFQq
set_option linter.all false
namespace Go.Proofs.YtnnhdcidgfjfpaaGreatDoor
namespace Ab
def En {R:Type}(Q:R->Prop)(t:Nat->Option R):Prop:=∃ r,Q r/\∃ N,∀ k,N<=k->t k=some r
namespace En
variable {R A B:Type} {Q Q':R->Prop} {t u:Nat->Option R} {b:Bool}
theorem ret {r:R}(h:Q r):En Q λ_=>some r:=⟨r,h,0,λ_ _=>rfl⟩
theorem mono (h:En Q t)(e:∀ r,Q r->Q' r):En Q' t:=let ⟨r,a,c⟩:=h;⟨r,e r a,c⟩
theorem br (a:b=true->En Q t)(c:b=false->En Q u):En Q λk=>bif b then t k else u k:=by
 cases b
 . exact c rfl
 . exact a rfl
theorem gd (h:b=true)(a:En Q t):En Q λk=>Ab.gd b (t k):=by subst h;exact a
theorem bind {P:A->Prop}{f:Nat->Option A}{g:Nat->A->Option R}:En P f->(∀ a,P a->En Q λk=>g k a)->En Q λk=>(f k).bind (g k)
 |⟨a,c,N,d⟩,h=>by obtain⟨r,e,M,i⟩:=h a c;exact⟨r,e,N+M,λk j=>by show(f k).bind (g k)=_;rw[d k (by omega)];exact i k (by omega)⟩
theorem ixR {rows:Rs}{n:Int}{f:Nat->List Cell->Option R}(c:0<=n)(d:n<rows.length)(h:∀ row,rows[n.toNat]? = some row->En Q λk=>f k row):En Q λk=>Ab.ixR rows n (f k):=by
 obtain⟨row,a⟩:∃ row,rows[n.toNat]? = some row:=⟨_,ax (by omega)⟩
 simpa only[Ab.ixR,aO c,cond_true,a,ae]using h row a
theorem sxI {s:ByteArray}{n:Int}{f:Nat->Int->Option R}(d:0<=n)(g:n<s.size)(h:∀ c,0<=c->c<256->Xp s n.toNat=some c->En Q λk=>f k c):En Q λk=>Ab.sxI s n (f k):=by
 have e:n.toNat<s.size:=by omega
 have a:Xp s n.toNat=some (s[n.toNat].toNat:Int):=by simp[Xp,e]
 have:=s[n.toNat].toNat_lt;simpa only[Ab.sxI,aO d,cond_true,a,ae]using h _ (by omega) (by omega) a
theorem alt {f:Nat->A->Option R}{g:Nat->B->Option R}{v:A⊕B}(c:∀ a,v=.inl a->En Q λk=>f k a)(d:∀ a,v=.inr a->En Q λk=>g k a):En Q λk=>altC v (f k) (g k):=by
 cases v
 . exact c _ rfl
 . exact d _ rfl
theorem go {S:Type}{step:Nat->(S->Option R)->S->Option R}{s:S}:En Q (λk=>step k (itS step k) s)->En Q λk=>itS step k s
 |⟨r,a,N,c⟩=>⟨r,a,N+1,λk d=>by
  obtain⟨j,rfl⟩:∃ j,k=j+1:=⟨k-1,by omega⟩
  exact c j (by omega)⟩
end En
class Ends {A:Type} (f:Nat->Option A) (pre:outParam Prop) (P:outParam (A->Prop)):Prop where
 out:pre->En P f
theorem En.call {R A:Type}{Q:R->Prop}{pre:Prop}{P:A->Prop}{f:Nat->Option A}{g:Nat->A->Option R}[h:Ends f pre P](c:pre)(d:∀ a,P a->En Q λk=>g k a):En Q λk=>(f k).bind (g k):=.bind (h.out c) d
theorem qes {x:Int}(h : -9223372036854775808<=x/\x<9223372036854775808):IntKind.i64.wrap x=x:=by rw[IntKind.wrap_i64];omega
instance {c:Int}:Ends (λk=>g89 k c) True λ_=>True:=⟨λ_=>by
 refine .go ?_;simp only[nt,qCu]
 repeat' first|with_reducible refine .br (λ_=>?_) (λ_=>?_)|exact .ret trivial⟩
instance {c:Int}:Ends (λk=>g85 k c) True λ_=>True:=⟨λ_=>by
 refine .go ?_;simp only[nt,Zr]
 repeat' first|with_reducible refine .br (λ_=>?_) (λ_=>?_)|exact .ret trivial⟩
theorem qDU {s:By}{at_:Int}{a:Bool}(h:0<=at_)(j:s.size<=5000)(l:at_<=5000)(m:Nat):∀ {n:Int},m=s.size-(at_+n).toNat->0<=n->(n=0\/at_+n<=s.size) ->
  En (λ(r:Int)=>0<=r/\(r=0\/at_+r<=s.size)) λk=>itS qe9 k (.h0 s at_ a n):=by
 induction m using Nat.strongRecOn with
 |_ m d=>
  intro n o e f;have w:IntKind.i64.wrap (at_+n)=at_+n:=qes (by omega);have g:IntKind.i64.wrap (n+1)=n+1:=qes (by omega);have z:En (λ(r:Int)=>0<=r/\(r=0\/at_+r<=s.size)) λk=>itS qe9 k (.h1 s at_ a n false):=by refine .go ?_;simp only[nt,qe9,cond_false];exact .ret ⟨e,f⟩
  refine .go ?_;simp only[nt,qe9,w];refine .br (λi=>?_) (λ_=>z);simp only[aW]at i;have y:En (λ(r:Int)=>0<=r/\(r=0\/at_+r<=s.size)) λk=>itS qe9 k (.h1 s at_ a n true):=by refine .go ?_;simp only[nt,qe9,cond_true,g];exact d (m-1) (by omega) (by omega) (by omega) (by omega)
  have x:∀ b,En (λ(r:Int)=>0<=r/\(r=0\/at_+r<=s.size)) λk=>itS qe9 k (.h1 s at_ a n b):=λb=>by cases b<;>assumption
  refine .sxI (by omega) (by omega) λc _ _ _=>?_
  repeat' first|exact x _|with_reducible refine .call trivial λ_ _=>?_|with_reducible refine .br (λ_=>?_) (λ_=>?_)
instance {s:By} {at_:Int} {a:Bool}:Ends (λk=>g86 k s at_ a) (0<=at_/\s.size<=5000/\at_<=5000) λ(r:Int)=>0<=r/\(r=0\/at_+r<=s.size):=⟨λ⟨h,c,d⟩=>by refine .go ?_;simp only[nt,qe9];exact qDU h c d _ rfl (Int.le_refl 0) (.inl rfl)⟩
end Ab
end Go.Proofs.YtnnhdcidgfjfpaaGreatDoor
