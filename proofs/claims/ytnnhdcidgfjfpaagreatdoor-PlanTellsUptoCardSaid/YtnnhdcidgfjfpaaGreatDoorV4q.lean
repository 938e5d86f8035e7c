/-
  The document's parser of trees, its small functions: each ends, and stays within the tokens. No claim stands here.
-/
import Derived.Test.YtnnhdcidgfjfpaaGreatDoorV3q
set_option linter.all false
namespace Go.Proofs.YtnnhdcidgfjfpaaGreatDoor
namespace Ab
def TI (L:Rs)(i:Int):Prop:=TK L/\0<=i/\i<L.length
theorem qjp {α:Type}{kd:Int}{tx:By}{n s p:Int}(k:Int->By->Int->Int->Int->Option α):qaM (tokR kd tx n s p) k=k kd tx n s p:=rfl
theorem TI.tok {L:Rs}{i:Int}(h:TI L i):∃ (kd:Int) (tx:By) (n s p:Int),L[i.toNat]? = some (tokR kd tx n s p)/\tx.size<=4000/\(kd≠0->i+1<L.length):=by
 obtain⟨⟨c,k,tx,n,s,p,d⟩,l,m⟩:=h;obtain⟨row,a⟩:∃ row,L[i.toNat]? = some row:=⟨_,ax (by omega)⟩
 obtain⟨kd,b,e,f,g,rfl,j⟩:=c row (aM a);refine⟨kd,b,e,f,g,a,j,λo=>?_⟩;rcases Int.lt_or_le (i+1) L.length with hl|hl
 . exact hl
 . rw[show i.toNat=L.length-1 by omega,d]at a;simp only[tokR,aa,List.cons.injEq,ic,Cell.val.injEq,Value.int.injEq]at a;omega
theorem TI.succ {L:Rs}{i:Int}(h:TI L i)(a:i+1<L.length):TI L (i+1):=⟨h.1,by have:=h.2.1;omega,a⟩
theorem TI.w {L:Rs}{i:Int}(h:TI L i):IntKind.i64.wrap (i+1)=i+1:=w1 h.2.1 (by have:=h.1.2.1;have:=h.2.2;omega)
instance {L:Rs} {i o e a:Int}:Ends (λk=>g47c k L i o e a) (TI L i) λ(r:Int×By×Int×Int×Int×Rs)=>r.2.2.2.2.2=L/\(r.1≠0->i+1<L.length)/\r.2.1.size<=4000:=⟨λh=>by refine .go ?_;simp only[nt,qAk];refine .ixR h.2.1 h.2.2 λrow b=>?_;obtain⟨kd,tx,n,s,p,c,d,f⟩:=h.tok;obtain rfl:=aQ (b.symm.trans c);simp only[qjp];exact .ret ⟨rfl,f,d⟩⟩
instance {s:By} {L:Rs} {i o e a:Int}:Ends (λk=>g23c k s L i o e a) (TI L i) λ(r:Bool×Rs)=>r.2=L/\(r.1=true->i+1<L.length):=⟨λh=>by refine .go ?_;simp only[nt,qAh];refine .call h λr ⟨b,d,f⟩=>?_;simp only[tup6];refine .br (λc=>?_) λ_=>.br (λc=>?_) λ_=>.ret ⟨b,λh=>by cases h⟩<;>exact .ret ⟨b,λ_=>d (by simp at c;omega)⟩⟩
instance {b:Int} {L:Rs} {i o e a:Int}:Ends (λk=>g26c k b L i o e a) (TI L i) λ(r:Rs×Int×Int)=>r.1=L:=⟨λh=>by refine .go ?_;simp only[nt,qAi];refine .br (λ_=>?_) λ_=>.ret rfl;refine .call h λr ⟨c,_⟩=>?_;exact .ret c⟩
instance {L:Rs} {i o e a:Int}:Ends (λk=>g141 k L i o e a) (TI L i/\i+1<L.length) λ(r:Int×Rs×Int×Int×Int×Int)=>r.2.1=L/\r.2.2.1=i+1:=⟨λ⟨h,d⟩=>by have key:∀ p o e a,En (λ(r:Int×Rs×Int×Int×Int×Int)=>r.2.1=L/\r.2.2.1=i+1) λk=>itS qx8 k (.h0 p L i o e a):=λp o e a=>.go (by simp only[nt,qx8];exact .ret ⟨rfl,h.w⟩);refine .go ?_;simp only[nt,qx8];refine .call h λr ⟨b,_⟩=>?_;simp only[tup6,b];refine .br (λ_=>?_) λ_=>key _ _ _ _;refine .call h λr c=>?_;simp only[tup3];rw[c];exact key _ _ _ _⟩
def Aft (L:Rs)(i:Int)(a:Rs)(j:Int):Prop:=a=L/\i<=j/\TI L j
theorem Aft.same {L:Rs}{i:Int}(h:TI L i):Aft L i L i:=⟨rfl,Int.le_refl _,h⟩
theorem Aft.next {L:Rs}{i:Int}(h:TI L i)(a:i+1<L.length):Aft L i L (IntKind.i64.wrap (i+1)):=⟨rfl,by rw[h.w];omega,by rw[h.w];exact h.succ a⟩
theorem Aft.trans {L:Rs}{i j l:Int}{b a:Rs}(h:Aft L i b j)(c:Aft b j a l):Aft L i a l:=by obtain⟨rfl,e,f⟩:=h;obtain⟨rfl,g,d⟩:=c;exact⟨rfl,by omega,d⟩
theorem z4:(strB []).size<=4000:=by show(0:Nat)<=4000;omega
instance {L:Rs} {i o e a:Int}:Ends (λk=>g161 k L i o e a) (TI L i) λ(r:By×Rs×Int×Int×Int)=>r.1.size<=4000/\Aft L i r.2.1 r.2.2.1:=⟨λh=>by refine .go ?_;simp only[nt,qAd];refine .br (λ_=>.ret ⟨z4,.same h⟩) λ_=>?_;refine .call h λr ⟨b,c,d⟩=>?_;simp only[tup6,b];refine .br (λ_=>?_) λf=>.ret ⟨d,.next h (c (by simp at f;omega))⟩;refine .call h λr g=>?_;simp only[tup3];exact .ret ⟨z4,by show Aft L i r.1 i;rw[g];exact .same h⟩⟩
instance {s:By} {L:Rs} {i o e a:Int}:Ends (λk=>g21c k s L i o e a) (TI L i) λ(r:Rs×Int×Int×Int)=>Aft L i r.1 r.2.1:=⟨λh=>by refine .go ?_;simp only[nt,qAf];refine .br (λ_=>.ret (.same h)) λ_=>?_;refine .call h λr ⟨b,c⟩=>?_;simp only[tup2,b];refine .br (λ_=>?_) λd=>.ret (.next h (c (by simpa using d)));refine .call h λr f=>?_;simp only[tup3];exact .ret (by show Aft L i r.1 i;rw[f];exact .same h)⟩
instance {L:Rs} {i o e a:Int}:Ends (λk=>g142 k L i o e a) (TI L i) λ(r:By×By×Rs×Int×Int×Int)=>r.1.size<=4000/\r.2.1.size<=4000/\Aft L i r.2.2.1 r.2.2.2.1:=⟨λh=>by
 have key:∀ (n:By) (b:Bool) {d:Rs} {j:Int} (o e a:Int),n.size<=4000->Aft L i d j->(b=true->j+1<d.length)->En (λ(r:By×By×Rs×Int×Int×Int)=>r.1.size<=4000/\r.2.1.size<=4000/\Aft L i r.2.2.1 r.2.2.2.1) λk=>itS qx9 k (.h0 n b d j o e a):=λn b d j o e a m f t=>.go (by
  simp only[nt,qx9];have s:TI d j:=by rw[f.1];exact f.2.2
  refine .br (λh=>.ret ⟨m,by show(4:Nat)<=4000;omega,f.trans (.next s (t h))⟩) λ_=>?_;refine .call s λr ⟨g,c⟩=>?_;exact .ret ⟨m,g,f.trans c⟩)
 refine .go ?_;simp only[nt,qx9];refine .call h λr ⟨g,c⟩=>?_;simp only[tup5];have t2:TI r.2.1 r.2.2.1:=by rw[c.1];exact c.2.2
 refine .call t2 λq l=>?_;simp only[tup4];have t3:TI q.1 q.2.1:=by rw[l.1];exact l.2.2
 refine .br (λ_=>?_) λ_=>key _ _ _ _ _ g (c.trans l) λh=>by cases h
 refine .call t3 λp ⟨u,v⟩=>?_;simp only[tup2];rw[u];exact key _ _ _ _ _ g (c.trans l) v⟩
instance:Ends (λk=>g138 k) True λ(r:Rs)=>AllS r/\r.length=7:=⟨λ_=>by
 refine .go ?_
 simp only[nt,qAc]
 exact .ret ⟨by simp[AllS,sc,quY],rfl⟩⟩
instance {l:Int}:Ends (λk=>g111 k l) True λ(r:Rs×Int)=>AllS r.1/\r.1.length<=6/\0<=r.2/\r.2<=14:=⟨λ_=>by
 refine .go ?_;simp only[nt,qxh]
 repeat' first|refine .br (λ_=>?_) (λ_=>?_)|(refine .go ?_;simp only[nt,qxh];refine .ret ⟨by simp[AllS,sc,quY],?_,?_,?_⟩)
 all_goals simp⟩
end Ab
end Go.Proofs.YtnnhdcidgfjfpaaGreatDoor
