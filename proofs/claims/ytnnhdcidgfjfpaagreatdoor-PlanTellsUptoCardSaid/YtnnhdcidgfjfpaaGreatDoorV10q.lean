/-
  The document's parser of queries, its small functions: each ends, and stays within the tokens. No claim stands here.
-/
import Derived.Test.YtnnhdcidgfjfpaaGreatDoorV9q
set_option linter.all false
namespace Go.Proofs.YtnnhdcidgfjfpaaGreatDoor
namespace Ab
section
variable {L:Rs} {i o e a st wd ka:Int} {key:By} {c d:Rs}
instance:Ends (λk=>g47b k L i o e a c d st wd key ka) (TI L i) λ(r:Int×By×Int×Int×Int×Rs×Rs×Rs)=>r.2.2.2.2.2=(L,c,d)/\(r.1≠0->i+1<L.length)/\r.2.1.size<=4000:=⟨λh=>by
 refine .go ?_
 simp only[nt,qAj]
 refine .ixR h.2.1 h.2.2 λrow b=>?_
 obtain⟨kd,tx,n,s,p,f,g,j⟩:=h.tok
 obtain rfl:=aQ (b.symm.trans f)
 simp only[qjp]
 exact .ret ⟨rfl,j,g⟩⟩
instance {s:By}:Ends (λk=>g23b k s L i o e a c d st wd key ka) (TI L i) λ(r:Bool×Rs×Rs×Rs)=>r.2=(L,c,d)/\(r.1=true->i+1<L.length):=⟨λh=>by refine .go ?_;simp only[nt,qAg];refine .call h λr ⟨f,g,j⟩=>?_;simp only[tup8,f];refine .br (λb=>?_) λ_=>.br (λb=>?_) λ_=>.ret ⟨rfl,λh=>by cases h⟩<;>exact .ret ⟨rfl,λ_=>g (by simp at b;omega)⟩⟩
instance {b:Int}:Ends (λk=>g26b k b L i o e a c d st wd key ka) (TI L i) λ(r:Rs×Int×Int×Rs×Rs)=>r.1=L/\r.2.2.2=(c,d):=⟨λh=>by refine .go ?_;simp only[nt,qyP];refine .br (λ_=>?_) λ_=>.ret ⟨rfl,rfl⟩;refine .call h λr ⟨f,_⟩=>?_;simp only[tup8,f];exact .ret ⟨rfl,rfl⟩⟩
instance {b:Int}:Ends (λk=>g50b k b L i o e a c d st wd key ka) (TI L i) λ(r:Rs×Int×Int×Rs×Rs)=>r.1=L/\r.2.2.2=(c,d):=⟨λh=>by refine .go ?_;simp only[nt,qyQ];refine .br (λ_=>?_) λ_=>.ret ⟨rfl,rfl⟩;refine .call h λr f=>?_;exact .ret f⟩
instance {s:By}:Ends (λk=>g21b k s L i o e a c d st wd key ka) (TI L i) λ(r:Rs×Int×Int×Int×Rs×Rs)=>Aft L i r.1 r.2.1/\r.2.2.2.2=(c,d):=⟨λh=>by refine .go ?_;simp only[nt,qAe];refine .br (λ_=>.ret ⟨.same h,rfl⟩) λ_=>?_;refine .call h λr ⟨b,f⟩=>?_;simp only[tup4,b];refine .br (λ_=>?_) λg=>.ret ⟨.next h (f (by simpa using g)),rfl⟩;refine .call h λr ⟨j,l⟩=>?_;simp only[tup5,j,l];exact .ret ⟨.same h,rfl⟩⟩
instance:Ends (λk=>g51b k L i o e a c d st wd key ka) (TI L i) λ(r:By×Rs×Int×Int×Int×Rs×Rs)=>r.1.size<=4000/\Aft L i r.2.1 r.2.2.1/\r.2.2.2.2.2=(c,d):=⟨λh=>by
 have key:∀ b:Bool,(b=false->i+1<L.length)->En (λ(r:By×Rs×Int×Int×Int×Rs×Rs)=>r.1.size<=4000/\Aft L i r.2.1 r.2.2.1/\r.2.2.2.2.2=(c,d)) λk=>itS qya k (.h0 b L i o e a c d st wd key ka):=λb m=>.go (by
  simp only[nt,qya]
  refine .br (λ_=>?_) λq=>?_
  .
   refine .call h λr ⟨t,r2⟩=>?_
   simp only[tup5,t,r2]
   exact .ret ⟨z4,.same h,rfl⟩
  .
   have u:=Aft.next h (m q)
   have:=h.2.1
   rw[h.w]at *
   rw[show i+1-1=i by omega,qes (x:=i) (by have:=h.2.2;have:=h.1.2.1;omega)]
   refine .ixR h.2.1 h.2.2 λrow f=>?_
   obtain⟨kd,tx,n,s,p,g,j,l⟩:=h.tok
   obtain rfl:=aQ (f.symm.trans g)
   simp only[qjp]
   exact .ret ⟨j,u,rfl⟩)
 refine .go ?_
 simp only[nt,qya]
 refine .br (λ_=>key _ λh=>by cases h) λ_=>?_
 refine .ixR h.2.1 h.2.2 λrow f=>?_
 obtain⟨kd,tx,n,s,p,g,j,l⟩:=h.tok
 obtain rfl:=aQ (f.symm.trans g)
 simp only[qjp]
 exact key _ λh=>l (by simp at h;omega)⟩
end
section
variable {L:Rs} {i o e a st wd ka:Int} {key:By}
instance:Ends (λk=>g47 k L i o e a st wd key ka) (TI L i) λ(r:Int×By×Int×Int×Int×Rs)=>r.2.2.2.2.2=L/\(r.1≠0->i+1<L.length)/\r.2.1.size<=4000:=⟨λh=>by
 refine .go ?_
 simp only[nt,qCr]
 refine .ixR h.2.1 h.2.2 λrow b=>?_
 obtain⟨kd,tx,n,s,p,f,g,j⟩:=h.tok
 obtain rfl:=aQ (b.symm.trans f)
 simp only[qjp]
 exact .ret ⟨rfl,j,g⟩⟩
instance {s:By}:Ends (λk=>g23 k s L i o e a st wd key ka) (TI L i) λ(r:Bool×Rs)=>r.2=L/\(r.1=true->i+1<L.length):=⟨λh=>by refine .go ?_;simp only[nt,qkj];refine .call h λr ⟨b,g,j⟩=>?_;simp only[tup6];refine .br (λf=>?_) λ_=>.br (λf=>?_) λ_=>.ret ⟨b,λh=>by cases h⟩<;>exact .ret ⟨b,λ_=>g (by simp at f;omega)⟩⟩
instance {b:Int}:Ends (λk=>g26 k b L i o e a st wd key ka) (TI L i) λ(r:Rs×Int×Int)=>r.1=L:=⟨λh=>by refine .go ?_;simp only[nt,qsr];refine .br (λ_=>?_) λ_=>.ret rfl;refine .call h λr ⟨f,_⟩=>?_;exact .ret f⟩
instance {s:By}:Ends (λk=>g21 k s L i o e a st wd key ka) (TI L i) λ(r:Rs×Int×Int×Int)=>Aft L i r.1 r.2.1:=⟨λh=>by refine .go ?_;simp only[nt,qq0];refine .br (λ_=>.ret (.same h)) λ_=>?_;refine .call h λr ⟨b,f⟩=>?_;simp only[tup2,b];refine .br (λ_=>?_) λg=>.ret (.next h (f (by simpa using g)));refine .call h λr j=>?_;simp only[tup3];exact .ret (by show Aft L i r.1 i;rw[j];exact .same h)⟩
end
end Ab
end Go.Proofs.YtnnhdcidgfjfpaaGreatDoor
