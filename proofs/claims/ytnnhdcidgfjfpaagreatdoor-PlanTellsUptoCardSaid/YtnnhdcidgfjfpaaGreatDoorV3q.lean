/-
  The document's scanner ends; the tokens that it gives. No claim stands here.
-/
import Derived.Test.YtnnhdcidgfjfpaaGreatDoorV2q
set_option linter.all false
namespace Go.Proofs.YtnnhdcidgfjfpaaGreatDoor
namespace Ab
def tokR (kd:Int)(tx:By)(n s p:Int):List Cell:=[ic kd,sc tx,ic n,ic s,ic p]
def AllT (L:Rs):Prop:=∀ row∈L,∃ (kd:Int) (tx:By) (n s p:Int),row=tokR kd tx n s p/\tx.size<=4000
theorem AllT.add {L:Rs}(h:AllT L){kd:Int}{tx:By}{n s p:Int}(a:tx.size<=4000):AllT (L++[tokR kd tx n s p]):=λrow hr=>by
 rcases List.mem_append.1 hr with hr|hr
 . exact h row hr
 . obtain rfl:=aU.1 hr;exact⟨kd,tx,n,s,p,rfl,a⟩
def TK (L:Rs):Prop:=AllT L/\L.length<=5000/\∃ (tx:By) (n s p:Int),L[L.length-1]? = some (tokR 0 tx n s p)
theorem apT {b:Rs}{a c d e f:Cell}(h:b.length<=5000):apOk 48 5 b [[a,c,d,e,f]]=true:=by simp[apOk,lim];omega
instance {c:Int}:Ends (λk=>g44 k c) True λ_=>True:=⟨λ_=>by
 refine .go ?_;simp only[nt,qq1]
 repeat' first|exact .ret trivial|refine .br (λ_=>?_) (λ_=>?_)⟩
def I20:S20->Prop
 |.e _=>True
 |.h0 _ _ c=>c≠0
 |.h1 a b c=>a.size<=4000/\AllT b/\0<=c/\c<=a.size/\b.length<=c
 |.h2 a b c=>a.size<=4000/\AllT b/\0<=c/\c<=a.size/\b.length<=c
 |.h3 a b c d=>a.size<=4000/\AllT b/\0<=c/\c<=a.size/\b.length<=c/\(d=true->c<a.size)
 |.h4 a _ _=>TK a
 |.h5 _ _ c=>c≠0
def m20:S20->Nat
 |.e _=>100000
 |.h0 ..=>0
 |.h1 _ _ c=>30001-4*c.toNat
 |.h2 _ _ c=>30000-4*c.toNat
 |.h3 _ _ c _=>29999-4*c.toNat
 |.h4 ..=>0
 |.h5 ..=>0
instance {a:By}:Ends (λk=>g20 k a) True λr=>r.2.2=0->TK r.1:=⟨λ_=>.loop I20 m20 (λs h b=>match s,h,b with
 |.e x,h,b=>by simp only[nt,yY];refine .br (λ_=>b (.h0 ..) (show(2:Int)≠0 by omega) (by simp[m20])) λj=>?_;simp only[decide_eq_false_iff_not]at j;exact b (.h1 ..) ⟨by omega,by simp[AllT],Int.le_refl 0,by omega,by simp⟩ (by simp[m20])
 |.h0 x y c,h,b=>by simp only[nt,yY];exact .ret λe=>absurd e h
 |.h1 x y c,h,b=>by simp only[nt,yY];exact b (.h2 ..) h (by obtain⟨i,f,g,l,m⟩:=h;simp only[m20];omega)
 |.h2 x y c,⟨i,f,g,l,m⟩,b=>by simp only[nt,yY];refine .br (λj=>?_) λ_=>b (.h3 ..) ⟨i,f,g,l,m,λh=>by cases h⟩ (by simp only[m20];omega);simp only[aW]at j;exact .sxI g j λ_ _ _ _=>.call trivial λ_ _=>b (.h3 ..) ⟨i,f,g,l,m,λ_=>j⟩ (by simp only[m20];omega)
 |.h3 x y c d,⟨i,f,g,l,m,t⟩,b=>by
  simp only[nt,yY];refine .br (λhd=>?_) λ_=>.br (λ_=>?_) λo=>?_
  . have:=t hd;rw[w1 g (by omega)];exact b (.h2 ..) ⟨i,f,by omega,by omega,by omega⟩ (by simp only[m20];omega)
  . refine .gd (apT (by omega)) ?_;refine b (.h4 ..) ⟨f.add (kd:=0) (tx:=strB []) (n:=0) (s:=0) (p:=c) (by show(0:Nat)<=4000;omega),by simp;omega,strB [],0,0,c,?_⟩ (by simp only[m20];omega);simp[tokR]
  . have o:c≠x.size:=by simpa using o
    refine .call ⟨g,by omega,by omega⟩ λr u=>?_;obtain⟨v,r2,w⟩:=u;simp only[tup6];refine .br (λ_=>b (.h5 ..) (show(12:Int)≠0 by omega) (by simp only[m20];omega)) λq=>.gd (apT (by omega)) ?_;have q:r.2.2.2.2.2≠0:=by simpa using q
    rw[qes (x:=c+r.2.2.2.2.2) (by omega)];exact b (.h1 ..) ⟨i,f.add v,by omega,by omega,by simp;omega⟩ (by simp only[m20];omega)
 |.h4 x y c,h,b=>by simp only[nt,yY];exact .ret λ_=>h
 |.h5 x y c,h,b=>by simp only[nt,yY];exact .ret λe=>absurd e h) _ trivial⟩
end Ab
end Go.Proofs.YtnnhdcidgfjfpaaGreatDoor
