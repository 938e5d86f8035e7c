/-
  The document's parser of trees ends: prefixes, leaves. No claim stands here.
-/
import Derived.Test.YtnnhdcidgfjfpaaGreatDoorV7q
set_option linter.all false
namespace Go.Proofs.YtnnhdcidgfjfpaaGreatDoor
namespace Ab
theorem h5_91 {w:Nat}{L:Rs}{i a:Int}{b:Rs}{c d e f g:Int}{X:Rs}{j l:Int}{m n:By}{o p q t:Int}{u v:By}{x':Int}{x:Rs}{y z k r:Int}(h:J91 w L i (.h5_91 a b c d e f g X j l m n o p q t u v x' x y z k r)):K91 (w,L,i) (.h5_91 a b c d e f g X j l m n o p q t u v x' x y z k r):=λs=>by obtain⟨rfl,A,B,C,D,E,F,I,G,H⟩:=h;simp only[nt,zX];rw[w1 F (by omega)];exact s (0,L,i) (.h3_91 ..) ⟨rfl,A,B,C,D,E,by omega,by omega,G,H⟩ (by simp only[m91];omega)
theorem h7_91 {w:Nat}{L:Rs}{i a:Int}{b:Rs}{c d e f g:Int}{X:Rs}{j l:Int}{m n:By}{o p q t:Int}{u v:By}{x':Int}{x:Rs}{y z k r:Int}(h:J91 w L i (.h7_91 a b c d e f g X j l m n o p q t u v x' x y z k r)):K91 (w,L,i) (.h7_91 a b c d e f g X j l m n o p q t u v x' x y z k r):=λs=>by obtain⟨rfl,A,B,C,D,E,F,I,G,H⟩:=h;simp only[nt,zX];rw[w1 F (by omega)];exact s (0,L,i) (.h4_91 ..) ⟨rfl,A,B,C,D,E,by omega,by omega,G,H⟩ (by simp only[m91];omega)
theorem h6_91 {w:Nat}{L:Rs}{i a:Int}{b:Bool}{c:Int}{d:Rs}{e f:Int}{g k:By}{j l m n:Int}{o p:By}{q:Int}{t:Rs}{u v x y:Int}(h:J91 w L i (.h6_91 a b c d e f g k j l m n o p q t u v x y)):K91 (w,L,i) (.h6_91 a b c d e f g k j l m n o p q t u v x y):=λs=>by obtain⟨rfl,z,A,r⟩:=h;simp only[nt,zX];refine .br (λ_=>.ret r.i) λ_=>?_;exact s (0,L,i) (.h1_91 ..) ⟨rfl,z,A,r⟩ (by simp only[m91];omega)
theorem e119 {w:Nat}{L:Rs}{i a:Int}{b:Rs}{c d e f:Int}(h:J91 w L i (.e_119 a b c d e f)):K91 (w,L,i) (.e_119 a b c d e f):=λg=>by
 obtain⟨rfl,rfl,rfl,j,k⟩:=h;simp only[nt,zX];refine .br (λ_=>?_) λ_=>?_
 . exact g (1,b,c) (.h0_119 ..) ⟨rfl,rfl,rfl,j,k,.inl rfl⟩ (by simp only[m91];omega)
 . exact g (1,b,c) (.h0_119 ..) ⟨rfl,rfl,rfl,j,k,.inr rfl⟩ (by simp only[m91];omega)
theorem h0_119 {w:Nat}{L:Rs}{y a:Int}{b:By}{c d e f:Int}{g i:By}{j:Int}{l:Rs}{m n o p:Int}(h:J91 w L y (.h0_119 a b c d e f g i j l m n o p)):K91 (w,L,y) (.h0_119 a b c d e f g i j l m n o p):=λs=>by
 obtain⟨rfl,rfl,rfl,t,E,F⟩:=h;simp only[nt,zX];refine .call t λr ⟨A,r2⟩=>?_;simp only[tup2,A];have v:c≠13:=by omega
 refine .br (λ_=>?_) λu=>?_
 .
  rw[w1 (i:=a) (by omega) (by omega)];refine .bind (En.s91 (s (0,l,m) (.e_91 ..) ⟨rfl,rfl,rfl,t,by omega,by omega⟩ (by simp only[m91];omega))) λp k=>?_;refine .alt (λq e=>?_) λB e=>?_<;>subst e
  . exact s (1,l,m) (.h1_119 ..) ⟨rfl,k⟩ (by simp only[m91];omega)
  . refine .alt (λq e=>?_) λq e=>?_<;>subst e
    . exact s (1,l,m) (.h1_119 ..) ⟨rfl,k⟩ (by simp only[m91];omega)
    . exact s (1,l,m) (.h2_119 ..) ⟨rfl,k⟩ (by simp only[m91];omega)
 .
  have u:=r2 (by simpa using u);refine .call ⟨t,u⟩ λr ⟨C,D⟩=>?_;simp only[tup6,C,D];have G:=qwI t u;have z:=t.succ u;refine .bind (En.s91 (s (0,l,m+1) (.e_91 ..) ⟨rfl,rfl,rfl,z,by omega,by omega⟩ (by simp only[m91];omega))) λp k=>?_;have x:Aft l m l (m+1):=⟨rfl,by omega,z⟩
  refine .alt (λq e=>?_) λB e=>?_<;>subst e
  . refine s (1,l,m) (.h3_119 ..) ⟨rfl,x.trans k.1,.one v (rowN k.2.1 k.2.2.1 k.2.2.2) ?_,z4,z4⟩ (by simp only[m91];omega);simp only[qoG];omega
  . refine .alt (λq e=>?_) λq e=>?_<;>subst e
    . refine s (1,l,m) (.h3_119 ..) ⟨rfl,x.trans k.1,.one v (rowX k.2.1 k.2.2.1 k.2.2.2) ?_,z4,z4⟩ (by simp only[m91];omega);simp only[zu];omega
    . refine s (1,l,m) (.h3_119 ..) ⟨rfl,x.trans k.1,.one v (rowI k.2.1 k.2.2.1 k.2.2.2) ?_,z4,z4⟩ (by simp only[m91];omega);simp only[zu];omega
theorem e120 {w:Nat}{L:Rs}{i:Int}{a:Rs}{b c d e:Int}(h:J91 w L i (.e_120 a b c d e)):K91 (w,L,i) (.e_120 a b c d e):=λj=>by
 obtain⟨rfl,rfl,rfl,g⟩:=h;simp only[nt,zX];refine .call g λf ⟨E,F,G⟩=>?_;simp only[tup6,E];have t:f.1≠0->∀ op,op≠13->∀ u:By,u.size<=4000->PX a b op [] u (strB []) a (IntKind.i64.wrap (b+1)):=λk op m u H=>by have:=Aft.next g (F k);exact⟨this,.nil m (by have:=this.le;omega),H,z4⟩
 refine .br (λk=>?_) λ_=>.br (λk=>?_) λ_=>.br (λk=>?_) λ_=>.br (λk=>?_) λ_=>?_
 . exact j (2,a,b) (.h0_120 ..) ⟨rfl,t (by simp at k;omega) 20 (by omega) _ z4⟩ (by simp only[m91];omega)
 . exact j (2,a,b) (.h0_120 ..) ⟨rfl,t (by simp at k;omega) 21 (by omega) _ z4⟩ (by simp only[m91];omega)
 . exact j (2,a,b) (.h0_120 ..) ⟨rfl,t (by simp at k;omega) 23 (by omega) _ G⟩ (by simp only[m91];omega)
 . refine .call g λo ⟨v,n,C⟩=>?_;exact j (2,a,b) (.h0_120 ..) ⟨rfl,C,.nil (op:=24) (by omega) (by have:=C.le;simp only;omega),v,n⟩ (by simp only[m91];omega)
 .
  refine .call g λo ⟨v,n⟩=>?_;simp only[tup2,v];refine .br (λm=>?_) λ_=>?_
  .
   refine .call ⟨g,n m⟩ λy ⟨x,A⟩=>?_;simp only[x,A];have M:=qwI g (n m);have D:=g.succ (n m);have B:Aft a b a (b+1):=⟨rfl,by omega,D⟩
   refine .bind (En.s91 (j (0,a,b+1) (.e_91 ..) ⟨rfl,rfl,rfl,D,by omega,by omega⟩ (by simp only[m91];omega))) λp l=>?_;refine .alt (λq e=>?_) λN e=>?_<;>subst e
   . simp only[qoG];refine .call l.1.ti λr s=>?_;exact j (2,a,b) (.h0_120 ..) ⟨rfl,.of B (l.on s)⟩ (by simp only[m91,tup4];omega)
   . refine .alt (λq e=>?_) λq e=>?_<;>subst e
     . simp only[zu];refine .call l.1.ti λr s=>?_;exact j (2,a,b) (.h0_120 ..) ⟨rfl,.of B (l.on s)⟩ (by simp only[m91,tup4];omega)
     . simp only[zu];refine .call l.1.ti λr s=>?_;exact j (2,a,b) (.h1_120 ..) ⟨rfl,.of B (l.on s)⟩ (by simp only[m91,tup4];omega)
  . refine .call g λy ⟨x,A⟩=>?_;simp only[x];refine .br (λI=>?_) λ_=>?_
    . exact j (2,a,b) (.h2_120 ..) ⟨rfl,by omega,.same g,λ_=>A I,z4,z4⟩ (by simp only[m91];omega)
    . refine .call g λz ⟨J,K⟩=>?_;simp only[J];exact j (2,a,b) (.h2_120 ..) ⟨rfl,by omega,.same g,K,z4,z4⟩ (by simp only[m91];omega)
end Ab
end Go.Proofs.YtnnhdcidgfjfpaaGreatDoor
