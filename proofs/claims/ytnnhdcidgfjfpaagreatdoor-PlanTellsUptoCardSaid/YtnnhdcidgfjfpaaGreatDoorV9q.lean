/-
  The document's parser of trees ends: what is left of it; the whole. No claim stands here.
-/
import Derived.Test.YtnnhdcidgfjfpaaGreatDoorV8q
set_option linter.all false
namespace Go.Proofs.YtnnhdcidgfjfpaaGreatDoor
namespace Ab
theorem h2_120 {w:Nat}{L:Rs}{s:Int}{a:Bool}{b c d:Int}{e f:By}{g i j l:Int}{m n:By}{o:Int}{p:Rs}{q t u v:Int}(h:J91 w L s (.h2_120 a b c d e f g i j l m n o p q t u v)):K91 (w,L,s) (.h2_120 a b c d e f g i j l m n o p q t u v):=λx=>by
 obtain⟨rfl,C,k,D,y,A⟩:=h;simp only[nt,zX];refine .br (λE=>?_) λ_=>?_
 .
  refine .call k.ti λr ⟨B,r2⟩=>?_;simp only[tup2,B];refine .br (λ_=>?_) λ_=>?_
  . exact x (2,L,s) (.h3_120 ..) ⟨rfl,by omega,k,D E,y,A⟩ (by simp only[m91];omega)
  . exact x (2,L,s) (.h3_120 ..) ⟨rfl,by omega,k,D E,y,A⟩ (by simp only[m91];omega)
 .
  refine .call k.ti λr ⟨B,r2⟩=>?_;simp only[tup2,B];refine .br (λF=>?_) λ_=>?_
  . exact x (2,L,s) (.h4_120 ..) ⟨rfl,C,k,λ_=>r2 F,y,A⟩ (by simp only[m91];omega)
  . refine .call k.ti λz ⟨G,H⟩=>?_;simp only[G];exact x (2,L,s) (.h4_120 ..) ⟨rfl,C,k,H,y,A⟩ (by simp only[m91];omega)
theorem h3_120 {w:Nat}{L:Rs}{k a b c:Int}{d e:By}{f g i j:Int}{l m:By}{n:Int}{o:Rs}{p q t u:Int}(h:J91 w L k (.h3_120 a b c d e f g i j l m n o p q t u)):K91 (w,L,k) (.h3_120 a b c d e f g i j l m n o p q t u):=λr=>by obtain⟨rfl,v,x,y,z,A⟩:=h;simp only[nt,zX];have s:=x.step y;exact r (2,L,k) (.h0_120 ..) ⟨rfl,s,.nil v (by have:=s.le;dsimp only;omega),z,A⟩ (by simp only[m91];omega)
theorem h4_120 {w:Nat}{L:Rs}{k:Int}{a:Bool}{b c d:Int}{e f:By}{g i j l:Int}{m n:By}{o:Int}{p:Rs}{q t u v:Int}(h:J91 w L k (.h4_120 a b c d e f g i j l m n o p q t u v)):K91 (w,L,k) (.h4_120 a b c d e f g i j l m n o p q t u v):=λx=>by
 obtain⟨rfl,C,s,A,y,z⟩:=h;simp only[nt,zX];refine .br (λB=>?_) λ_=>?_
 .
  refine .call s.ti λr ⟨D,r2⟩=>?_;simp only[tup2,D];refine .br (λ_=>?_) λ_=>?_
  . exact x (2,L,k) (.h5_120 ..) ⟨rfl,by omega,s,A B,y,z⟩ (by simp only[m91];omega)
  . exact x (2,L,k) (.h5_120 ..) ⟨rfl,by omega,s,A B,y,z⟩ (by simp only[m91];omega)
 . exact x (2,L,k) (.h6_120 ..) ⟨rfl,C,rfl,s,y,z⟩ (by simp only[m91];omega)
theorem h5_120 {w:Nat}{L:Rs}{v a b c:Int}{d e:By}{f g i j:Int}{l m:By}{n:Int}{o:Rs}{p q t u:Int}(h:J91 w L v (.h5_120 a b c d e f g i j l m n o p q t u)):K91 (w,L,v) (.h5_120 a b c d e f g i j l m n o p q t u):=λD=>by
 obtain⟨rfl,E,A,F,G,H⟩:=h;simp only[nt,zX];refine .call ⟨A.ti,F⟩ λy ⟨J,K⟩=>?_;simp only[tup6,J,K];have M:=qwI A.ti F;have I:Aft L v o (p+1):=by have:=A.step F;rwa [A.ti.w]at this
 refine .call I.ti λz B=>?_;simp only[tup4];have C:=I.trans B;have N:=qvm B;refine .bind (En.s91 (D (0,z.1,z.2.1) (.e_91 ..) ⟨rfl,rfl,rfl,C.ti,by omega,by omega⟩ (by simp only[m91];omega))) λx k=>?_;have lt:=A.le;have O:=C.le;refine .alt (λq e=>?_) λP e=>?_<;>subst e
 . simp only[qoG];refine .call k.1.ti λr s=>?_;refine D (2,L,v) (.h0_120 ..) ⟨rfl,(C.trans k.1).trans s,.one E (rowN k.2.1 k.2.2.1 k.2.2.2) ?_,G,H⟩ (by simp only[m91];omega);have:=s.le;have:=B.le;dsimp only;omega
 .
  refine .alt (λq e=>?_) λq e=>?_<;>subst e
  . simp only[zu];refine .call k.1.ti λr s=>?_;refine D (2,L,v) (.h0_120 ..) ⟨rfl,(C.trans k.1).trans s,.one E (rowO k.2.1 k.2.2.1 k.2.2.2) ?_,G,H⟩ (by simp only[m91];omega);have:=s.le;have:=B.le;dsimp only;omega
  . simp only[zu];refine .call k.1.ti λr s=>?_;refine D (2,L,v) (.h0_120 ..) ⟨rfl,(C.trans k.1).trans s,.one E (rowI k.2.1 k.2.2.1 k.2.2.2) ?_,G,H⟩ (by simp only[m91];omega);have:=s.le;have:=B.le;dsimp only;omega
theorem h6_120 {w:Nat}{L:Rs}{k a:Int}{b:Rs}{c d:Int}{e f:By}{g i j l:Int}{m n:By}{o:Int}{p:Rs}{q t u v:Int}(h:J91 w L k (.h6_120 a b c d e f g i j l m n o p q t u v)):K91 (w,L,k) (.h6_120 a b c d e f g i j l m n o p q t u v):=λy=>by obtain⟨rfl,F,rfl,x,z,A⟩:=h;simp only[nt,zX];refine .call ⟨x.ti,z,A⟩ λr ⟨B,r2,C,D,E⟩=>?_;simp only[tup8];have s:=x.trans B;refine y (2,L,k) (.h0_120 ..) ⟨rfl,s,?_,D,E⟩ (by simp only[m91];omega);rw[C];exact .nil (by rcases r2 with r2|r2<;>omega) (by have:=s.le;dsimp only;omega)
theorem qFM:∀ p s,I91 p s->(∀ e d,I91 e d->m91 d<m91 s->En (QQ e) λk=>itS zX k d)->En (QQ p) λk=>zX k (itS zX k) s:=λ⟨w,L,i⟩ s h a=>match s,h,a with
 |.e_91 ..,h,a=>e91 h a
 |.h0_91 ..,h,a=>h0_91 h a
 |.h1_91 ..,h,a=>h1_91 h a
 |.h2_91 ..,h,a=>h2_91 h a
 |.h3_91 ..,h,a=>h3_91 h a
 |.h4_91 ..,h,a=>h4_91 h a
 |.h5_91 ..,h,a=>h5_91 h a
 |.h6_91 ..,h,a=>h6_91 h a
 |.h7_91 ..,h,a=>h7_91 h a
 |.e_119 ..,h,a=>e119 h a
 |.h0_119 ..,h,a=>h0_119 h a
 |.h1_119 ..,⟨b,c⟩,a=>by have b:w=1:=b;subst b;exact .ret c
 |.h2_119 ..,⟨b,c⟩,a=>by have b:w=1:=b;subst b;exact .ret c
 |.h3_119 ..,⟨b,c⟩,a=>by have b:w=1:=b;subst b;exact .ret c
 |.e_120 ..,h,a=>e120 h a
 |.h0_120 ..,⟨b,c⟩,a=>by have b:w=2:=b;subst b;exact .ret c.i
 |.h1_120 ..,⟨b,c⟩,a=>by have b:w=2:=b;subst b;exact .ret c
 |.h2_120 ..,h,a=>h2_120 h a
 |.h3_120 ..,h,a=>h3_120 h a
 |.h4_120 ..,h,a=>h4_120 h a
 |.h5_120 ..,h,a=>h5_120 h a
 |.h6_120 ..,h,a=>h6_120 h a
instance {a:Int} {b:Rs} {c d e f:Int}:Ends (λk=>g91 k a b c d e f) (TI b c/\1<=a/\a<=8) (Q91 b c):=⟨λ⟨g,h,i⟩=>.s91 (.loopP I91 QQ m91 qFM (0,b,c) (.e_91 a b c d e f) ⟨rfl,rfl,rfl,g,h,i⟩)⟩
end Ab
end Go.Proofs.YtnnhdcidgfjfpaaGreatDoor
