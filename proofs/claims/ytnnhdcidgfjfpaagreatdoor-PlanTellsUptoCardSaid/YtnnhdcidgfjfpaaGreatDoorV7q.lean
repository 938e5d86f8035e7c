/-
  The document's parser of trees ends. No claim stands here.
-/
import Derived.Test.YtnnhdcidgfjfpaaGreatDoorV6q
set_option linter.all false
namespace Go.Proofs.YtnnhdcidgfjfpaaGreatDoor
namespace Ab
theorem qvm {L:Rs}{i:Int}{a:Rs}{j:Int}(h:Aft L i a j):qvn a j<=qvn L i:=by have:=h.le;have:=h.ti.2.1;have:=h.1;subst this;simp only[qvn];omega
theorem qwI {L:Rs}{i:Int}(h:TI L i)(a:i+1<L.length):qvn L (i+1)+1000<=qvn L i:=by have:=h.2.1;simp only[qvn];omega
abbrev K91 (p:Nat×Rs×Int)(s:S91):Prop:=(∀ b a,I91 b a->m91 a<m91 s->En (QQ b) λk=>itS zX k a)->En (QQ p) λk=>zX k (itS zX k) s
theorem e91 {w:Nat}{L:Rs}{i a:Int}{b:Rs}{c d e f:Int}(h:J91 w L i (.e_91 a b c d e f)):K91 (w,L,i) (.e_91 a b c d e f):=λj=>by
 obtain⟨rfl,rfl,rfl,g,k,l⟩:=h;simp only[nt,zX];refine .br (λ_=>.ret ?_) λ_=>.br (λm=>?_) λm=>?_
 . exact⟨.same g,.nil (op:=0) (by omega) (by show(1:Int)<=2*(c-c)+1;omega),z4,z4⟩
 . exact j (0,b,c) (.h0_91 ..) ⟨rfl,rfl,rfl,g,k,l,λ_=>.inl (by simpa using m)⟩ (by simp only[m91];omega)
 . exact j (0,b,c) (.h0_91 ..) ⟨rfl,rfl,rfl,g,k,l,λh=>.inr (by simpa using h)⟩ (by simp only[m91];omega)
theorem h0_91 {w:Nat}{L:Rs}{v a:Int}{b:Bool}{c d e:Int}{f g:By}{i:Int}{j:Rs}{l m n o:Int}(h:J91 w L v (.h0_91 a b c d e f g i j l m n o)):K91 (w,L,v) (.h0_91 a b c d e f g i j l m n o):=λr=>by
 obtain⟨rfl,rfl,rfl,t,u,z,x⟩:=h;simp only[nt,zX];refine .br (λy=>?_) λ_=>.br (λs=>?_) λs=>?_
 .
  refine .bind (En.s119 (r (1,j,l) (.e_119 ..) ⟨rfl,rfl,rfl,t,x y⟩ (by simp only[m91];omega))) λp k=>?_;refine .alt (λq e=>?_) λq e=>?_<;>subst e
  . exact .ret k
  . exact .ret k
 . refine .bind (En.s120 (r (2,j,l) (.e_120 ..) ⟨rfl,rfl,rfl,t⟩ (by simp only[m91];simp only[beq_iff_eq]at s;omega))) λp k=>?_;exact .ret k
 .
  have s:a≠8:=by simpa using s
  rw[w1 (by omega) (by omega)];refine .bind (En.s91 (r (0,j,l) (.e_91 ..) ⟨rfl,rfl,rfl,t,by omega,by omega⟩ (by simp only[m91];omega))) λp k=>?_;refine .alt (λq e=>?_) λA e=>?_<;>subst e
  . exact r (0,j,l) (.h1_91 ..) ⟨rfl,u,by omega,k⟩ (by have:=qvm k.1;simp only[m91,qoG];omega)
  . refine .alt (λq e=>?_) λq e=>?_<;>subst e
    . exact r (0,j,l) (.h1_91 ..) ⟨rfl,u,by omega,k⟩ (by have:=qvm k.1;simp only[m91,zu];omega)
    . exact r (0,j,l) (.h2_91 ..) ⟨rfl,u,by omega,k⟩ (by have:=qvm k.1;simp only[m91,zu];omega)
theorem h1_91 {w:Nat}{L:Rs}{k a b:Int}{c:Rs}{d e:Int}{f g:By}{i j l m:Int}{n o:By}{p:Int}{q:Rs}{t u v x:Int}(h:J91 w L k (.h1_91 a b c d e f g i j l m n o p q t u v x)):K91 (w,L,k) (.h1_91 a b c d e f g i j l m n o p q t u v x):=λy=>by obtain⟨rfl,z,A,s⟩:=h;simp only[nt,zX];refine .br (λ_=>?_) λ_=>.ret s.i;refine .call trivial λr ⟨B,r2,C,D⟩=>?_;exact y (0,L,k) (.h3_91 ..) ⟨rfl,z,A,B,rfl,r2,Int.le_refl 0,by omega,λh=>absurd rfl h,s⟩ (by simp only[m91];omega)
theorem h2_91 {w:Nat}{L:Rs}{k a b:Int}{c:Rs}{d e:Int}{f g:By}{i j l m:Int}{n o:By}{p:Int}{q:Rs}{t u v x:Int}(h:J91 w L k (.h2_91 a b c d e f g i j l m n o p q t u v x)):K91 (w,L,k) (.h2_91 a b c d e f g i j l m n o p q t u v x):=λy=>by obtain⟨rfl,z,A,s⟩:=h;simp only[nt,zX];refine .br (λ_=>?_) λ_=>.ret s;refine .call trivial λr ⟨B,r2,C,D⟩=>?_;exact y (0,L,k) (.h4_91 ..) ⟨rfl,z,A,B,rfl,r2,Int.le_refl 0,by omega,λh=>absurd rfl h,s⟩ (by simp only[m91];omega)
theorem rowX {op:Int}{X:Rs}{m:Int}(h:GX op X m){b a:By}(c:b.size<=4000)(d:a.size<=4000){n s p:Int}:TR [ic op,.imm (qG X),ic n,ic s,sc b,sc a,ic p] m:=h.row c d rfl
theorem rowO {op:Int}{X:Rs}{m:Int}(h:GX op X m){b a:By}(c:b.size<=4000)(d:a.size<=4000){n s p:Int}:TR [ic op,.own 7 X,ic n,ic s,sc b,sc a,ic p] m:=h.row c d rfl
theorem rowI {op:Int}{X:Rs}{m:Int}(h:GI op X m){b a:By}(c:b.size<=4000)(d:a.size<=4000){n s p:Int}:TR [ic op,.imm X,ic n,ic s,sc b,sc a,ic p] m:=h.x.row c d (by rw[h.imm];rfl)
theorem rowN {op m:Int}(h:GX op [] m){b a:By}(c:b.size<=4000)(d:a.size<=4000){n s p:Int}:TR [ic op,.nil,ic n,ic s,sc b,sc a,ic p] m:=h.row c d rfl
theorem h3_91 {w:Nat}{L:Rs}{B a:Int}{b:Rs}{c d e f g:Int}{X:Rs}{j l:Int}{m n:By}{o p q t:Int}{u v:By}{x':Int}{x:Rs}{y z K M:Int}(h:J91 w L B (.h3_91 a b c d e f g X j l m n o p q t u v x' x y z K M)):K91 (w,L,B) (.h3_91 a b c d e f g X j l m n o p q t u v x' x y z K M):=λC=>by
 obtain⟨rfl,D,E,G,Q,N,H,R,O,k⟩:=h;simp only[nt,zX];rw[Q];refine .br (λP=>?_) λ_=>.br (λ_=>.ret k.i) λhd=>?_
 .
  simp only[aW]at P;refine .ixR H P λrow I=>?_;obtain⟨s,rfl,_⟩:=G.at I;simp only[qwu];refine .call k.1.ti λr ⟨J,r2⟩=>?_;simp only[tup2,J];refine .br (λI=>?_) λ_=>?_
  . exact C (0,L,B) (.h5_91 ..) ⟨rfl,D,E,G,rfl,N,H,by omega,λ_=>r2 I,k⟩ (by simp only[m91];omega)
  . exact C (0,L,B) (.h5_91 ..) ⟨rfl,D,E,G,rfl,N,H,by omega,O,k⟩ (by simp only[m91];omega)
 .
  have hd:=O (by simpa using hd);refine .call k.1.ti λr ⟨J,_,_⟩=>?_;simp only[tup6,J];have F:=k.1.step hd;have S:=qwI k.1.ti hd;rw[k.1.ti.w]at *;rw[w1 (i:=a) (by omega) (by omega)];refine .bind (En.s91 (C (0,x,y+1) (.e_91 ..) ⟨rfl,rfl,rfl,F.ti,by omega,by omega⟩ (by simp only[m91];omega))) λp A=>?_;refine .alt (λq e=>?_) λT e=>?_<;>subst e
  . refine C (0,L,B) (.h6_91 ..) ⟨rfl,D,E,F.trans A.1,.two (rowX k.2.1 k.2.2.1 k.2.2.2) (rowN A.2.1 A.2.2.1 A.2.2.2) ?_,z4,z4⟩ ?_
    . simp only[qoG];omega
    . have:=qvm A.1;simp only[m91,qoG];omega
  .
   refine .alt (λq e=>?_) λq e=>?_<;>subst e
   . refine C (0,L,B) (.h6_91 ..) ⟨rfl,D,E,F.trans A.1,.two (rowX k.2.1 k.2.2.1 k.2.2.2) (rowO A.2.1 A.2.2.1 A.2.2.2) ?_,z4,z4⟩ ?_
     . simp only[zu];omega
     . have:=qvm A.1;simp only[m91,zu];omega
   . refine C (0,L,B) (.h6_91 ..) ⟨rfl,D,E,F.trans A.1,.two (rowX k.2.1 k.2.2.1 k.2.2.2) (rowI A.2.1 A.2.2.1 A.2.2.2) ?_,z4,z4⟩ ?_
     . simp only[zu];omega
     . have:=qvm A.1;simp only[m91,zu];omega
theorem h4_91 {w:Nat}{L:Rs}{B a:Int}{b:Rs}{c d e f g:Int}{X:Rs}{j l:Int}{m n:By}{o p q t:Int}{u v:By}{x':Int}{x:Rs}{y z K M:Int}(h:J91 w L B (.h4_91 a b c d e f g X j l m n o p q t u v x' x y z K M)):K91 (w,L,B) (.h4_91 a b c d e f g X j l m n o p q t u v x' x y z K M):=λC=>by
 obtain⟨rfl,D,E,G,Q,N,H,R,O,k⟩:=h;simp only[nt,zX];rw[Q];refine .br (λP=>?_) λ_=>.br (λ_=>.ret k) λhd=>?_
 .
  simp only[aW]at P;refine .ixR H P λrow I=>?_;obtain⟨s,rfl,_⟩:=G.at I;simp only[qwu];refine .call k.1.ti λr ⟨J,r2⟩=>?_;simp only[tup2,J];refine .br (λI=>?_) λ_=>?_
  . exact C (0,L,B) (.h7_91 ..) ⟨rfl,D,E,G,rfl,N,H,by omega,λ_=>r2 I,k⟩ (by simp only[m91];omega)
  . exact C (0,L,B) (.h7_91 ..) ⟨rfl,D,E,G,rfl,N,H,by omega,O,k⟩ (by simp only[m91];omega)
 .
  have hd:=O (by simpa using hd);refine .call k.1.ti λr ⟨J,_,_⟩=>?_;simp only[tup6,J];have F:=k.1.step hd;have S:=qwI k.1.ti hd;rw[k.1.ti.w]at *;rw[w1 (i:=a) (by omega) (by omega)];refine .bind (En.s91 (C (0,x,y+1) (.e_91 ..) ⟨rfl,rfl,rfl,F.ti,by omega,by omega⟩ (by simp only[m91];omega))) λp A=>?_;refine .alt (λq e=>?_) λT e=>?_<;>subst e
  . refine C (0,L,B) (.h6_91 ..) ⟨rfl,D,E,F.trans A.1,.two (rowI k.2.1 k.2.2.1 k.2.2.2) (rowN A.2.1 A.2.2.1 A.2.2.2) ?_,z4,z4⟩ ?_
    . simp only[qoG];omega
    . have:=qvm A.1;simp only[m91,qoG];omega
  .
   refine .alt (λq e=>?_) λq e=>?_<;>subst e
   . refine C (0,L,B) (.h6_91 ..) ⟨rfl,D,E,F.trans A.1,.two (rowI k.2.1 k.2.2.1 k.2.2.2) (rowO A.2.1 A.2.2.1 A.2.2.2) ?_,z4,z4⟩ ?_
     . simp only[zu];omega
     . have:=qvm A.1;simp only[m91,zu];omega
   . refine C (0,L,B) (.h6_91 ..) ⟨rfl,D,E,F.trans A.1,.two (rowI k.2.1 k.2.2.1 k.2.2.2) (rowI A.2.1 A.2.2.1 A.2.2.2) ?_,z4,z4⟩ ?_
     . simp only[zu];omega
     . have:=qvm A.1;simp only[m91,zu];omega
end Ab
end Go.Proofs.YtnnhdcidgfjfpaaGreatDoor
