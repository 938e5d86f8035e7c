/-
  The document's parser of trees ends; the trees that it gives, as data. No claim stands here.
-/
import Derived.Test.YtnnhdcidgfjfpaaGreatDoorV5q
set_option linter.all false
namespace Go.Proofs.YtnnhdcidgfjfpaaGreatDoor
namespace Ab
inductive Tx where
 |mk (op n s p:Int) (nm att:By) (args:List Tx)
mutual
def trow:Tx->List Cell
 |.mk op n s p b a args=>[ic op,.imm (trows args),ic n,ic s,sc b,sc a,ic p]
def trows:List Tx->Rs
 |[]=>[]
 |t::l=>trow t::trows l
end
mutual
def Tx.cnt:Tx->Nat
 |.mk _ _ _ _ _ _ args=>1+cnts args
def cnts:List Tx->Nat
 |[]=>0
 |t::l=>t.cnt+cnts l
end
inductive Tx.Good:Tx->Prop
 |mk {op n s p:Int} {nm att:By} {args:List Tx}:(∀ t∈args,t.Good)->(op=13->args.length=2)->nm.size<=4000->att.size<=4000->Good (.mk op n s p nm att args)
theorem qCZ (t:Tx):qfz (trow t)=trow t:=by obtain⟨op,n,s,p,b,a,args⟩:=t;rfl
theorem qxR:∀ l:List Tx,qG (trows l)=trows l
 |[]=>rfl
 |t::l=>by rw[trows,qG,qCZ,qxR l]
def GX (op:Int)(X:Rs)(m:Int):Prop:=∃ ts:List Tx,qG X=trows ts/\(∀ t∈ts,t.Good)/\(op=13->ts.length=2)/\(cnts ts:Int)+1<=m
def GI (op:Int)(X:Rs)(m:Int):Prop:=∃ ts:List Tx,X=trows ts/\(∀ t∈ts,t.Good)/\(op=13->ts.length=2)/\(cnts ts:Int)+1<=m
theorem GX.i {op:Int}{X:Rs}{m:Int}(h:GX op X m):GI op (qG X) m:=h
theorem GI.imm {op:Int}{X:Rs}{m:Int}(h:GI op X m):qG X=X:=by obtain⟨ts,rfl,_⟩:=h;exact qxR ts
theorem GI.x {op:Int}{X:Rs}{m:Int}(h:GI op X m):GX op X m:=by have:=h.imm;obtain⟨ts,a,b⟩:=h;exact⟨ts,by rw[this];exact a,b⟩
theorem GX.mono {op:Int}{X:Rs}{m n:Int}(h:GX op X m)(e:m<=n):GX op X n:=by obtain⟨ts,a,b,c,d⟩:=h;exact⟨ts,a,b,c,by omega⟩
theorem GI.mono {op:Int}{X:Rs}{m n:Int}(h:GI op X m)(e:m<=n):GI op X n:=by obtain⟨ts,a,b,c,d⟩:=h;exact⟨ts,a,b,c,by omega⟩
theorem GX.nil {op m:Int}(h:op≠13)(a:1<=m):GX op [] m:=⟨[],rfl,by simp,λe=>absurd e h,by simp[cnts];omega⟩
def TR (r:List Cell)(m:Int):Prop:=∃ t:Tx,qfz r=trow t/\t.Good/\(t.cnt:Int)<=m
theorem GX.row {op:Int}{X:Rs}{m:Int}(h:GX op X m){b a:By}(c:b.size<=4000)(d:a.size<=4000){n s p:Int}{r:List Cell}(e:qfz r=[ic op,.imm (qG X),ic n,ic s,sc b,sc a,ic p]):TR r m:=by obtain⟨ts,f,g,i,j⟩:=h;exact⟨.mk op n s p b a ts,by rw[e,f];rfl,.mk g i c d,by simp only[Tx.cnt];omega⟩
theorem GX.two {op m:Int}{c r2:List Cell}{a b:Int}(d:TR c a)(e:TR r2 b)(h:a+b+1<=m):GX op [c,r2] m:=by obtain⟨t,f,g,c1⟩:=d;obtain⟨u,i,j,k⟩:=e;exact⟨[t,u],by simp[qG,trows,f,i],by simp[g,j],λ_=>rfl,by simp only[cnts];omega⟩
theorem GX.one {op m:Int}{b:List Cell}{a:Int}(c:op≠13)(d:TR b a)(h:a+1<=m):GX op [b] m:=by obtain⟨t,f,g,c1⟩:=d;exact⟨[t],by simp[qG,trows,f],by simp[g],λe=>absurd e c,by simp only[cnts];omega⟩
def PX (L:Rs)(i op:Int)(X:Rs)(b a:By)(c:Rs)(j:Int):Prop:=Aft L i c j/\GX op X (2*(j-i)+1)/\b.size<=4000/\a.size<=4000
def PI (L:Rs)(i op:Int)(X:Rs)(b a:By)(c:Rs)(j:Int):Prop:=Aft L i c j/\GI op X (2*(j-i)+1)/\b.size<=4000/\a.size<=4000
theorem PX.i {L:Rs}{i op:Int}{X:Rs}{b a:By}{c:Rs}{j:Int}(h:PX L i op X b a c j):PI L i op (qG X) b a c j:=h
theorem PI.x {L:Rs}{i op:Int}{X:Rs}{b a:By}{c:Rs}{j:Int}(h:PI L i op X b a c j):PX L i op X b a c j:=⟨h.1,h.2.1.x,h.2.2⟩
theorem PX.on {L:Rs}{i op:Int}{X:Rs}{b a:By}{c:Rs}{j:Int}{d:Rs}{l:Int}(h:PX L i op X b a c j)(e:Aft c j d l):PX L i op X b a d l:=⟨h.1.trans e,h.2.1.mono (by have:=e.le;omega),h.2.2⟩
theorem PI.on {L:Rs}{i op:Int}{X:Rs}{b a:By}{c:Rs}{j:Int}{d:Rs}{l:Int}(h:PI L i op X b a c j)(e:Aft c j d l):PI L i op X b a d l:=⟨h.1.trans e,h.2.1.mono (by have:=e.le;omega),h.2.2⟩
theorem PX.of {L:Rs}{i op:Int}{X:Rs}{b a:By}{c d:Rs}{j e:Int}(f:Aft d e L i)(h:PX L i op X b a c j):PX d e op X b a c j:=⟨f.trans h.1,h.2.1.mono (by have:=f.le;omega),h.2.2⟩
theorem PI.of {L:Rs}{i op:Int}{X:Rs}{b a:By}{c d:Rs}{j e:Int}(f:Aft d e L i)(h:PI L i op X b a c j):PI d e op X b a c j:=⟨f.trans h.1,h.2.1.mono (by have:=f.le;omega),h.2.2⟩
def Q91 (L:Rs)(i:Int):qxC->Prop
 |.inl q=>PX L i q.1 [] q.2.2.2.1 q.2.2.2.2.1 q.2.2.2.2.2.2.1 q.2.2.2.2.2.2.2.1
 |.inr (.inl q)=>PX L i q.1 q.2.1 q.2.2.2.2.1 q.2.2.2.2.2.1 q.2.2.2.2.2.2.2.1 q.2.2.2.2.2.2.2.2.1
 |.inr (.inr q)=>PI L i q.1 q.2.1 q.2.2.2.2.1 q.2.2.2.2.2.1 q.2.2.2.2.2.2.2.1 q.2.2.2.2.2.2.2.2.1
def Q119 (L:Rs)(i:Int):qxa->Prop
 |.inl q=>PX L i q.1 q.2.1 q.2.2.2.2.1 q.2.2.2.2.2.1 q.2.2.2.2.2.2.2.1 q.2.2.2.2.2.2.2.2.1
 |.inr q=>PI L i q.1 q.2.1 q.2.2.2.2.1 q.2.2.2.2.2.1 q.2.2.2.2.2.2.2.1 q.2.2.2.2.2.2.2.2.1
def Q120 (L:Rs)(i:Int)(q:qxb):Prop:=PI L i q.1 q.2.1 q.2.2.2.2.1 q.2.2.2.2.2.1 q.2.2.2.2.2.2.2.1 q.2.2.2.2.2.2.2.2.1
def QQ:Nat×Rs×Int->R91->Prop
 |(0,L,i),.inl r=>Q91 L i r
 |(1,L,i),.inr (.inl r)=>Q119 L i r
 |(2,L,i),.inr (.inr r)=>Q120 L i r
 |_,_=>False
theorem En.s91 {L:Rs}{i:Int}{t:Nat->Option R91}(h:En (QQ (0,L,i)) t):En (Q91 L i) λk=>qxf (t k):=by
 obtain⟨r,a,N,b⟩:=h
 match r,a,b with
 |.inl r,a,b=>exact⟨r,a,N,λk c=>by show qxf (t k)=_;rw[b k c];rfl⟩
theorem En.s119 {L:Rs}{i:Int}{t:Nat->Option R91}(h:En (QQ (1,L,i)) t):En (Q119 L i) λk=>qyx (t k):=by
 obtain⟨r,a,N,b⟩:=h
 match r,a,b with
 |.inr (.inl r),a,b=>exact⟨r,a,N,λk c=>by show qyx (t k)=_;rw[b k c];rfl⟩
theorem En.s120 {L:Rs}{i:Int}{t:Nat->Option R91}(h:En (QQ (2,L,i)) t):En (Q120 L i) λk=>qyy (t k):=by
 obtain⟨r,a,N,b⟩:=h
 match r,a,b with
 |.inr (.inr r),a,b=>exact⟨r,a,N,λk c=>by show qyy (t k)=_;rw[b k c];rfl⟩
theorem En.loopP {P S R:Type}{step:Nat->(S->Option R)->S->Option R}(I:P->S->Prop)(Q:P->R->Prop)(μ:S->Nat)(h:∀ p s,I p s->(∀ b a,I b a->μ a<μ s->En (Q b) λk=>itS step k a)->En (Q p) λk=>step k (itS step k) s)(p:P)(s:S)(c:I p s):En (Q p) λk=>itS step k s:=by
 generalize d:μ s=m
 induction m using Nat.strongRecOn generalizing s p with
 |_ m e=>exact .go (h p s c λb a f g=>e _ (d▸g) b a f rfl)
def J91 (w:Nat)(L:Rs)(i:Int):S91->Prop
 |.e_91 a b c d e f=>w=0/\b=L/\c=i/\TI L i/\1<=a/\a<=8
 |.h0_91 a b c d e f g _ j l m n o=>w=0/\j=L/\l=i/\TI L i/\1<=a/\a<=8/\(b=true->a=3\/a=7)
 |.h1_91 a b c d e f g _ j l m n o p q t u v x=>w=0/\1<=a/\a<=7/\PX L i b c f g q t
 |.h2_91 a b c d e f g _ j l m n o p q t u v x=>w=0/\1<=a/\a<=7/\PI L i b c f g q t
 |.h3_91 a b c d e f g X j l m n o p q t u v _ x y z h k=>w=0/\1<=a/\a<=7/\AllS b/\e=b.length/\b.length<=6/\0<=f/\f<=6/\(d≠0->y+1<x.length)/\PX L i g X m n x y
 |.h4_91 a b c d e f g X j l m n o p q t u v _ x y z h k=>w=0/\1<=a/\a<=7/\AllS b/\e=b.length/\b.length<=6/\0<=f/\f<=6/\(d≠0->y+1<x.length)/\PI L i g X m n x y
 |.h5_91 a b c d e f g X j l m n o p q t u v _ x y z h k=>w=0/\1<=a/\a<=7/\AllS b/\e=b.length/\b.length<=6/\0<=f/\f<6/\(d≠0->y+1<x.length)/\PX L i g X m n x y
 |.h7_91 a b c d e f g X j l m n o p q t u v _ x y z h k=>w=0/\1<=a/\a<=7/\AllS b/\e=b.length/\b.length<=6/\0<=f/\f<6/\(d≠0->y+1<x.length)/\PI L i g X m n x y
 |.h6_91 a b c d e f g r j l m n o p q t u v x y=>w=0/\1<=a/\a<=7/\PX L i c d g r t u
 |.e_119 a b c d e f=>w=1/\b=L/\c=i/\TI L i/\(a=3\/a=7)
 |.h0_119 a b c d e f g _ j l m n o p=>w=1/\l=L/\m=i/\TI L i/\(a=3\/a=7)/\(c=6\/c=15)
 |.h1_119 a b c d e f g x j l m n=>w=1/\PX L i a b e f x j
 |.h2_119 a b c d e f g x j l m n=>w=1/\PI L i a b e f x j
 |.h3_119 a b c d e f g x j l m n=>w=1/\PX L i a b e f x j
 |.e_120 a b c d e=>w=2/\a=L/\b=i/\TI L i
 |.h0_120 a b c d e f g _ j l m n o p q t u v=>w=2/\PX L i a b e f p q
 |.h1_120 a b c d e f g _ j l m n o p q t u v=>w=2/\PI L i a b e f p q
 |.h2_120 a b c d e f g _ j l m n o p q t u v=>w=2/\b≠13/\Aft L i p q/\(a=true->q+1<p.length)/\e.size<=4000/\f.size<=4000
 |.h3_120 a b c d e f g _ j l m n o p q t u=>w=2/\a≠13/\Aft L i o p/\p+1<o.length/\d.size<=4000/\e.size<=4000
 |.h4_120 a b c d e f g _ j l m n o p q t u v=>w=2/\b≠13/\Aft L i p q/\(a=true->q+1<p.length)/\e.size<=4000/\f.size<=4000
 |.h5_120 a b c d e f g _ j l m n o p q t u=>w=2/\a≠13/\Aft L i o p/\p+1<o.length/\d.size<=4000/\e.size<=4000
 |.h6_120 a b c d e f g _ j l m n o p q t u v=>w=2/\a≠13/\b=[]/\Aft L i p q/\e.size<=4000/\f.size<=4000
def I91 (p:Nat×Rs×Int)(s:S91):Prop:=J91 p.1 p.2.1 p.2.2 s
def qvn (L:Rs)(i:Int):Nat:=1000*(L.length-i.toNat)
def m91:S91->Nat
 |.e_91 a b c d e f=>qvn b c+(500-50*a.toNat)
 |.h0_91 a b c d e f g i j l m n o=>qvn j l+(499-50*a.toNat)
 |.h1_91 a b c d e f g i j l m n o p q t u v x=>qvn q t+(480-50*a.toNat)
 |.h2_91 a b c d e f g i j l m n o p q t u v x=>qvn q t+(480-50*a.toNat)
 |.h3_91 a b c d e f g X j l m n o p q t u v _ x y z h k=>qvn x y+(479-50*a.toNat-2*f.toNat)
 |.h4_91 a b c d e f g X j l m n o p q t u v _ x y z h k=>qvn x y+(479-50*a.toNat-2*f.toNat)
 |.h5_91 a b c d e f g X j l m n o p q t u v _ x y z h k=>qvn x y+(478-50*a.toNat-2*f.toNat)
 |.h7_91 a b c d e f g X j l m n o p q t u v _ x y z h k=>qvn x y+(478-50*a.toNat-2*f.toNat)
 |.h6_91 a b c d e f g r j l m n o p q t u v x y=>qvn t u+(490-50*a.toNat)
 |.e_119 a b c d e f=>qvn b c+(498-50*a.toNat)
 |.h0_119 a b c d e f g i j l m n o p=>qvn l m+(497-50*a.toNat)
 |.h1_119 ..=>0
 |.h2_119 ..=>0
 |.h3_119 ..=>0
 |.e_120 a b c d e=>qvn a b+98
 |.h0_120 ..=>0
 |.h1_120 ..=>0
 |.h2_120 a b c d e f g _ j l m n o p q t u v=>qvn p q+90
 |.h3_120 a b c d e f g _ j l m n o p q t u=>qvn o p+80
 |.h4_120 a b c d e f g _ j l m n o p q t u v=>qvn p q+85
 |.h5_120 a b c d e f g _ j l m n o p q t u=>qvn o p+84
 |.h6_120 a b c d e f g _ j l m n o p q t u v=>qvn p q+84
end Ab
end Go.Proofs.YtnnhdcidgfjfpaaGreatDoor
