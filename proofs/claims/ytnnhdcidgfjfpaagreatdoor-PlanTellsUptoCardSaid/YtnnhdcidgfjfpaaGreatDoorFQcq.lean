/-
  Functions' ways, printed by a program: what each computes, and that this is what the interpreter computes.
-/
import Derived.Test.YtnnhdcidgfjfpaaGreatDoorFQbq
import Derived.KernelRfl
set_option linter.all false
set_option maxRecDepth 10000
set_option maxHeartbeats 8000000
namespace Go.Proofs.YtnnhdcidgfjfpaaGreatDoor
namespace Ab
variable [Glob]
inductive S78b where
 |e (a:By)(b c d:Rs)(e f:Int)
 |h0 (a:By)(b c:Int)(d:By)(e f g i j:Int)(l m n:Rs)(o p:Int)
abbrev R78b:=By×Int×Int×Int×Int×Int×Bool×Rs×Rs×Rs
inductive S79b where
 |e (a b:Int)(c d e:Rs)(f g:Int)
abbrev R79b:=Rs×Rs×Rs×Int×Int
inductive S113 where
 |e (a:Rs)(b:By)
 |h0 (a:By)(b:Rs)(c d:Int)
abbrev R113:=Int
inductive S81 where
 |e (a b:Rs)(c:Int)(d:By)
 |h0 (a:Int)(b:By)(c:Bool)(d e:Rs)
 |h1 (a:By)(b:Rs)(c d:Int)
 |h2
abbrev R81:=Int
inductive S80 where
 |e (a b:Rs)(c d:Int)
 |h0 (a b:Int)(c:Bool)(d e:Rs)
 |h1 (a b:Int)(c:Bool)(d e:Rs)
abbrev R80:=Int
inductive S115 where
 |e (a:Int)(b:Rs)
 |h0 (a b:Int)(c:Bool)
 |h1 (a:Int)(b:Rs)(c:Bool)
 |h2 (a b:Int)(c:Bool)
 |h3 (a b:Int)(c:Bool)
 |h4 (a:Bool)
 |h5 (a:Bool)
abbrev R115:=Int
inductive S39b where
 |e (a:Int)(b:Rs)(c:Int)(d e f:Rs)(g i:Int)
 |h0 (a b:Int)(c:Rs)(d e f g:Int)(i:Rs)(j l:Int)(m n o:Rs)(p q:Int)
 |h1 (a b c d:Int)(e:Rs)(f g:Int)(i:Bool)(j:Int)(l m:By)(n o p:Int)(q:Rs)(t u:Int)(v w x:Rs)(y z:Int)
 |h2 (a b c d:Int)(e:Rs)(f g i:Int)(j l:By)(m n o:Int)(p:Rs)(q t:Int)(u v w:Rs)(x y:Int)
 |h3 (a b c d:Int)(e:Rs)(f g:Int)(i:Bool)(j:Int)(l m:By)(n o p:Int)(q:Rs)(t u:Int)(v w x:Rs)(y z:Int)
 |h4 (a b c d:Int)(e:Rs)(f g i:Int)(j l:By)(m n o:Int)(p:Rs)(q t:Int)(u v w:Rs)(x y:Int)
 |h5 (a b c:Int)(d:Rs)(e f g:Int)(i j:By)(l m n:Int)(o:Rs)(p q:Int)(t u v:Rs)(w x:Int)
abbrev R39b:=Int×Int×Rs×Rs×Rs×Rs×Int×Int
inductive S79c where
 |e (a b:Int)(c d e:Rs)(f g:Int)
abbrev R79c:=Rs×Rs×Rs×Int×Int
inductive S40b where
 |e (a b:Rs)(c d:Int)(e:By)(f:Int)(g i j:Rs)(l m:Int)
 |h0 (a:Bool)(b c:Rs)(d e:Int)(f:By)(g:Int)(i j l:Rs)(m n:Int)
 |h1 (a b c d:Rs)(e f:Int)
 |h2 (a:Int)(b c:Rs)(d e:Int)(f:By)(g:Int)(i j l:Rs)(m n:Int)
 |h3 (a:Int)(b:Rs)(c d:Int)(e f:Rs)(g i:Int)(j:By)(l:Int)(m n o:Rs)(p q:Int)
 |h4 (a:Int)(b:Rs)(c d:Int)(e f:Rs)(g i:Int)(j:By)(l:Int)(m n o:Rs)(p q:Int)
 |h5 (a:Int)(b:Rs)(c d:Int)(e f:Rs)(g i:Int)(j:By)(l:Int)(m n o:Rs)(p q:Int)
 |h6 (a:Int)(b:Rs)(c d e:Int)(f:Bool)(g i:Rs)(j l:Int)(m:By)(n:Int)(o p q:Rs)(t u:Int)
 |h7 (a b c d:Rs)(e f:Int)
 |h8 (a:Int)(b:Rs)(c d e:Int)(f g:Rs)(i j:Int)(l:By)(m:Int)(n o p:Rs)(q t:Int)
abbrev R40b:=(Rs×Rs×Rs×Rs×Int×Int)⊕(Rs×Rs×Rs×Rs×Int×Int)
inductive S140 where
 |e (a:Int)
 |h0 (a b:Int)
 |h1 (a b c:Int)
 |h2 (a b c:Int)(d:Bool)
 |h3 (a b c:Int)
abbrev R140:=Int
inductive S116 where
 |e (a b:Int)
 |h0 (a b:Int)(c:Bool)
 |h1 (a b c d:Int)
abbrev R116:=Int×Bool
inductive S78c where
 |e (a:By)(b c d:Rs)(e f:Int)
 |h0 (a:By)(b:Rs)(c d:Int)(e:By)(f g i j l:Int)(m n o:Rs)(p q:Int)
abbrev R78c:=By×Int×Int×Int×Int×Int×Bool×Rs×Rs×Rs
inductive S114c where
 |e (a:Int)(b:Rs)(c d:Int)(e f:By)(g:Int)(i j l:Rs)(m n:Int)
 |h0 (a:Bool)(b:Int)(c:Bool)(d:By)(e f g i j l:Int)(m:Rs)(n o:Int)(p q:By)(t:Int)(u v w:Rs)(x y:Int)
 |h1 (a:Bool)(b:Int)(c:By)(d e f g i j:Int)(l:Rs)(m n:Int)(o p:By)(q:Int)(t u v:Rs)(w x:Int)
 |h2 (a:Int)(b:Bool)(c:Int)(d:Rs)(e f:Int)(g i:By)(j:Int)(l m n:Rs)(o p:Int)
 |h3 (a:Int)(b c d:Rs)(e f:Int)
abbrev R114c:=Int×Rs×Rs×Rs×Int×Int
inductive S82c where
 |e (a:Int)(b:Rs)(c d:Int)(e f:By)(g:Int)(i j l:Rs)(m n:Int)
 |h0 (a:Rs)(b c d:Int)(e:Rs)(f g:Int)(i j:By)(l:Int)(m n o:Rs)(p q:Int)
 |h1 (a b c:Rs)(d e:Int)
 |h2 (a:Int)(b c d:Rs)(e f:Int)
abbrev R82c:=Int×Rs×Rs×Rs×Int×Int
inductive S83b where
 |e (a:Int)(b:Rs)(c d:Int)(e f:By)(g:Int)(i:Bool)(j l m:Rs)(n o:Int)
 |h0 (a b:Bool)(c:Int)(d:Rs)(e f:Int)(g i:By)(j:Int)(l m n:Rs)(o p:Int)
 |h1 (a:Bool)(b:Rs)(c:Int)(d:Rs)(e f:Int)(g i:By)(j:Int)(l m n:Rs)(o p:Int)
 |h2 (a:Bool)(b:Rs)(c d e:Int)(f:Rs)(g i:Int)(j l:By)(m:Int)(n o p:Rs)(q t:Int)
abbrev R83b:=Rs×Rs×Rs×Rs
inductive S84b where
 |e (a:Int)(b:Rs)(c d:Int)(e f:By)(g:Int)(i:By)(j l m:Rs)(n o:Int)
 |h0 (a:By)(b c d e:Int)(f:Rs)(g i j l m n o p q t u:Int)(v:Rs)(w x:Int)(y z:By)(a1:Int)(b1 c1 d1:Rs)(e1 f1:Int)
 |h1 (a b:Int)(c:Rs)(d e f g:Int)(i j l:Rs)(m n:Int)
 |h2 (a:By)(b c d e:Int)(f:Rs)(g i j l m n o p q t u:Int)(v:Rs)(w x:Int)(y z:By)(a1:Int)(b1 c1 d1:Rs)(e1 f1:Int)
 |h3 (a b:Int)(c:Rs)(d e f g:Int)(i j l:Rs)(m n:Int)
 |h4 (a:By)(b c:Int)(d:Rs)(e f g i j l m n o p q:Int)(t:Rs)(u v:Int)(w x:By)(y:Int)(z a1 b1:Rs)(c1 d1:Int)
 |h5 (a b:Int)(c:Rs)(d e f g i j l m n o:Int)(p q t:Rs)(u v:Int)
 |h6 (a b:Int)(c:Rs)(d e f g:Int)(i j l:Rs)(m n:Int)
abbrev R84b:=Int×Int×Rs×Int×Int×Int×Int×Rs×Rs×Rs×Int×Int
attribute [local irreducible] cond gd ixR sxI aixS Option.bind
noncomputable section
def qyu:R78b->ARes
 |(a,b,c,d,e,f,g,_,_,_)=>.ret ⟨.tup [true,false],[[sc a,ic b,ic c,ic d,ic e,ic f],[bc g]]⟩
def qDE (d e:Int):R78b->List (List Cell)
 |(_,_,_,_,_,_,_,a,b,c)=>[[.imm a,.imm b,.own 6 c,ic d,ic e]]
noncomputable def qyR (k:Nat)(rec:S78b->Option R78b):S78b->Option R78b
 |.e a b c d e f=>rec (tg 7 (.h0 a (d.length:Int) 0 (strB []) 0 0 0 0 0 b c d e f))
 |.h0 a b c d e f g i j l m n o p=>
  bif tg 14 (decide (c<b))then
   ixR n (tg 15 (tg 3 c)) λq=>
   qvD q λt u v w x y=>
   bif tg 20 (t.toList==a.toList)then
    some (t,u,v,w,x,y,true,l,m,n)
   else
    rec (tg 16 (rg [7] [] (.h0 a b (wZ (c+1)) d e f g i j l m n o p)))
  else
   some (strB [],0,0,0,0,0,false,l,m,n)
noncomputable def g78b (k:Nat)(a:By)(b c d:Rs)(e f:Int):Option R78b:=itS qyR k (.e a b c d e f)
def P78b:S78b->R78b->Prop
 |.e a b c d e f=>Fe Y78 qyu (qDE e f) [pP 0,csc a] [[.imm b,.imm c,.own 6 d,ic e,ic f]]
 |.h0 a b c d e f g i j l m n o p=>Fk Y78 qyu (qDE o p) [1,0,1,0,4] ([.deadv,csc a,.deadv,.deadv,pL 4]++rd 6++[.c (.ref ⟨⟨.par 0,[]⟩,0,2⟩),cic b,cic c]++rd 10) [(.loc 4,[sc d,ic e,ic f,ic g,ic i,ic j]),(.par 0,[.imm l,.imm m,.own 6 n,ic o,ic p])]
theorem qGm:∀ k s r,itS qyR k s=some r->P78b s r:=okU (And.intro @qCH trivial)
instance {k:Nat} {a:By} {b c d:Rs} {e f:Int}:EvI (g78b k a b c d e f) 78 [pP 0,csc a] [[.imm b,.imm c,.own 6 d,ic e,ic f]] qyu (qDE e f):=eI qGm
def qAN:R79b->ARes
 |(_,_,_,_,_)=>.ret .undef
def qEA:R79b->List (List Cell)
 |(a,b,c,d,e)=>[[.imm a,.imm b,.own 6 c,ic d,ic e]]
noncomputable def qAl (k:Nat)(rec:S79b->Option R79b):S79b->Option R79b
 |.e a b c d e f g=>
  bif tg 10 (f==0)then
   some (c,d,e,a,b)
  else
   some (c,d,e,f,g)
noncomputable def g79b (k:Nat)(a b:Int)(c d e:Rs)(f g:Int):Option R79b:=itS qAl k (.e a b c d e f g)
def P79b:S79b->R79b->Prop
 |.e a b c d e f g=>Fe Y79 qAN qEA [pP 0,cic a,cic b] [[.imm c,.imm d,.own 6 e,ic f,ic g]]
theorem qGo:∀ k s r,itS qAl k s=some r->P79b s r:=okU trivial
instance {k:Nat} {a b:Int} {c d e:Rs} {f g:Int}:EvI (g79b k a b c d e f g) 79 [pP 0,cic a,cic b] [[.imm c,.imm d,.own 6 e,ic f,ic g]] qAN qEA:=eI qGo
noncomputable def qyO (k:Nat)(rec:S113->Option R113):S113->Option R113
 |.e a b=>rec (tg 7 (.h0 b a (a.length:Int) 0))
 |.h0 a b c d=>
  bif tg 10 (decide (d<c))then
   ixR b (tg 12 d) λe=>
   un_s e λf=>
   bif tg 16 (f.toList==a.toList)then
    some d
   else
    rec (tg 16 (.h0 a b c (wZ (d+1))))
  else
   some (-1)
noncomputable def g113 (k:Nat)(a:Rs)(b:By):Option R113:=itS qyO k (.e a b)
def P113:S113->R113->Prop
 |.e a b=>Fe Y113 qmW nB [cm a,csc b] []
 |.h0 a b c d=>Fk Y113 qmW nB [1,0,1,0,4] ([.deadv,csc a]++rd 5++[cm b,cic c,cic d]++rd 9) []
theorem qFY:∀ k s r,itS qyO k s=some r->P113 s r:=okU (And.intro @qCG trivial)
instance {k:Nat} {a:Rs} {b:By}:EvI (g113 k a b) 113 [cm a,csc b] [] qmW nB:=eI qFY
noncomputable def qq6 (k:Nat)(rec:S81->Option R81):S81->Option R81
 |.e a b c d=>
  bif tg 10 (decide (c>=0))then
   rec (tg 5 (.h0 c d (decide (c<(a.length:Int))) a b))
  else
   rec (tg 5 (.h0 c d false a b))
 |.h0 a b c d ..=>
  bif c then
   ixR d (tg 21 a) λe=>
   qyV e λ_ f=>
   rec (tg 5 (rg [3] [] (.h1 b f (f.length:Int) 0)))
  else
   rec (tg 2 (rg [3] [] (.h2)))
 |.h1 a b c d=>
  bif tg 26 (decide (d<c))then
   ixR b (tg 28 d) λe=>
   qBj e λf _=>
   bif tg 33 (f.toList==a.toList)then
    some d
   else
    rec (tg 16 (rg [8] [] (.h1 a b c (wZ (d+1)))))
  else
   rec (tg 6 (.h2))
 |.h2=>some (-1)
noncomputable def g81 (k:Nat)(a b:Rs)(c:Int)(d:By):Option R81:=itS qq6 k (.e a b c d)
def P81:S81->R81->Prop
 |.e a b c d=>Fe Y81 qmW nB [.ag [.imm a,.imm b],cic c,csc d] []
 |.h0 a b c d e=>Fk Y81 qmW nB [1,0,1,2] ([.deadv,cic a,csc b,pL 3]++rd 13++[cbc c]++rd 18) [(.loc 3,[.imm d,.imm e])]
 |.h1 a b c d=>Fk Y81 qmW nB [1,0,1,0,1,0,4] ([.deadv,.deadv,csc a]++rd 20++[cm b,cic c,cic d]++rd 10) []
 |.h2=>Fk Y81 qmW nB [1,1,2] (rd 36) []
theorem ok81:∀ k s r,itS qq6 k s=some r->P81 s r:=okU (And.intro @qyU (And.intro @qxB trivial))
instance {k:Nat} {a b:Rs} {c:Int} {d:By}:EvI (g81 k a b c d) 81 [.ag [.imm a,.imm b],cic c,csc d] [] qmW nB:=eI ok81
noncomputable def qq5 (k:Nat)(rec:S80->Option R80):S80->Option R80
 |.e a b c d=>
  bif tg 8 (decide (c<0))then
   rec (tg 5 (.h0 c d true a b))
  else
   rec (tg 5 (.h0 c d (decide (c>=(a.length:Int))) a b))
 |.h0 a b c d e=>
  bif c then
   some 0
  else
   bif tg 17 (b==(-1))then
    some 1
   else
    bif tg 19 (decide (b<0))then
     rec (tg 10 (.h1 a b true d e))
    else
     ixR d (tg 25 a) λf=>
     qyV f λ_ g=>
     rec (tg 10 (.h1 a b (decide (b>=(g.length:Int))) d e))
 |.h1 a b c d ..=>
  bif c then
   some 0
  else
   ixR d (tg 34 a) λe=>
   qyV e λ_ f=>
   ixR f (tg 38 b) λg=>
   qBj g λ_ i=>
   some i
noncomputable def g80 (k:Nat)(a b:Rs)(c d:Int):Option R80:=itS qq5 k (.e a b c d)
def P80:S80->R80->Prop
 |.e a b c d=>Fe Y80 qmW nB [.ag [.imm a,.imm b],cic c,cic d] []
 |.h0 a b c d e=>Fk Y80 qmW nB [1,0,1,2] ([.deadv,cic a,cic b,pL 3]++rd 11++[cbc c]++rd 25) [(.loc 3,[.imm d,.imm e])]
 |.h1 a b c d e=>Fk Y80 qmW nB [1,1,1,0,1,2] ([.deadv,cic a,cic b,pL 3]++rd 26++[cbc c]++rd 10) [(.loc 3,[.imm d,.imm e])]
theorem ok80:∀ k s r,itS qq5 k s=some r->P80 s r:=okU (And.intro @qyU (And.intro @qxB trivial))
instance {k:Nat} {a b:Rs} {c d:Int}:EvI (g80 k a b c d) 80 [.ag [.imm a,.imm b],cic c,cic d] [] qmW nB:=eI ok80
noncomputable def qv6 (k:Nat)(rec:S115->Option R115):S115->Option R115
 |.e a b=>
  bif (b.length:Int)==1 then
   ixR b 0 λc=>
   un_i c λd=>
   bif a==6 then
    bif d==1 then
     rec (.h0 a d true)
    else
     rec (.h0 a d (d==4))
   else
    rec (.h0 a d false)
  else
   bif (b.length:Int)!=2 then
    rec (.h1 a b true)
   else
    ixR b 0 λe=>
    un_i e λf=>
    ixR b 1 λg=>
    un_i g λi=>
    rec (.h1 a b (f != i))
 |.h0 a b c=>
  bif c then
   some b
  else
   bif a==15 then
    bif b==2 then
     rec (.h2 a b true)
    else
     rec (.h2 a b false)
   else
    bif a==17 then
     rec (.h2 a b (b==4))
    else
     rec (.h2 a b false)
 |.h1 a b c=>
  bif c then
   some 0
  else
   ixR b 0 λd=>
   un_i d λe=>
   bif decide (a>=1)then
    bif decide (a<=4)then
     bif e==1 then
      rec (.h3 a e true)
     else
      bif e==4 then
       rec (.h3 a e true)
      else
       bif a==5 then
        rec (.h3 a e false)
       else
        rec (.h3 a e false)
    else
     bif a==5 then
      rec (.h3 a e (e==1))
     else
      rec (.h3 a e false)
   else
    bif a==5 then
     rec (.h3 a e (e==1))
    else
     rec (.h3 a e false)
 |.h2 a b c=>
  bif c then
   some 2
  else
   bif a==16 then
    rec (.h4 (b==1))
   else
    rec (.h4 false)
 |.h3 a b c=>
  bif c then
   some b
  else
   bif a==7 then
    bif decide (b>=1)then
     bif decide (b<=4)then
      rec (.h5 true)
     else
      rec (.h5 false)
    else
     rec (.h5 false)
   else
    bif a==8 then
     bif decide (b>=1)then
      bif decide (b<=4)then
       rec (.h5 true)
      else
       rec (.h5 false)
     else
      rec (.h5 false)
    else
     bif decide (a>=9)then
      bif decide (a<=12)then
       bif b==1 then
        rec (.h5 true)
       else
        bif b==4 then
         rec (.h5 true)
        else
         bif a==13 then
          rec (.h5 (b==2))
         else
          bif a==14 then
           rec (.h5 (b==2))
          else
           rec (.h5 false)
      else
       bif a==13 then
        rec (.h5 (b==2))
       else
        bif a==14 then
         rec (.h5 (b==2))
        else
         rec (.h5 false)
     else
      bif a==13 then
       rec (.h5 (b==2))
      else
       bif a==14 then
        rec (.h5 (b==2))
       else
        rec (.h5 false)
 |.h4 a=>
  bif a then
   some 4
  else
   some 0
 |.h5 a=>
  bif a then
   some 2
  else
   some 0
noncomputable def g115 (k:Nat)(a:Int)(b:Rs):Option R115:=itS qv6 k (.e a b)
def P115:S115->R115->Prop
 |.e a b=>Fe Y115 qmW nB [cic a,cm b] []
 |.h0 a b c=>Fk Y115 qmW nB [1,0,1,0,1,0,1,2] ([cic a]++rd 4++[cic b]++rd 16++[cbc c]++rd 101) []
 |.h1 a b c=>Fk Y115 qmW nB [1,1,0,1,2] ([cic a,cm b]++rd 53++[cbc c]++rd 68) []
 |.h2 a b c=>Fk Y115 qmW nB [1,0,1,0,1,1,0,1,2] ([cic a]++rd 4++[cic b]++rd 31++[cbc c]++rd 86) []
 |.h3 a b c=>Fk Y115 qmW nB [1,1,1,1,0,1,2] ([cic a]++rd 5++[cic b]++rd 73++[cbc c]++rd 43) []
 |.h4 a=>Fk Y115 qmW nB [1,0,1,0,1,1,1,0,1,2] (rd 43++[cbc a]++rd 80) []
 |.h5 a=>Fk Y115 qmW nB [1,1,1,1,1,0,1,2] (rd 123++[cbc a]) []
abbrev E115 (a:Int)(b:Rs)(r:R115):Prop:=Ev Tryz.prog noHand 115 [cic a,cm b] [] (qmW r) (nB r)
theorem qEK {a:Int}{b:Rs}{r:R115}(h:P115 (.e a b) r):E115 a b r:=evF h
theorem qFZ:∀ k s r,itS qv6 k s=some r->P115 s r:=qF λk rec l s r h=>match s,h with
 |.e ..,h=>by
  replace h:=qa h;rcases h with⟨a,h⟩|⟨a,h⟩
  .
   replace h:=YJ h;obtain⟨_,b,h⟩:=h;replace h:=qoC h;obtain⟨_,rfl,h⟩:=h;replace h:=qa h;rcases h with⟨c,h⟩|⟨c,h⟩
   . replace h:=qa h;rcases h with⟨d,h⟩|⟨d,h⟩
     . exact mA 0 (l _ _ h) 11 [tT 9 a,rA 11 b,tT 14 c,tT 17 d] 124 21267647932558653966460912964481318878
     . exact mA 0 (l _ _ h) 11 [tT 9 a,rA 11 b,tT 14 c,tF 17 d] 124 21267647932558653966460912964481318878
   . exact mA 0 (l _ _ h) 11 [tT 9 a,rA 11 b,tF 14 c] 124 21267647932558653966460912964481318878
  . replace h:=qa h;rcases h with⟨e,h⟩|⟨e,h⟩
    . exact mA 0 (l _ _ h) 10 [tF 9 a,tT 46 e] 124 21267647932558653966424884167466549244
    . replace h:=YJ h;obtain⟨_,f,h⟩:=h;replace h:=qoC h;obtain⟨_,rfl,h⟩:=h;replace h:=YJ h;obtain⟨_,g,h⟩:=h;replace h:=qoC h;obtain⟨_,rfl,h⟩:=h;exact mA 0 (l _ _ h) 10 [tF 9 a,tF 46 e,rA 49 f,rA 52 g] 124 21267647932558653966424884167466549244
 |.h0 a ..,h=>by
  replace h:=qa h;rcases h with⟨rfl,h⟩|⟨rfl,h⟩
  . cases h;exact mF 0 []
  .
   replace h:=qa h;rcases h with⟨b,h⟩|⟨b,h⟩
   . replace h:=qa h;rcases h with⟨c,h⟩|⟨c,h⟩
     . exact mA 0 (l _ _ h) 5 [tT 25 b,tT 28 c] 124 21267647932558653966460912827046559710
     . exact mA 0 (l _ _ h) 5 [tT 25 b,tF 28 c,tF 32 (show(a==17)=false from by rw[eq_of_beq b];rfl)] 124 21267647932558653966460912827046559710
   . replace h:=qa h;rcases h with⟨c,h⟩|⟨c,h⟩
     . exact mA 0 (l _ _ h) 5 [tF 25 b,tT 32 c] 124 21267647932558653966460912827046559710
     . exact mA 0 (l _ _ h) 5 [tF 25 b,tF 32 c] 124 21267647932558653966460912827046559710
 |.h1 ..,h=>by
  replace h:=qa h;rcases h with⟨rfl,h⟩|⟨rfl,h⟩
  . cases h;exact mF 0 []
  .
   replace h:=YJ h;obtain⟨_,a,h⟩:=h;replace h:=qoC h;obtain⟨_,rfl,h⟩:=h;replace h:=qa h;rcases h with⟨b,h⟩|⟨b,h⟩
   .
    replace h:=qa h;rcases h with⟨c,h⟩|⟨c,h⟩
    .
     replace h:=qa h;rcases h with⟨d,h⟩|⟨d,h⟩
     . exact mA 0 (l _ _ h) 7 [rA 57 a,tT 60 b,tT 63 c,tT 67 d] 124 21267647932557445040641298335310806974
     . replace h:=qa h;rcases h with⟨e,h⟩|⟨e,h⟩
       . exact mA 0 (l _ _ h) 7 [rA 57 a,tT 60 b,tT 63 c,tF 67 d,tT 70 e] 124 21267647932557445040641298335310806974
       . replace h:=qa h;rcases h with⟨f,h⟩|⟨f,h⟩
         . exact mA 0 (l _ _ h) 7 [rA 57 a,tT 60 b,tT 63 c,tF 67 d,tF 70 e,tT 75 f,tF 78 d] 124 21267647932557445040641298335310806974
         . exact mA 0 (l _ _ h) 7 [rA 57 a,tT 60 b,tT 63 c,tF 67 d,tF 70 e,tF 75 f] 124 21267647932557445040641298335310806974
    . replace h:=qa h;rcases h with⟨d,h⟩|⟨d,h⟩
      . exact mA 0 (l _ _ h) 7 [rA 57 a,tT 60 b,tF 63 c,tT 75 d] 124 21267647932557445040641298335310806974
      . exact mA 0 (l _ _ h) 7 [rA 57 a,tT 60 b,tF 63 c,tF 75 d] 124 21267647932557445040641298335310806974
   . replace h:=qa h;rcases h with⟨c,h⟩|⟨c,h⟩
     . exact mA 0 (l _ _ h) 7 [rA 57 a,tF 60 b,tT 75 c] 124 21267647932557445040641298335310806974
     . exact mA 0 (l _ _ h) 7 [rA 57 a,tF 60 b,tF 75 c] 124 21267647932557445040641298335310806974
 |.h2 ..,h=>by
  replace h:=qa h;rcases h with⟨rfl,h⟩|⟨rfl,h⟩
  . cases h;exact mF 0 []
  . replace h:=qa h;rcases h with⟨a,h⟩|⟨a,h⟩
    . exact mA 0 (l _ _ h) 5 [tT 39 a] 124 21267647932558653966460904168392491007
    . exact mA 0 (l _ _ h) 5 [tF 39 a] 124 21267647932558653966460904168392491007
 |.h3 a ..,h=>by
  replace h:=qa h;rcases h with⟨rfl,h⟩|⟨rfl,h⟩
  . cases h;exact mF 0 []
  .
   replace h:=qa h;rcases h with⟨b,h⟩|⟨b,h⟩
   .
    replace h:=qa h;rcases h with⟨c,h⟩|⟨c,h⟩
    . replace h:=qa h;rcases h with⟨d,h⟩|⟨d,h⟩
      . exact mA 0 (l _ _ h) 5 [tT 83 b,tT 90 c,tT 94 d] 124 10633823966279326983230456482242756607
      . exact mA 0 (l _ _ h) 5 [tT 83 b,tT 90 c,tF 94 d,tF 98 (show(decide (a>=9))=false from by rw[eq_of_beq b];rfl),tF 114 (show(a==13)=false from by rw[eq_of_beq b];rfl),tF 117 (show(a==14)=false from by rw[eq_of_beq b];rfl)] 124 10633823966279326983230456482242756607
    . exact mA 0 (l _ _ h) 5 [tT 83 b,tF 90 c,tF 98 (show(decide (a>=9))=false from by rw[eq_of_beq b];rfl),tF 114 (show(a==13)=false from by rw[eq_of_beq b];rfl),tF 117 (show(a==14)=false from by rw[eq_of_beq b];rfl)] 124 10633823966279326983230456482242756607
   .
    replace h:=qa h;rcases h with⟨c,h⟩|⟨c,h⟩
    .
     replace h:=qa h;rcases h with⟨d,h⟩|⟨d,h⟩
     . replace h:=qa h;rcases h with⟨e,h⟩|⟨e,h⟩
       . exact mA 0 (l _ _ h) 5 [tF 83 b,tT 86 c,tT 90 d,tT 94 e] 124 10633823966279326983230456482242756607
       . exact mA 0 (l _ _ h) 5 [tF 83 b,tT 86 c,tT 90 d,tF 94 e,tF 98 (show(decide (a>=9))=false from by rw[eq_of_beq c];rfl),tF 114 (show(a==13)=false from by rw[eq_of_beq c];rfl),tF 117 (show(a==14)=false from by rw[eq_of_beq c];rfl)] 124 10633823966279326983230456482242756607
     . exact mA 0 (l _ _ h) 5 [tF 83 b,tT 86 c,tF 90 d,tF 98 (show(decide (a>=9))=false from by rw[eq_of_beq c];rfl),tF 114 (show(a==13)=false from by rw[eq_of_beq c];rfl),tF 117 (show(a==14)=false from by rw[eq_of_beq c];rfl)] 124 10633823966279326983230456482242756607
    .
     replace h:=qa h;rcases h with⟨d,h⟩|⟨d,h⟩
     .
      replace h:=qa h;rcases h with⟨e,h⟩|⟨e,h⟩
      .
       replace h:=qa h;rcases h with⟨f,h⟩|⟨f,h⟩
       . exact mA 0 (l _ _ h) 5 [tF 83 b,tF 86 c,tT 98 d,tT 101 e,tT 105 f] 124 10633823966279326983230456482242756607
       .
        replace h:=qa h;rcases h with⟨g,h⟩|⟨g,h⟩
        . exact mA 0 (l _ _ h) 5 [tF 83 b,tF 86 c,tT 98 d,tT 101 e,tF 105 f,tT 108 g] 124 10633823966279326983230456482242756607
        . replace h:=qa h;rcases h with⟨i,h⟩|⟨i,h⟩
          . exact mA 0 (l _ _ h) 5 [tF 83 b,tF 86 c,tT 98 d,tT 101 e,tF 105 f,tF 108 g,tT 114 i] 124 10633823966279326983230456482242756607
          . replace h:=qa h;rcases h with⟨j,h⟩|⟨j,h⟩
            . exact mA 0 (l _ _ h) 5 [tF 83 b,tF 86 c,tT 98 d,tT 101 e,tF 105 f,tF 108 g,tF 114 i,tT 117 j] 124 10633823966279326983230456482242756607
            . exact mA 0 (l _ _ h) 5 [tF 83 b,tF 86 c,tT 98 d,tT 101 e,tF 105 f,tF 108 g,tF 114 i,tF 117 j] 124 10633823966279326983230456482242756607
      . replace h:=qa h;rcases h with⟨f,h⟩|⟨f,h⟩
        . exact mA 0 (l _ _ h) 5 [tF 83 b,tF 86 c,tT 98 d,tF 101 e,tT 114 f] 124 10633823966279326983230456482242756607
        . replace h:=qa h;rcases h with⟨g,h⟩|⟨g,h⟩
          . exact mA 0 (l _ _ h) 5 [tF 83 b,tF 86 c,tT 98 d,tF 101 e,tF 114 f,tT 117 g] 124 10633823966279326983230456482242756607
          . exact mA 0 (l _ _ h) 5 [tF 83 b,tF 86 c,tT 98 d,tF 101 e,tF 114 f,tF 117 g] 124 10633823966279326983230456482242756607
     . replace h:=qa h;rcases h with⟨e,h⟩|⟨e,h⟩
       . exact mA 0 (l _ _ h) 5 [tF 83 b,tF 86 c,tF 98 d,tT 114 e] 124 10633823966279326983230456482242756607
       . replace h:=qa h;rcases h with⟨f,h⟩|⟨f,h⟩
         . exact mA 0 (l _ _ h) 5 [tF 83 b,tF 86 c,tF 98 d,tF 114 e,tT 117 f] 124 10633823966279326983230456482242756607
         . exact mA 0 (l _ _ h) 5 [tF 83 b,tF 86 c,tF 98 d,tF 114 e,tF 117 f] 124 10633823966279326983230456482242756607
 |.h4 ..,h=>by
  replace h:=qa h;rcases h with⟨rfl,h⟩|⟨rfl,h⟩
  . cases h;exact mF 0 []
  . cases h;exact mF 0 []
 |.h5 ..,h=>by
  replace h:=qa h;rcases h with⟨rfl,h⟩|⟨rfl,h⟩
  . cases h;exact mF 0 []
  . cases h;exact mF 0 []
theorem qFP {k:Nat}{a:Int}{b:Rs}{r:R115}(h:g115 k a b=some r):E115 a b r:=qEK (qFZ _ _ _ h)
instance {k:Nat} {a:Int} {b:Rs}:EvI (g115 k a b) 115 [cic a,cm b] [] qmW nB:=⟨λr h=>qFP h⟩
def qxo:R39b->ARes
 |(a,b,c,_,_,_,_,_)=>.ret (.ag [ic a,ic b,.own 4 c])
def qy1:R39b->List (List Cell)
 |(_,_,_,a,b,c,d,e)=>[[.imm a,.imm b,.own 6 c,ic d,ic e]]
noncomputable def qv8 (k:Nat)(rec:S39b->Option R39b):S39b->Option R39b
 |.e a b c d e f g i=>rec (tg 11 (rg [] [(⟨⟨.loc 9,[]⟩,0,2⟩,some 4)] (.h0 a 0 b (b.length:Int) 0 a c [] 0 0 d e f g i)))
 |.h0 a b c d e f g i j l m n o p q=>
  bif tg 22 (decide (e<d))then
   ixR c (tg 24 e) λt=>
   qxj t λu v w x=>
   (tg 32 (g77 k m n v)).bind λy=>
   (tg 37 (g78b k w m n o p q)).bind λz=>
   ql z λ_ _ _ _ _ _ s h c1 r=>
   bif tg 41 (decide (y<0))then
    rec (tg 17 (rg [14] [] (.h1 a b e y c d e true u v w x f g i j l h c1 r p q)))
   else
    rec (tg 17 (rg [14] [] (.h1 a b e y c d e s u v w x f g i j l h c1 r p q)))
  else
   some (f,g,i,m,n,o,p,q)
 |.h1 a b c d e f g i j l m n o p q t u v w x y z=>
  bif i then
   (tg 48 (g79b k 10 n v w x y z)).bind λs=>
   tup5 s λh c1 r A B=>
   rec (tg 2 (.h2 a b c d e f g j l m n o p q t u h c1 r A B))
  else
   rec (tg 2 (.h2 a b c d e f g j l m n o p q t u v w x y z))
 |.h2 a b c d e f g i j l m n o p q t u v w x y=>
  bif tg 50 (c==0)then
   rec (tg 3 (.h3 a b c d e f g (i==3) i j l m n o p q t u v w x y))
  else
   rec (tg 3 (.h3 a b c d e f g false i j l m n o p q t u v w x y))
 |.h3 a b c d e f g i j l m n o p q t u v w x y z=>
  bif i then
   (tg 59 (g79b k 15 n v w x y z)).bind λs=>
   tup5 s λh c1 r A B=>
   rec (tg 2 (.h4 a b c d e f g j l m n o p q t u h c1 r A B))
  else
   rec (tg 2 (.h4 a b c d e f g j l m n o p q t u v w x y z))
 |.h4 a b c d e f g i j l m n o p q t u v w x y=>
  gd (tg 75 (apOk 56 6 w [[sc l,ic a,ic c,ic b,ic i,ic d]])) <|
  bif tg 80 (i != 3)then
   rec (tg 7 (.h5 a (wZ (b+1)) d e f g i j l m n o p q t u v (w++[[sc l,ic a,ic c,ic b,ic i,ic d]]) x y))
  else
   rec (tg 7 (.h5 a b d e f g i j l m n o p q t u v (w++[[sc l,ic a,ic c,ic b,ic i,ic d]]) x y))
 |.h5 a b c d e f g _ _ _ i j l m n o p q t u=>
  gd (tg 90 (apOk 64 4 l [[ic g,ic c,.nil,.nil]])) <|
  rec (tg 3 (rg [12] [] (.h0 a b d e (wZ (f+1)) i j (l++[[ic g,ic c,.nil,.nil]]) m n o p q t u)))
noncomputable def g39b (k:Nat)(a:Int)(b:Rs)(c:Int)(d e f:Rs)(g i:Int):Option R39b:=itS qv8 k (.e a b c d e f g i)
def P39b:S39b->R39b->Prop
 |.e a b c d e f g i=>Fe Y39 qxo qy1 [pP 0,cic a,cm b,cic c] [[.imm d,.imm e,.own 6 f,ic g,ic i]]
 |.h0 a b c d e f g i j l m n o p q=>Fk Y39 qxo qy1 [1,1,1,0,1,0,4] ([pP 0,cic a]++rd 6++[pL 8,pL 9,cic b]++rd 8++[cm c,cic d,cic e]++rd 72) [(.loc 9,[ic f,ic g,.own 4 i]),(.loc 8,[ic j,ic l,.nil]),(.par 0,[.imm m,.imm n,.own 6 o,ic p,ic q])]
 |.h1 a b c d e f g i j l m n o p q t u v w x y z=>Fk Y39 qxo qy1 [1,1,1,0,1,0,0,1,1,0,0,1,1,0,1,1,2] ([pP 0,cic a]++rd 6++[pL 8,pL 9,cic b,cic c,pL 12,cic d]++rd 5++[cm e,cic f,cic g]++rd 22++[cbc i]++rd 49) [(.loc 12,[ic j,sc l,sc m,ic n]),(.loc 9,[ic o,ic p,.own 4 q]),(.loc 8,[ic t,ic u,.nil]),(.par 0,[.imm v,.imm w,.own 6 x,ic y,ic z])]
 |.h2 a b c d e f g i j l m n o p q t u v w x y=>Fk Y39 qxo qy1 [1,1,1,0,1,0,0,1,1,0,0,1,1,1,2] ([pP 0,cic a]++rd 6++[pL 8,pL 9,cic b,cic c,pL 12,cic d]++rd 5++[cm e,cic f,cic g]++rd 72) [(.loc 12,[ic i,sc j,sc l,ic m]),(.loc 9,[ic n,ic o,.own 4 p]),(.loc 8,[ic q,ic t,.nil]),(.par 0,[.imm u,.imm v,.own 6 w,ic x,ic y])]
 |.h3 a b c d e f g i j l m n o p q t u v w x y z=>Fk Y39 qxo qy1 [1,1,1,0,1,0,0,1,1,0,0,1,1,1,0,1,2] ([pP 0,cic a]++rd 6++[pL 8,pL 9,cic b,cic c,pL 12,cic d]++rd 5++[cm e,cic f,cic g]++rd 33++[cbc i]++rd 38) [(.loc 12,[ic j,sc l,sc m,ic n]),(.loc 9,[ic o,ic p,.own 4 q]),(.loc 8,[ic t,ic u,.nil]),(.par 0,[.imm v,.imm w,.own 6 x,ic y,ic z])]
 |.h4 a b c d e f g i j l m n o p q t u v w x y=>Fk Y39 qxo qy1 [1,1,1,0,1,0,0,1,1,0,0,1,1,1,1,2] ([pP 0,cic a]++rd 6++[pL 8,pL 9,cic b,cic c,pL 12,cic d]++rd 5++[cm e,cic f,cic g]++rd 72) [(.loc 12,[ic i,sc j,sc l,ic m]),(.loc 9,[ic n,ic o,.own 4 p]),(.loc 8,[ic q,ic t,.nil]),(.par 0,[.imm u,.imm v,.own 6 w,ic x,ic y])]
 |.h5 a b c d e f g i j l m n o p q t u v w x=>Fk Y39 qxo qy1 [1,1,1,0,1,0,0,1,1,0,0,1,1,1,1,1,1,2] ([pP 0,cic a]++rd 6++[pL 8,pL 9,cic b,.deadv,pL 12,cic c]++rd 5++[cm d,cic e,cic f]++rd 72) [(.loc 12,[ic g,sc i,sc j,ic l]),(.loc 9,[ic m,ic n,.own 4 o]),(.loc 8,[ic p,ic q,.nil]),(.par 0,[.imm t,.imm u,.own 6 v,ic w,ic x])]
theorem qGe:∀ k s r,itS qv8 k s=some r->P39b s r:=okU (And.intro @qxk trivial)
instance {k:Nat} {a:Int} {b:Rs} {c:Int} {d e f:Rs} {g i:Int}:EvI (g39b k a b c d e f g i) 39 [pP 0,cic a,cm b,cic c] [[.imm d,.imm e,.own 6 f,ic g,ic i]] qxo qy1:=eI qGe
def qEB:R79c->List (List Cell)
 |(a,b,c,d,e)=>[[.imm a,.imm b,.imm c,ic d,ic e]]
noncomputable def qAm (k:Nat)(rec:S79c->Option R79c):S79c->Option R79c
 |.e a b c d e f g=>
  bif tg 10 (f==0)then
   some (c,d,e,a,b)
  else
   some (c,d,e,f,g)
noncomputable def g79c (k:Nat)(a b:Int)(c d e:Rs)(f g:Int):Option R79c:=itS qAm k (.e a b c d e f g)
def P79c:S79c->R79c->Prop
 |.e a b c d e f g=>Fe Y79 qAN qEB [pP 0,cic a,cic b] [[.imm c,.imm d,.imm e,ic f,ic g]]
theorem qGp:∀ k s r,itS qAm k s=some r->P79c s r:=okU trivial
instance {k:Nat} {a b:Int} {c d e:Rs} {f g:Int}:EvI (g79c k a b c d e f g) 79 [pP 0,cic a,cic b] [[.imm c,.imm d,.imm e,ic f,ic g]] qAN qEB:=eI qGp
def qwc:R40b->ARes
 |(.inl (r,_,_,_,_,_))=>.ret (.c (.own 1 r))
 |(.inr (r,_,_,_,_,_))=>.ret (.c (.own 1 r))
def qxt:R40b->List (List Cell)
 |(.inl (_,a,b,c,d,e))=>[[.imm a,.imm b,.own 6 c,ic d,ic e]]
 |(.inr (_,a,b,c,d,e))=>[[.imm a,.imm b,.imm c,ic d,ic e]]
noncomputable def qvB (k:Nat)(rec:S40b->Option R40b):S40b->Option R40b
 |.e a b c d e f g i j l m=>
  bif e.toList==(strB []).toList then
   rec (.h0 true a b c d e f g i j l m)
  else
   rec (.h0 (l != 0) a b c d e f g i j l m)
 |.h0 a b c d e f g i j l m n=>
  bif a then
   rec (.h1 [] i j l m n)
  else
   ixR l 0 λo=>
   qvD o λ_ _ _ _ _ p=>
   (g81 k i j p f).bind λq=>
   (g80 k i j p q).bind λt=>
   bif decide (q<0)then
    (g79b k 10 g i j l m n).bind λu=>
    tup5 u λv w x y z=>
    rec (.h2 t b c d e f g v w x y z)
   else
    rec (.h2 t b c d e f g i j l m n)
 |.h1 a b c d e f=>some (.inl (a,b,c,d,e,f))
 |.h2 a b c d e f g i j l m n=>rec (.h3 a (qG l) (l.length:Int) 0 b c d e f g i j (qG l) m n)
 |.h3 a b c d e f g i j l m n o p q=>
  bif decide (d<c)then
   ixR b d λt=>
   qvD t λ_ _ _ _ _ u=>
   (g81 k m n u j).bind λv=>
   bif decide (v<0)then
    (g79c k 10 l m n o p q).bind λw=>
    tup5 w λx y z h r=>
    rec (.h4 a b c d e f g i j l x y z h r)
   else
    (g80 k m n u v).bind λw=>
    bif w != a then
     (g79c k 11 l m n o p q).bind λc1=>
     tup5 c1 λs A B C D=>
     rec (.h4 a b c d e f g i j l s A B C D)
    else
     rec (.h4 a b c d e f g i j l m n o p q)
  else
   rec (.h5 a [] (m.length:Int) 0 e f g i j l m n o p q)
 |.h4 a b c d e f g i j l m n o p q=>rec (.h3 a b c (wZ (d+1)) e f g i j l m n o p q)
 |.h5 a b c d e f g i j l m n o p q=>
  bif decide (d<c)then
   (g81 k m n d j).bind λt=>
   bif decide (t>=0)then
    (g80 k m n d t).bind λu=>
    rec (.h6 a b t c d (u != a) e f g i j l m n o p q)
   else
    rec (.h6 a b t c d false e f g i j l m n o p q)
  else
   rec (.h7 b m n o p q)
 |.h6 a b c d e f g i j l m n o p q t u=>
  bif f then
   rec (.h8 a b (-1) d e g i j l m n o p q t u)
  else
   rec (.h8 a b c d e g i j l m n o p q t u)
 |.h7 a b c d e f=>some (.inr (a,b,c,d,e,f))
 |.h8 a b c d e f g i j l m n o p q t=>
  gd (apOk 8 1 b [[ic c]]) <|
  rec (.h5 a (b++[[ic c]]) d (wZ (e+1)) f g i j l m n o p q t)
noncomputable def g40b (k:Nat)(a b:Rs)(c d:Int)(e:By)(f:Int)(g i j:Rs)(l m:Int):Option R40b:=itS qvB k (.e a b c d e f g i j l m)
def P40b:S40b->R40b->Prop
 |.e a b c d e f g i j l m=>Fe Y40 qwc qxt [pP 0,.ag [.imm a,.imm b,ic c,ic d,sc e,ic f]] [[.imm g,.imm i,.own 6 j,ic l,ic m]]
 |.h0 a b c d e f g i j l m n=>Fk Y40 qwc qxt [1,0,1,2] ([pP 0,.deadv,.deadv,pL 3]++rd 17++[cbc a]++rd 120) [(.loc 3,[.imm b,.imm c,ic d,ic e,sc f,ic g]),(.par 0,[.imm i,.imm j,.own 6 l,ic m,ic n])]
 |.h1 a b c d e f=>Fk Y40 qwc qxt [1,0,1,0,1,2] (rd 4++[.c (.own 1 a)]++rd 137) [(.par 0,[.imm b,.imm c,.own 6 d,ic e,ic f])]
 |.h2 a b c d e f g i j l m n=>Fk Y40 qwc qxt [1,1,1,1,2] ([pP 0,.deadv,.deadv,pL 3,.deadv,cic a]++rd 136) [(.loc 3,[.imm b,.imm c,ic d,ic e,sc f,ic g]),(.par 0,[.imm i,.imm j,.own 6 l,ic m,ic n])]
 |.h3 a b c d e f g i j l m n o p q=>Fk Y40 qwc qxt [1,1,1,1,0,1,0,4] ([pP 0,.deadv,.deadv,pL 3,.deadv,cic a]++rd 64++[cm b,cic c,cic d]++rd 69) [(.loc 3,[.imm e,.imm f,ic g,ic i,sc j,ic l]),(.par 0,[.imm m,.imm n,.imm o,ic p,ic q])]
 |.h4 a b c d e f g i j l m n o p q=>Fk Y40 qwc qxt [1,1,1,1,0,1,0,0,1,1,1,2] ([pP 0,.deadv,.deadv,pL 3,.deadv,cic a]++rd 64++[cm b,cic c,cic d]++rd 69) [(.loc 3,[.imm e,.imm f,ic g,ic i,sc j,ic l]),(.par 0,[.imm m,.imm n,.imm o,ic p,ic q])]
 |.h5 a b c d e f g i j l m n o p q=>Fk Y40 qwc qxt [1,1,1,1,1,1,0,1,0,4] ([pP 0,.deadv,.deadv,pL 3,.deadv,cic a]++rd 3++[.c (.own 1 b)]++rd 101++[cic c,cic d]++rd 29) [(.loc 3,[.imm e,.imm f,ic g,ic i,sc j,ic l]),(.par 0,[.imm m,.imm n,.imm o,ic p,ic q])]
 |.h6 a b c d e f g i j l m n o p q t u=>Fk Y40 qwc qxt [1,1,1,1,1,1,0,1,0,0,1,1,0,0,1,1,0,1,2] ([pP 0,.deadv,.deadv,pL 3,.deadv,cic a]++rd 3++[.c (.own 1 b),.deadv,cic c]++rd 99++[cic d,cic e]++rd 22++[cbc f]++rd 6) [(.loc 3,[.imm g,.imm i,ic j,ic l,sc m,ic n]),(.par 0,[.imm o,.imm p,.imm q,ic t,ic u])]
 |.h7 a b c d e f=>Fk Y40 qwc qxt [1,1,1,1,1,1,1,1,2] (rd 4++[.c (.ref ⟨⟨.slot 9,[]⟩,0,0⟩)]++rd 4++[.c (.own 1 a)]++rd 132) [(.par 0,[.imm b,.imm c,.imm d,ic e,ic f])]
 |.h8 a b c d e f g i j l m n o p q t=>Fk Y40 qwc qxt [1,1,1,1,1,1,0,1,0,0,1,1,0,0,1,1,1,2] ([pP 0,.deadv,.deadv,pL 3,.deadv,cic a]++rd 3++[.c (.own 1 b),.deadv,cic c]++rd 99++[cic d,cic e]++rd 29) [(.loc 3,[.imm f,.imm g,ic i,ic j,sc l,ic m]),(.par 0,[.imm n,.imm o,.imm p,ic q,ic t])]
abbrev E40b (a b:Rs)(c d:Int)(e:By)(f:Int)(g i j:Rs)(l m:Int)(r:R40b):Prop:=Ev Tryz.prog noHand 40 [pP 0,.ag [.imm a,.imm b,ic c,ic d,sc e,ic f]] [[.imm g,.imm i,.own 6 j,ic l,ic m]] (qwc r) (qxt r)
theorem qEL {a b:Rs}{c d:Int}{e:By}{f:Int}{g i j:Rs}{l m:Int}{r:R40b}(h:P40b (.e a b c d e f g i j l m) r):E40b a b c d e f g i j l m r:=evF h
theorem qGf:∀ k s r,itS qvB k s=some r->P40b s r:=qF λk rec n s r h=>match s,h with
 |.e ..,h=>by
  replace h:=qa h;rcases h with⟨a,h⟩|⟨a,h⟩
  . exact mA 1 (n _ _ h) 5 [tT 14 a] 142 5575186299632655785383929568162090374397942
  . exact mA 1 (n _ _ h) 5 [tF 14 a] 142 5575186299632655785383929568162090374397942
 |.h0 ..,h=>by
  replace h:=qa h;rcases h with⟨rfl,h⟩|⟨rfl,h⟩
  . exact mG 1 (n _ _ h) 3 [] 142 5575186299632655785383929568162090376495087 [3] [(⟨⟨.slot 4,[]⟩,0,0⟩,some 1)]
  . replace h:=YJ h;obtain⟨_,a,h⟩:=h;replace h:=qvK h;obtain⟨b,c,d,e,f,g,rfl,h⟩:=h;replace h:=qh h;obtain⟨_,i,h⟩:=h;replace h:=qh h;obtain⟨_,j,h⟩:=h;replace h:=qa h;rcases h with⟨l,h⟩|⟨l,h⟩
    . obtain⟨_,m,h⟩:=b5 h;exact mA 1 (n _ _ h) 9 [⟨(some 30,.bnd),[_],⟨qot a,trivial⟩⟩,⟨(some 32,.ld [sc b,ic c,ic d,ic e,ic f,ic g]),[_],⟨a.2,trivial⟩⟩,⟨(some 41,.bnd),[_],⟨qot a,trivial⟩⟩,⟨(some 43,.ld [sc b,ic c,ic d,ic e,ic f,ic g]),[_],⟨a.2,trivial⟩⟩,cA 46 (evI i),cA 47 (evI j),⟨(some 56,.bnd),[_],⟨qot a,trivial⟩⟩,⟨(some 58,.ld [sc b,ic c,ic d,ic e,ic f,ic g]),[_],⟨a.2,trivial⟩⟩,cA 61 (evI i),tT 62 l,cA 66 (evI m)] 142 5575186299632655785383929568162090376495062
    . exact mA 1 (n _ _ h) 9 [⟨(some 30,.bnd),[_],⟨qot a,trivial⟩⟩,⟨(some 32,.ld [sc b,ic c,ic d,ic e,ic f,ic g]),[_],⟨a.2,trivial⟩⟩,⟨(some 41,.bnd),[_],⟨qot a,trivial⟩⟩,⟨(some 43,.ld [sc b,ic c,ic d,ic e,ic f,ic g]),[_],⟨a.2,trivial⟩⟩,cA 46 (evI i),cA 47 (evI j),⟨(some 56,.bnd),[_],⟨qot a,trivial⟩⟩,⟨(some 58,.ld [sc b,ic c,ic d,ic e,ic f,ic g]),[_],⟨a.2,trivial⟩⟩,cA 61 (evI i),tF 62 l] 142 5575186299632655785383929568162090376495062
 |.h1 ..,h=>by cases h;exact mF 1 []
 |.h2 ..,h=>by exact mG 1 (n _ _ h) 5 [] 142 5575186299632655785375665426817068497371094 [] [(⟨⟨.slot 70,[]⟩,0,0⟩,none)]
 |.h3 ..,h=>by
  replace h:=qa h;rcases h with⟨a,h⟩|⟨a,h⟩
  .
   replace h:=YJ h;obtain⟨_,b,h⟩:=h;replace h:=qvK h;obtain⟨_,_,_,_,_,_,rfl,h⟩:=h;replace h:=qh h;obtain⟨_,c,h⟩:=h;replace h:=qa h;rcases h with⟨d,h⟩|⟨d,h⟩
   . obtain⟨_,e,h⟩:=b5 h;exact mG 1 (n _ _ h) 17 [tT 73 a,rA 74 b,cA 84 (evI c),tT 86 d,cA 90 (evI e)] 142 5575186299632655785375665426817068497371094 [7] []
   . replace h:=qh h;obtain⟨_,e,h⟩:=h;replace h:=qa h;rcases h with⟨f,h⟩|⟨f,h⟩
     . obtain⟨_,g,h⟩:=b5 h;exact mG 1 (n _ _ h) 20 [tT 73 a,rA 74 b,cA 84 (evI c),tF 86 d,cA 98 (evI e),tT 100 f,cA 104 (evI g)] 142 5575186299632655785375665426817068497371094 [7] []
     . exact mG 1 (n _ _ h) 20 [tT 73 a,rA 74 b,cA 84 (evI c),tF 86 d,cA 98 (evI e),tF 100 f] 142 5575186299632655785375665426817068497371094 [7] []
  . exact mG 1 (n _ _ h) 13 [tF 73 a] 142 5575186291844210497581688125366345882664406 [] [(⟨⟨.slot 9,[]⟩,0,0⟩,some 1)]
 |.h4 ..,h=>by exact mA 1 (n _ _ h) 1 [] 142 5575186299632655785375665426817068497371094
 |.h5 ..,h=>by
  replace h:=qa h;rcases h with⟨a,h⟩|⟨a,h⟩
  . replace h:=qh h;obtain⟨_,b,h⟩:=h;replace h:=qa h;rcases h with⟨c,h⟩|⟨c,h⟩
    . replace h:=qh h;obtain⟨_,d,h⟩:=h;exact mA 1 (n _ _ h) 15 [tT 113 a,cA 122 (evI b),tT 124 c,cA 132 (evI d)] 142 5531630148878330374258376175615079551595990
    . exact mA 1 (n _ _ h) 15 [tT 113 a,cA 122 (evI b),tF 124 c] 142 5531630148878330374258376175615079551595990
  . exact mG 1 (n _ _ h) 8 [tF 113 a] 142 5575186299632655785383929568162090376494575 [3] []
 |.h6 ..,h=>by
  replace h:=qa h;rcases h with⟨rfl,h⟩|⟨rfl,h⟩
  . exact mA 1 (n _ _ h) 2 [] 142 5575186291844210497581688125366345882662358
  . exact mA 1 (n _ _ h) 2 [] 142 5575186291844210497581688125366345882662358
 |.h7 ..,h=>by cases h;exact mF 1 []
 |.h8 _ _ a ..,h=>by replace h:=zo h;obtain⟨b,h⟩:=h;exact mA 1 (n _ _ h) 3 [⟨(some 139,.okE false),[_],⟨okF [[ic a]] b,trivial⟩⟩] 142 5575186291844210497581688125366345882664406
theorem qFQ {k:Nat}{a b:Rs}{c d:Int}{e:By}{f:Int}{g i j:Rs}{l m:Int}{r:R40b}(h:g40b k a b c d e f g i j l m=some r):E40b a b c d e f g i j l m r:=qEL (qGf _ _ _ h)
instance {k:Nat} {a b:Rs} {c d:Int} {e:By} {f:Int} {g i j:Rs} {l m:Int}:EvI (g40b k a b c d e f g i j l m) 40 [pP 0,.ag [.imm a,.imm b,ic c,ic d,sc e,ic f]] [[.imm g,.imm i,.own 6 j,ic l,ic m]] qwc qxt:=⟨λr h=>qFQ h⟩
def qys:R140->ARes
 |r=>.ret (.c (.val (.int .u64 r)))
noncomputable def qwL (k:Nat)(rec:S140->Option R140):S140->Option R140
 |.e a=>
  bif tg 9 (a==0)then
   some 0
  else
   bif tg 13 (decide (a<0))then
    rec (tg 14 (.h0 (IntKind.u64.wrap ((0:Int)-(IntKind.u64.wrap a))) 9223372036854775808))
   else
    rec (tg 14 (.h0 (IntKind.u64.wrap a) 0))
 |.h0 a b=>rec (tg 5 (.h1 a b 63))
 |.h1 a b c=>
  bif tg 18 ((Int.fdiv a (2 ^ 63))==0)then
   rec (tg 11 (.h1 (IntKind.u64.wrap (a*2 ^ 1)) b (wZ (c-1))))
  else
   bif tg 28 (decide ((IntKind.u64.wrap ((BitVec.ofInt 64 a &&& BitVec.ofInt 64 2047).toNat:Int))>1024))then
    rec (tg 11 (.h2 b c (Int.fdiv a (2 ^ 11)) true))
   else
    bif tg 31 ((IntKind.u64.wrap ((BitVec.ofInt 64 a &&& BitVec.ofInt 64 2047).toNat:Int))==1024)then
     rec (tg 11 (.h2 b c (Int.fdiv a (2 ^ 11)) ((IntKind.u64.wrap ((BitVec.ofInt 64 (Int.fdiv a (2 ^ 11)) &&& BitVec.ofInt 64 1).toNat:Int))==1)))
    else
     rec (tg 11 (.h2 b c (Int.fdiv a (2 ^ 11)) false))
 |.h2 a b c d=>
  bif d then
   rec (tg 2 (.h3 a b (IntKind.u64.wrap (c+1))))
  else
   rec (tg 2 (.h3 a b c))
 |.h3 a b c=>some (IntKind.u64.wrap ((IntKind.u64.wrap (a+(IntKind.u64.wrap ((IntKind.u64.wrap (wZ ((1022:Int)+b)))*2 ^ 52))))+c))
noncomputable def g140 (k:Nat)(a:Int):Option R140:=itS qwL k (.e a)
def P140:S140->R140->Prop
 |.e a=>Fe Y140 qys nB [cic a] []
 |.h0 a b=>Fk Y140 qys nB [1,1,1,1,2] (rd 3++[.c (.val (.int .u64 a)),.c (.val (.int .u64 b))]++rd 43) []
 |.h1 a b c=>Fk Y140 qys nB [1,1,1,1,1,0,0,4] (rd 3++[.c (.val (.int .u64 a)),.c (.val (.int .u64 b)),cic c]++rd 42) []
 |.h2 a b c d=>Fk Y140 qys nB [1,1,1,1,1,1,1,0,1,2] (rd 4++[.c (.val (.int .u64 a)),cic b,.deadv,.c (.val (.int .u64 c))]++rd 29++[cbc d]++rd 10) []
 |.h3 a b c=>Fk Y140 qys nB [1,1,1,1,1,1,1,1,2] (rd 4++[.c (.val (.int .u64 a)),cic b,.deadv,.c (.val (.int .u64 c))]++rd 40) []
theorem qF3:∀ k s r,itS qwL k s=some r->P140 s r:=okU trivial
instance {k:Nat} {a:Int}:EvI (g140 k a) 140 [cic a] [] qys nB:=eI qF3
def qsi:R116->ARes
 |(a,b)=>.ret ⟨.tup [false,false],[[.val (.int .u64 a)],[bc b]]⟩
noncomputable def qoW (k:Nat)(rec:S116->Option R116):S116->Option R116
 |.e a b=>
  bif tg 9 (decide (a<0))then
   rec (tg 5 (.h0 a b true))
  else
   bif tg 12 (decide (a>=1000000000000000))then
    rec (tg 5 (.h0 a b true))
   else
    bif tg 16 (decide (b<0))then
     rec (tg 5 (.h0 a b true))
    else
     rec (tg 5 (.h0 a b (decide (b>15))))
 |.h0 a b c=>
  bif c then
   some (0,false)
  else
   rec (tg 9 (.h1 a b 4607182418800017408 0))
 |.h1 a b c d=>
  bif tg 24 (decide (d<b))then
   (tg 28 (g140 k 10)).bind λe=>
   (tg 29 (doX 3 c e)).bind λf=>
   rec (tg 11 (.h1 a b f (wZ (d+1))))
  else
   (tg 31 (g140 k a)).bind λe=>
   (tg 33 (doX 4 e c)).bind λf=>
   some (f,true)
noncomputable def g116 (k:Nat)(a b:Int):Option R116:=itS qoW k (.e a b)
def P116:S116->R116->Prop
 |.e a b=>Fe Y116 qsi nB [cic a,cic b] []
 |.h0 a b c=>Fk Y116 qsi nB [1,0,1,2] ([cic a,cic b]++rd 19++[cbc c]++rd 12) []
 |.h1 a b c d=>Fk Y116 qsi nB [1,1,1,0,1,0,4] ([cic a,cic b]++rd 4++[.c (.val (.int .u64 c)),cic d]++rd 26) []
theorem quF:∀ k s r,itS qoW k s=some r->P116 s r:=okU trivial
instance {k:Nat} {a b:Int}:EvI (g116 k a b) 116 [cic a,cic b] [] qsi nB:=eI quF
def qDF (d e:Int):R78c->List (List Cell)
 |(_,_,_,_,_,_,_,a,b,c)=>[[.imm a,.imm b,.imm c,ic d,ic e]]
noncomputable def qyS (k:Nat)(rec:S78c->Option R78c):S78c->Option R78c
 |.e a b c d e f=>rec (tg 7 (.h0 a d (d.length:Int) 0 (strB []) 0 0 0 0 0 b c d e f))
 |.h0 a b c d e f g i j l m n o p q=>
  bif tg 14 (decide (d<c))then
   ixR b (tg 15 d) λt=>
   qvD t λu v w x y z=>
   bif tg 20 (u.toList==a.toList)then
    some (u,v,w,x,y,z,true,m,n,o)
   else
    rec (tg 16 (rg [7] [] (.h0 a b c (wZ (d+1)) e f g i j l m n o p q)))
  else
   some (strB [],0,0,0,0,0,false,m,n,o)
noncomputable def g78c (k:Nat)(a:By)(b c d:Rs)(e f:Int):Option R78c:=itS qyS k (.e a b c d e f)
def P78c:S78c->R78c->Prop
 |.e a b c d e f=>Fe Y78 qyu (qDF e f) [pP 0,csc a] [[.imm b,.imm c,.imm d,ic e,ic f]]
 |.h0 a b c d e f g i j l m n o p q=>Fk Y78 qyu (qDF p q) [1,0,1,0,4] ([.deadv,csc a,.deadv,.deadv,pL 4]++rd 6++[cm b,cic c,cic d]++rd 10) [(.loc 4,[sc e,ic f,ic g,ic i,ic j,ic l]),(.par 0,[.imm m,.imm n,.imm o,ic p,ic q])]
theorem qGn:∀ k s r,itS qyS k s=some r->P78c s r:=okU (And.intro @qCI trivial)
instance {k:Nat} {a:By} {b c d:Rs} {e f:Int}:EvI (g78c k a b c d e f) 78 [pP 0,csc a] [[.imm b,.imm c,.imm d,ic e,ic f]] qyu (qDF e f):=eI qGn
def qvw:R114c->ARes
 |(r,_,_,_,_,_)=>.ret (cic r)
def qvR:R114c->List (List Cell)
 |(_,a,b,c,d,e)=>[[.imm a,.imm b,.imm c,ic d,ic e]]
noncomputable def qv5 (k:Nat)(rec:S114c->Option R114c):S114c->Option R114c
 |.e a b c d e f g i j l m n=>
  (g78c k e i j l m n).bind λo=>
  ql o λp q t u v w x y z h=>
  bif a != 25 then
   rec (.h0 x 1 (!(f.toList==(strB [84,73,77,69]).toList)) p q t u v w a b c d e f g y z h m n)
  else
   rec (.h0 x 1 false p q t u v w a b c d e f g y z h m n)
 |.h0 a b c d e f g i j l m n o p q t u v w x y=>
  bif c then
   (g81 k u v j q).bind λz=>
   bif a then
    (g80 k u v j z).bind λh=>
    rec (.h1 (decide (z>=0)) h d e f g i j l m n o p q t u v w x y)
   else
    (g80 k u v j z).bind λh=>
    rec (.h1 false h d e f g i j l m n o p q t u v w x y)
  else
   rec (.h1 a b d e f g i j l m n o p q t u v w x y)
 |.h1 a b _ _ _ _ c _ d e f g i j l m n o p q=>
  bif !a then
   (g79c k 10 l m n o p q).bind λt=>
   tup5 t λu v w x y=>
   some (0,u,v,w,x,y)
  else
   bif decide (d>24)then
    bif c != 2 then
     rec (.h2 b true d e f g i j l m n o p q)
    else
     bif decide (d>=28)then
      bif decide (d<=30)then
       bif b != 1 then
        bif b != 4 then
         rec (.h2 b true d e f g i j l m n o p q)
        else
         bif d==31 then
          rec (.h2 b false d e f g i j l m n o p q)
         else
          rec (.h2 b false d e f g i j l m n o p q)
       else
        bif d==31 then
         rec (.h2 b true d e f g i j l m n o p q)
        else
         rec (.h2 b false d e f g i j l m n o p q)
      else
       bif d==31 then
        rec (.h2 b (b != 4) d e f g i j l m n o p q)
       else
        rec (.h2 b false d e f g i j l m n o p q)
     else
      bif d==31 then
       rec (.h2 b (b != 4) d e f g i j l m n o p q)
      else
       rec (.h2 b false d e f g i j l m n o p q)
   else
    bif decide (d>=28)then
     bif decide (d<=30)then
      bif b != 1 then
       bif b != 4 then
        rec (.h2 b true d e f g i j l m n o p q)
       else
        bif d==31 then
         rec (.h2 b false d e f g i j l m n o p q)
        else
         rec (.h2 b false d e f g i j l m n o p q)
      else
       bif d==31 then
        rec (.h2 b true d e f g i j l m n o p q)
       else
        rec (.h2 b false d e f g i j l m n o p q)
     else
      bif d==31 then
       rec (.h2 b (b != 4) d e f g i j l m n o p q)
      else
       rec (.h2 b false d e f g i j l m n o p q)
    else
     bif d==31 then
      rec (.h2 b (b != 4) d e f g i j l m n o p q)
     else
      rec (.h2 b false d e f g i j l m n o p q)
 |.h2 a b _ _ _ _ _ _ c d e f g i=>
  bif b then
   (g79c k 11 c d e f g i).bind λj=>
   tup5 j λl m n o p=>
   rec (.h3 a l m n o p)
  else
   rec (.h3 a d e f g i)
 |.h3 a b c d e f=>some (a,b,c,d,e,f)
noncomputable def qCX (k:Nat)(a:Int)(b:Rs)(c d:Int)(e f:By)(g:Int)(i j l:Rs)(m n:Int):Option R114c:=itS qv5 k (.e a b c d e f g i j l m n)
def P114c:S114c->R114c->Prop
 |.e a b c d e f g i j l m n=>Fe Y114 qvw qvR [pP 0,.ag [ic a,.imm b,ic c,ic d,sc e,sc f,ic g]] [[.imm i,.imm j,.imm l,ic m,ic n]]
 |.h0 a b c d e f g i j l m n o p q t u v w x y=>Fk Y114 qvw qvR [1,1,1,0,1,2] ([pP 0,.deadv,.deadv,pL 3,.deadv,pL 5,cbc a,cic b]++rd 15++[cbc c]++rd 68) [(.loc 5,[sc d,ic e,ic f,ic g,ic i,ic j]),(.loc 3,[ic l,.imm m,ic n,ic o,sc p,sc q,ic t]),(.par 0,[.imm u,.imm v,.imm w,ic x,ic y])]
 |.h1 a b c d e f g i j l m n o p q t u v w x=>Fk Y114 qvw qvR [1,1,1,1,2] ([pP 0,.deadv,.deadv,pL 3,.deadv,pL 5,cbc a,cic b]++rd 84) [(.loc 5,[sc c,ic d,ic e,ic f,ic g,ic i]),(.loc 3,[ic j,.imm l,ic m,ic n,sc o,sc p,ic q]),(.par 0,[.imm t,.imm u,.imm v,ic w,ic x])]
 |.h2 a b c d e f g i j l m n o p=>Fk Y114 qvw qvR [1,1,1,1,1,0,1,2] ([pP 0,.deadv,.deadv,pL 3]++rd 3++[cic a]++rd 78++[cbc b]++rd 5) [(.loc 3,[ic c,.imm d,ic e,ic f,sc g,sc i,ic j]),(.par 0,[.imm l,.imm m,.imm n,ic o,ic p])]
 |.h3 a b c d e f=>Fk Y114 qvw qvR [1,1,1,1,1,1,2] (rd 7++[cic a]++rd 84) [(.par 0,[.imm b,.imm c,.imm d,ic e,ic f])]
abbrev E114c (a:Int)(b:Rs)(c d:Int)(e f:By)(g:Int)(i j l:Rs)(m n:Int)(r:R114c):Prop:=Ev Tryz.prog noHand 114 [pP 0,.ag [ic a,.imm b,ic c,ic d,sc e,sc f,ic g]] [[.imm i,.imm j,.imm l,ic m,ic n]] (qvw r) (qvR r)
theorem qDL {a:Int}{b:Rs}{c d:Int}{e f:By}{g:Int}{i j l:Rs}{m n:Int}{r:R114c}(h:P114c (.e a b c d e f g i j l m n) r):E114c a b c d e f g i j l m n r:=evF h
theorem qE0:∀ k s r,itS qv5 k s=some r->P114c s r:=qF λk rec l s r h=>match s,h with
 |.e ..,h=>by
  obtain⟨_,a,h⟩:=b10 h;replace h:=qa h;rcases h with⟨b,h⟩|⟨b,h⟩
  . exact mA 1 (l _ _ h) 9 [cA 13 (evI a),tT 18 b] 92 4951760157141521099588108054
  . exact mA 1 (l _ _ h) 9 [cA 13 (evI a),tF 18 b] 92 4951760157141521099588108054
 |.h0 ..,h=>by
  replace h:=qa h;rcases h with⟨rfl,h⟩|⟨rfl,h⟩
  . replace h:=qh h;obtain⟨_,a,h⟩:=h;replace h:=qa h;rcases h with⟨rfl,h⟩|⟨rfl,h⟩
    . replace h:=qh h;obtain⟨_,b,h⟩:=h;exact mA 1 (l _ _ h) 6 [cA 32 (evI a),cA 45 (evI b)] 92 4951760157141521099596496662
    . replace h:=qh h;obtain⟨_,b,h⟩:=h;exact mA 1 (l _ _ h) 6 [cA 32 (evI a),cA 45 (evI b)] 92 4951760157141521099596496662
  . exact mA 1 (l _ _ h) 2 [] 92 4951760157141521099596496662
 |.h1 _ a ..,h=>by
  replace h:=qa h;rcases h with⟨b,h⟩|⟨b,h⟩
  . obtain⟨_,c,h⟩:=b5 h;cases h;exact mF 1 [tT 47 b,cA 51 (evI c)]
  .
   replace h:=qa h;rcases h with⟨d,h⟩|⟨d,h⟩
   .
    replace h:=qa h;rcases h with⟨c,h⟩|⟨c,h⟩
    . exact mG 1 (l _ _ h) 8 [tF 47 b,tT 54 d,tT 58 c] 92 4874388904686184832415301494 [5] []
    .
     replace h:=qa h;rcases h with⟨e,h⟩|⟨e,h⟩
     .
      replace h:=qa h;rcases h with⟨f,h⟩|⟨f,h⟩
      .
       replace h:=qa h;rcases h with⟨g,h⟩|⟨g,h⟩
       . replace h:=qa h;rcases h with⟨i,h⟩|⟨i,h⟩
         . exact mG 1 (l _ _ h) 8 [tF 47 b,tT 54 d,tF 58 c,tT 63 e,tT 67 f,tT 71 g,tT 75 i] 92 4874388904686184832415301494 [5] []
         . replace h:=qa h;rcases h with⟨j,h⟩|⟨j,h⟩
           . exact mG 1 (l _ _ h) 8 [tF 47 b,tT 54 d,tF 58 c,tT 63 e,tT 67 f,tT 71 g,tF 75 i,tT 81 j,tF 84 i] 92 4874388904686184832415301494 [5] []
           . exact mG 1 (l _ _ h) 8 [tF 47 b,tT 54 d,tF 58 c,tT 63 e,tT 67 f,tT 71 g,tF 75 i,tF 81 j] 92 4874388904686184832415301494 [5] []
       . replace h:=qa h;rcases h with⟨i,h⟩|⟨i,h⟩
         . exact mG 1 (l _ _ h) 8 [tF 47 b,tT 54 d,tF 58 c,tT 63 e,tT 67 f,tF 71 g,tT 81 i,tT 84 (show(a != 4)=true from by rw[qzc g];rfl)] 92 4874388904686184832415301494 [5] []
         . exact mG 1 (l _ _ h) 8 [tF 47 b,tT 54 d,tF 58 c,tT 63 e,tT 67 f,tF 71 g,tF 81 i] 92 4874388904686184832415301494 [5] []
      . replace h:=qa h;rcases h with⟨g,h⟩|⟨g,h⟩
        . exact mG 1 (l _ _ h) 8 [tF 47 b,tT 54 d,tF 58 c,tT 63 e,tF 67 f,tT 81 g] 92 4874388904686184832415301494 [5] []
        . exact mG 1 (l _ _ h) 8 [tF 47 b,tT 54 d,tF 58 c,tT 63 e,tF 67 f,tF 81 g] 92 4874388904686184832415301494 [5] []
     . replace h:=qa h;rcases h with⟨f,h⟩|⟨f,h⟩
       . exact mG 1 (l _ _ h) 8 [tF 47 b,tT 54 d,tF 58 c,tF 63 e,tT 81 f] 92 4874388904686184832415301494 [5] []
       . exact mG 1 (l _ _ h) 8 [tF 47 b,tT 54 d,tF 58 c,tF 63 e,tF 81 f] 92 4874388904686184832415301494 [5] []
   .
    replace h:=qa h;rcases h with⟨c,h⟩|⟨c,h⟩
    .
     replace h:=qa h;rcases h with⟨e,h⟩|⟨e,h⟩
     .
      replace h:=qa h;rcases h with⟨f,h⟩|⟨f,h⟩
      . replace h:=qa h;rcases h with⟨g,h⟩|⟨g,h⟩
        . exact mG 1 (l _ _ h) 8 [tF 47 b,tF 54 d,tT 63 c,tT 67 e,tT 71 f,tT 75 g] 92 4874388904686184832415301494 [5] []
        . replace h:=qa h;rcases h with⟨i,h⟩|⟨i,h⟩
          . exact mG 1 (l _ _ h) 8 [tF 47 b,tF 54 d,tT 63 c,tT 67 e,tT 71 f,tF 75 g,tT 81 i,tF 84 g] 92 4874388904686184832415301494 [5] []
          . exact mG 1 (l _ _ h) 8 [tF 47 b,tF 54 d,tT 63 c,tT 67 e,tT 71 f,tF 75 g,tF 81 i] 92 4874388904686184832415301494 [5] []
      . replace h:=qa h;rcases h with⟨g,h⟩|⟨g,h⟩
        . exact mG 1 (l _ _ h) 8 [tF 47 b,tF 54 d,tT 63 c,tT 67 e,tF 71 f,tT 81 g,tT 84 (show(a != 4)=true from by rw[qzc f];rfl)] 92 4874388904686184832415301494 [5] []
        . exact mG 1 (l _ _ h) 8 [tF 47 b,tF 54 d,tT 63 c,tT 67 e,tF 71 f,tF 81 g] 92 4874388904686184832415301494 [5] []
     . replace h:=qa h;rcases h with⟨f,h⟩|⟨f,h⟩
       . exact mG 1 (l _ _ h) 8 [tF 47 b,tF 54 d,tT 63 c,tF 67 e,tT 81 f] 92 4874388904686184832415301494 [5] []
       . exact mG 1 (l _ _ h) 8 [tF 47 b,tF 54 d,tT 63 c,tF 67 e,tF 81 f] 92 4874388904686184832415301494 [5] []
    . replace h:=qa h;rcases h with⟨e,h⟩|⟨e,h⟩
      . exact mG 1 (l _ _ h) 8 [tF 47 b,tF 54 d,tF 63 c,tT 81 e] 92 4874388904686184832415301494 [5] []
      . exact mG 1 (l _ _ h) 8 [tF 47 b,tF 54 d,tF 63 c,tF 81 e] 92 4874388904686184832415301494 [5] []
 |.h2 ..,h=>by
  replace h:=qa h;rcases h with⟨rfl,h⟩|⟨rfl,h⟩
  . obtain⟨_,a,h⟩:=b5 h;exact mG 1 (l _ _ h) 2 [cA 90 (evI a)] 92 4951760157141521099596496767 [3] []
  . exact mG 1 (l _ _ h) 2 [] 92 4951760157141521099596496767 [3] []
 |.h3 ..,h=>by cases h;exact mF 1 []
theorem qEJ {k:Nat}{a:Int}{b:Rs}{c d:Int}{e f:By}{g:Int}{i j l:Rs}{m n:Int}{r:R114c}(h:qCX k a b c d e f g i j l m n=some r):E114c a b c d e f g i j l m n r:=qDL (qE0 _ _ _ h)
instance {k:Nat} {a:Int} {b:Rs} {c d:Int} {e f:By} {g:Int} {i j l:Rs} {m n:Int}:EvI (qCX k a b c d e f g i j l m n) 114 [pP 0,.ag [ic a,.imm b,ic c,ic d,sc e,sc f,ic g]] [[.imm i,.imm j,.imm l,ic m,ic n]] qvw qvR:=⟨λr h=>qEJ h⟩
noncomputable def qvC (k:Nat)(rec:S82c->Option R82c):S82c->Option R82c
 |.e a b c d e f g i j l m n=>rec (tg 9 (rg [] [(⟨⟨.slot 5,[]⟩,0,0⟩,some 1)] (.h0 [] (b.length:Int) 0 a b c d e f g i j l m n)))
 |.h0 a b c d e f g i j l m n o p q=>
  bif tg 12 (decide (c<b))then
   ixR e (tg 19 c) λt=>
   qE t λu v w x y z h=>
   (tg 21 (rec (.e u v w x y z h m n o p q))).bind λr=>
   tup6 r λc1 s A B C D=>
   gd (tg 23 (apOk 8 1 a [[ic c1]])) <|
   rec (tg 13 (.h0 (a++[[ic c1]]) b (wZ (c+1)) d e f g i j l s A B C D))
  else
   bif tg 29 (p != 0)then
    some (0,m,n,o,p,q)
   else
    bif tg 33 (d==20)then
     some (1,m,n,o,p,q)
    else
     bif tg 37 (d==21)then
      some (4,m,n,o,p,q)
     else
      bif tg 41 (d==22)then
       some (2,m,n,o,p,q)
      else
       bif tg 45 (d==23)then
        (tg 53 (g113 k n i)).bind λE=>
        bif tg 54 (decide (E<0))then
         (tg 58 (g79c k 10 l m n o p q)).bind λF=>
         tup5 F λG H I J K=>
         rec (tg 30 (rg [3] [] (.h1 G H I J K)))
        else
         rec (tg 30 (rg [3] [] (.h1 m n o p q)))
       else
        bif tg 62 (decide (d>=24))then
         (tg 65 (qCX k d e f g i j l m n o p q)).bind λt1=>
         tup6 t1 λL M w1 N O P=>
         some (L,M,w1,N,O,P)
        else
         (tg 69 (tg 2 (g115 k d (qG a)))).bind λt1=>
         bif tg 71 (t1==0)then
          (tg 75 (g79c k 11 l m n o p q)).bind λQ=>
          tup5 Q λb2 R S T U=>
          rec (tg 37 (rg [3] [] (.h2 t1 b2 R S T U)))
         else
          rec (tg 37 (rg [3] [] (.h2 t1 m n o p q)))
 |.h1 a b c d e=>some (3,a,b,c,d,e)
 |.h2 a b c d e f=>some (a,b,c,d,e,f)
noncomputable def g82c (k:Nat)(a:Int)(b:Rs)(c d:Int)(e f:By)(g:Int)(i j l:Rs)(m n:Int):Option R82c:=itS qvC k (.e a b c d e f g i j l m n)
def P82c:S82c->R82c->Prop
 |.e a b c d e f g i j l m n=>Fe Y82 qvw qvR [pP 0,.ag [ic a,.imm b,ic c,ic d,sc e,sc f,ic g]] [[.imm i,.imm j,.imm l,ic m,ic n]]
 |.h0 a b c d e f g i j l m n o p q=>Fk Y82 qvw qvR [1,1,0,1,0,4] ([pP 0,.deadv,.deadv,pL 3,.deadv,.c (.own 1 a)]++rd 4++[cic b,cic c]++rd 65) [(.loc 3,[ic d,.imm e,ic f,ic g,sc i,sc j,ic l]),(.par 0,[.imm m,.imm n,.imm o,ic p,ic q])]
 |.h1 a b c d e=>Fk Y82 qvw qvR [1,1,1,1,0,0,1,1,1,1,1,1,1,0,1,2] (rd 77) [(.par 0,[.imm a,.imm b,.imm c,ic d,ic e])]
 |.h2 a b c d e f=>Fk Y82 qvw qvR [1,1,1,1,1,1,1,2] (rd 7++[cic a]++rd 69) [(.par 0,[.imm b,.imm c,.imm d,ic e,ic f])]
instance {a:Int} {b:Rs} {c d:Int} {e f:By} {g:Int} {i j l:Rs} {m n:Int}:EvS P82c id (.e a b c d e f g i j l m n) 82 [pP 0,.ag [ic a,.imm b,ic c,ic d,sc e,sc f,ic g]] [[.imm i,.imm j,.imm l,ic m,ic n]] qvw qvR:=⟨λo h v e=>evF (h v e)⟩
theorem qGq:∀ k s r,itS qvC k s=some r->P82c s r:=okU (And.intro @qu4 trivial)
instance {k:Nat} {a:Int} {b:Rs} {c d:Int} {e f:By} {g:Int} {i j l:Rs} {m n:Int}:EvI (g82c k a b c d e f g i j l m n) 82 [pP 0,.ag [ic a,.imm b,ic c,ic d,sc e,sc f,ic g]] [[.imm i,.imm j,.imm l,ic m,ic n]] qvw qvR:=eI qGq
def qyv:R83b->ARes
 |(r,_,_,_)=>.ret (.c (.own 6 r))
def qA2 (d e:Int):R83b->List (List Cell)
 |(_,a,b,c)=>[[.imm a,.imm b,.imm c,ic d,ic e]]
noncomputable def qvJ (k:Nat)(rec:S83b->Option R83b):S83b->Option R83b
 |.e a b c d e f g i j l m n o=>
  bif tg 13 (a==24)then
   rec (tg 7 (.h0 i true a b c d e f g j l m n o))
  else
   bif tg 17 (decide (a>24))then
    rec (tg 7 (.h0 i (!i) a b c d e f g j l m n o))
   else
    rec (tg 7 (.h0 i false a b c d e f g j l m n o))
 |.h0 a b c d e f g i j l m n o p=>
  bif b then
   (tg 27 (g78c k g l m n o p)).bind λq=>
   ql q λt u v w x y _ z h r=>
   rec (tg 4 (rg [8] [] (.h1 a [[sc t,ic u,ic v,ic w,ic x,ic y]] c d e f g i j z h r o p)))
  else
   rec (tg 2 (rg [] [(⟨⟨.slot 7,[]⟩,0,0⟩,some 6)] (.h1 a [] c d e f g i j l m n o p)))
 |.h1 a b c d e f g i j l m n o p=>rec (tg 5 (.h2 a b (d.length:Int) 0 c d e f g i j l m n o p))
 |.h2 a b c d e f g i j l m n o p q t=>
  bif tg 38 (decide (d<c))then
   ixR f (tg 45 d) λu=>
   qE u λv w x y z h r=>
   (tg 48 (rec (.e v w x y z h r a n o p q t))).bind λc1=>
   tup4 c1 λs A B C=>
   gd (tg 49 (apOk 56 6 b s)) <|
   rec (tg 13 (.h2 a (b++s) c (wZ (d+1)) e f g i j l m A B C q t))
  else
   some (b,n,o,p)
noncomputable def g83b (k:Nat)(a:Int)(b:Rs)(c d:Int)(e f:By)(g:Int)(i:Bool)(j l m:Rs)(n o:Int):Option R83b:=itS qvJ k (.e a b c d e f g i j l m n o)
def P83b:S83b->R83b->Prop
 |.e a b c d e f g i j l m n o=>Fe Y83 qyv (qA2 n o) [pP 0,.ag [ic a,.imm b,ic c,ic d,sc e,sc f,ic g],cbc i] [[.imm j,.imm l,.imm m,ic n,ic o]]
 |.h0 a b c d e f g i j l m n o p=>Fk Y83 qyv (qA2 o p) [1,1,0,1,2] ([pP 0,.deadv,cbc a,.deadv,pL 4,.deadv,.deadv,.c .nil]++rd 14++[cbc b]++rd 29) [(.loc 4,[ic c,.imm d,ic e,ic f,sc g,sc i,ic j]),(.par 0,[.imm l,.imm m,.imm n,ic o,ic p])]
 |.h1 a b c d e f g i j l m n o p=>Fk Y83 qyv (qA2 o p) [1,1,1,2] ([pP 0,.deadv,cbc a,.deadv,pL 4,.deadv,.deadv,.c (.own 6 b)]++rd 44) [(.loc 4,[ic c,.imm d,ic e,ic f,sc g,sc i,ic j]),(.par 0,[.imm l,.imm m,.imm n,ic o,ic p])]
 |.h2 a b c d e f g i j l m n o p q t=>Fk Y83 qyv (qA2 q t) [1,1,1,0,1,0,4] ([pP 0,.deadv,cbc a,.deadv,pL 4,.deadv,.deadv,.c (.own 6 b)]++rd 28++[cic c,cic d]++rd 14) [(.loc 4,[ic e,.imm f,ic g,ic i,sc j,sc l,ic m]),(.par 0,[.imm n,.imm o,.imm p,ic q,ic t])]
instance {a:Int} {b:Rs} {c d:Int} {e f:By} {g:Int} {i:Bool} {j l m:Rs} {n o:Int}:EvS P83b id (.e a b c d e f g i j l m n o) 83 [pP 0,.ag [ic a,.imm b,ic c,ic d,sc e,sc f,ic g],cbc i] [[.imm j,.imm l,.imm m,ic n,ic o]] qyv (qA2 n o):=⟨λo h v e=>evF (h v e)⟩
theorem qGr:∀ k s r,itS qvJ k s=some r->P83b s r:=okU (And.intro @qu4 trivial)
instance {k:Nat} {a:Int} {b:Rs} {c d:Int} {e f:By} {g:Int} {i:Bool} {j l m:Rs} {n o:Int}:EvI (g83b k a b c d e f g i j l m n o) 83 [pP 0,.ag [ic a,.imm b,ic c,ic d,sc e,sc f,ic g],cbc i] [[.imm j,.imm l,.imm m,ic n,ic o]] qyv (qA2 n o):=eI qGr
def qww:R84b->ARes
 |(a,b,c,d,e,f,g,_,_,_,_,_)=>.ret (.ag [ic a,ic b,.imm c,ic d,.val (.int .u64 e),ic f,ic g])
def qyg:R84b->List (List Cell)
 |(_,_,_,_,_,_,_,a,b,c,d,e)=>[[.imm a,.imm b,.imm c,ic d,ic e]]
noncomputable def qvb (k:Nat)(rec:S84b->Option R84b):S84b->Option R84b
 |.e a b c d e f g i j l m n o=>
  (tg 16 (g82c k a b c d e f g j l m n o)).bind λp=>
  tup6 p λq t u v w x=>
  rec (tg 9 (rg [] [(⟨⟨.loc 7,[]⟩,0,2⟩,some 7)] (.h0 i (b.length:Int) 0 a q [] 0 0 0 0 0 0 0 0 0 0 a b c d e f g t u v w x)))
 |.h0 a b c d e f g i j l m n o p q t u v w x y z A s c1 h r B=>
  bif tg 22 (decide (c<b))then
   ixR v (tg 30 c) λE=>
   qE E λG C D F H O P=>
   (tg 33 (rec (.e G C D F H O P a s c1 h r B))).bind λI=>
   zu I λt1 J K w1 L M N Q b2 R S T=>
   gd (tg 35 (apOk 72 7 f [[ic t1,ic J,.imm K,ic w1,.val (.int .u64 L),ic M,ic N]])) <|
   rec (tg 13 (.h0 a b (wZ (c+1)) d e (f++[[ic t1,ic J,.imm K,ic w1,.val (.int .u64 L),ic M,ic N]]) g i j l m n o p q t u v w x y z A Q b2 R S T))
  else
   bif tg 44 (decide (u<20))then
    rec (tg 15 (rg [9,7,4] [] (.h1 d e (qG f) g i j l s c1 h r B)))
   else
    bif tg 49 (u==21)then
     (tg 55 (g116 k w x)).bind λU=>
     tup2 U λV _=>
     rec (tg 18 (.h2 a e V d e f g i j l m n o p q t u v w x y z A s c1 h r B))
    else
     bif tg 62 (u==23)then
      (tg 70 (g113 k c1 y)).bind λI=>
      rec (tg 21 (.h2 a e (IntKind.u64.wrap I) d e f g i j l m n o p q t u v w x y z A s c1 h r B))
     else
      bif tg 76 (decide (u<24))then
       rec (tg 24 (.h2 a e (IntKind.u64.wrap w) d e f g i j l m n o p q t u v w x y z A s c1 h r B))
      else
       rec (tg 24 (.h2 a e 0 d e f g i j l m n o p q t u v w x y z A s c1 h r B))
 |.h1 a b c d e f g i j l m n=>some (a,b,c,d,e,f,g,i,j,l,m,n)
 |.h2 a b c d e f g i _ j l m n o p q t u v w x y z A s c1 h r=>
  bif tg 83 (decide (t<24))then
   rec (tg 6 (rg [9,7,4] [(⟨⟨.loc 6,[]⟩,0,2⟩,none)] (.h3 40 b [] b c 0 0 A s c1 h r)))
  else
   (tg 92 (g78c k x A s c1 h r)).bind λB=>
   ql B λ_ _ _ E _ G _ C D F=>
   bif tg 100 (t != 25)then
    bif tg 104 (!(y.toList==(strB [84,73,77,69]).toList))then
     (tg 113 (g81 k C D G y)).bind λH=>
     rec (tg 19 (rg [10,9] [] (.h4 a d e f g i E H l m n o p q t u v w x y z C D F h r)))
    else
     rec (tg 19 (rg [10,9] [] (.h4 a d e f g i E (-1) l m n o p q t u v w x y z C D F h r)))
   else
    rec (tg 14 (rg [10,9] [] (.h4 a d e f g i E j l m n o p q t u v w x y z C D F h r)))
 |.h3 a b c d e f g i j l m n=>some (a,b,c,d,e,f,g,i,j,l,m,n)
 |.h4 a b c d e f g i j l m n o p q _ _ _ t _ _ u v w x y=>
  bif tg 117 (q==24)then
   bif tg 122 (t.toList==a.toList)then
    rec (tg 10 (rg [4] [] (.h5 41 c d e f 0 i j l m n o p u v w x y)))
   else
    rec (tg 10 (rg [4] [] (.h5 42 c d e f g i j l m n o p u v w x y)))
  else
   rec (tg 5 (rg [4] [] (.h5 b c d e f g i j l m n o p u v w x y)))
 |.h5 a b c d e f g _ _ _ _ _ _ i j l m n=>rec (tg 2 (rg [7] [] (.h6 a b (qG c) d e f g i j l m n)))
 |.h6 a b c d e f g i j l m n=>some (a,b,c,d,e,f,g,i,j,l,m,n)
noncomputable def g84b (k:Nat)(a:Int)(b:Rs)(c d:Int)(e f:By)(g:Int)(i:By)(j l m:Rs)(n o:Int):Option R84b:=itS qvb k (.e a b c d e f g i j l m n o)
def P84b:S84b->R84b->Prop
 |.e a b c d e f g i j l m n o=>Fe Y84 qww qyg [pP 0,.ag [ic a,.imm b,ic c,ic d,sc e,sc f,ic g],csc i] [[.imm j,.imm l,.imm m,ic n,ic o]]
 |.h0 a b c d e f g i j l m n o p q t u v w x y z h k c1 r s A=>Fk Y84 qww qyg [1,1,0,1,0,4] ([pP 0,.deadv,csc a,.deadv,pL 4,.deadv,pL 6,pL 7]++rd 12++[cic b,cic c]++rd 104) [(.loc 7,[ic d,ic e,.own 7 f,ic g,.val (.int .u64 i),ic j,ic l]),(.loc 6,[ic m,ic n,.nil,ic o,.val (.int .u64 p),ic q,ic t]),(.loc 4,[ic u,.imm v,ic w,ic x,sc y,sc z,ic h]),(.par 0,[.imm k,.imm c1,.imm r,ic s,ic A])]
 |.h1 a b c d e f g i j l m n=>Fk Y84 qww qyg [1,1,1,1,0,0,1,0,1,2] (rd 6++[pL 6]++rd 119) [(.loc 6,[ic a,ic b,.imm c,ic d,.val (.int .u64 e),ic f,ic g]),(.par 0,[.imm i,.imm j,.imm l,ic m,ic n])]
 |.h2 a b c d e f g i j l m n o p q t u v w x y z h k c1 r s A=>Fk Y84 qww qyg [1,1,1,1,1,2] ([pP 0,.deadv,csc a,.deadv,pL 4,.deadv,pL 6,pL 7,.deadv,pL 9]++rd 116) [(.loc 9,[ic b,.val (.int .u64 c)]),(.loc 7,[ic d,ic e,.own 7 f,ic g,.val (.int .u64 i),ic j,ic l]),(.loc 6,[ic m,ic n,.nil,ic o,.val (.int .u64 p),ic q,ic t]),(.loc 4,[ic u,.imm v,ic w,ic x,sc y,sc z,ic h]),(.par 0,[.imm k,.imm c1,.imm r,ic s,ic A])]
 |.h3 a b c d e f g i j l m n=>Fk Y84 qww qyg [1,1,1,1,1,0,1,0,1,2] (rd 6++[pL 6]++rd 119) [(.loc 6,[ic a,ic b,.imm c,ic d,.val (.int .u64 e),ic f,ic g]),(.par 0,[.imm i,.imm j,.imm l,ic m,ic n])]
 |.h4 a b c d e f g i j l m n o p q t u v w x y z h k c1 r=>Fk Y84 qww qyg [1,1,1,1,1,1,1,1,1,2] ([.deadv,.deadv,csc a,.deadv,pL 4,.deadv,pL 6,pL 7]++rd 118) [(.loc 7,[ic b,ic c,.own 7 d,ic e,.val (.int .u64 f),ic g,ic i]),(.loc 6,[ic j,ic l,.nil,ic m,.val (.int .u64 n),ic o,ic p]),(.loc 4,[ic q,.imm t,ic u,ic v,sc w,sc x,ic y]),(.par 0,[.imm z,.imm h,.imm k,ic c1,ic r])]
 |.h5 a b c d e f g i j l m n o p q t u v=>Fk Y84 qww qyg [1,1,1,1,1,1,1,1,1,1,2] (rd 6++[pL 6,pL 7]++rd 118) [(.loc 7,[ic a,ic b,.own 7 c,ic d,.val (.int .u64 e),ic f,ic g]),(.loc 6,[ic i,ic j,.nil,ic l,.val (.int .u64 m),ic n,ic o]),(.par 0,[.imm p,.imm q,.imm t,ic u,ic v])]
 |.h6 a b c d e f g i j l m n=>Fk Y84 qww qyg [1,1,1,1,1,1,1,1,1,1,1,2] (rd 6++[pL 6]++rd 119) [(.loc 6,[ic a,ic b,.imm c,ic d,.val (.int .u64 e),ic f,ic g]),(.par 0,[.imm i,.imm j,.imm l,ic m,ic n])]
instance {a:Int} {b:Rs} {c d:Int} {e f:By} {g:Int} {i:By} {j l m:Rs} {n o:Int}:EvS P84b id (.e a b c d e f g i j l m n o) 84 [pP 0,.ag [ic a,.imm b,ic c,ic d,sc e,sc f,ic g],csc i] [[.imm j,.imm l,.imm m,ic n,ic o]] qww qyg:=⟨λo h v e=>evF (h v e)⟩
theorem qGs:∀ k s r,itS qvb k s=some r->P84b s r:=okU (And.intro @qu4 trivial)
instance {k:Nat} {a:Int} {b:Rs} {c d:Int} {e f:By} {g:Int} {i:By} {j l m:Rs} {n o:Int}:EvI (g84b k a b c d e f g i j l m n o) 84 [pP 0,.ag [ic a,.imm b,ic c,ic d,sc e,sc f,ic g],csc i] [[.imm j,.imm l,.imm m,ic n,ic o]] qww qyg:=eI qGs
end
end Ab
end Go.Proofs.YtnnhdcidgfjfpaaGreatDoor
