/-
  Functions' ways, printed by a program: what each computes, and that this is what the interpreter computes.
-/
import Derived.Test.YtgfbbmjoflehlaaGreatDoorFQdq
import Derived.KernelRfl
set_option linter.all false
set_option maxRecDepth 10000
set_option maxHeartbeats 8000000
namespace Go.Proofs.YtgfbbmjoflehlaaGreatDoor
namespace Ab
variable [vo]
inductive S51b where
 |e (a:Int)(b:Rs)(c d e f:Int)(g i:Rs)(j l:Int)(m:By)(n:Int)
 |h0 (a:Bool)(b:Int)(c:By)(d e f g:Int)(i j:By)(l:Int)(m:Rs)(n o p q:Int)(t u:Rs)(v w:Int)(x:By)(y:Int)
 |h1 (a:Int)(b c:By)(d e:Int)(f g:By)(i:Int)(j:Rs)(l m n o:Int)(p q:Rs)(t u:Int)(v:By)(w:Int)
 |h2 (a:Bool)(b:Int)(c d:By)(e f:Int)(g i:By)(j:Int)(l:Rs)(m n o p:Int)(q t:Rs)(u v:Int)(w:By)(x:Int)
 |h3 (a:Int)(b c:By)(d e:Int)(f g:By)(i:Int)(j:Rs)(l m n o:Int)(p q:Rs)(t u:Int)(v:By)(w:Int)
abbrev R51b:=Int×By×By×Int×Rs×Int×Int×Int×Rs×Rs
inductive S18b where
 |e (a:Rs)(b c d e:Int)(f g:Rs)(i j:Int)(l:By)(m:Int)
 |h0 (a:Bool)(b:Rs)(c d e f:Int)(g i:Rs)(j l:Int)(m:By)(n:Int)
 |h1 (a:Rs)(b c d e:Int)(f g:Rs)(i j:Int)(l:By)(m:Int)
 |h2 (a b:Rs)(c d e f:Int)(g i:Rs)(j l:Int)(m:By)(n:Int)
 |h3 (a:Rs)(b:Bool)(c:Rs)(d e f g:Int)(i j:Rs)(l m:Int)(n:By)(o:Int)
 |h4 (a b:Rs)(c d e f:Int)(g i:Rs)(j l:Int)(m:By)(n:Int)
abbrev R18b:=Rs×Int×Int×Int×Rs×Rs
inductive S52c where
 |e (a:Rs)(b c d e:Int)
abbrev R52c:=Int×By×Int×Int×Int×Rs
inductive S19c where
 |e (a:By)(b:Rs)(c d e f:Int)
abbrev R19c:=Bool×Rs
inductive S22c where
 |e (a:Int)(b:Rs)(c d e f:Int)
abbrev R22c:=Rs×Int×Int
inductive S123 where
 |e (a:Rs)(b c d e:Int)
 |h0 (a:Int)(b:Rs)(c d e f:Int)
abbrev R123:=Int×Rs×Int×Int×Int×Int
inductive S137 where
 |e (a:Rs)(b c d e:Int)
abbrev R137:=By×Rs×Int×Int×Int
inductive S17c where
 |e (a:By)(b:Rs)(c d e f:Int)
abbrev R17c:=Rs×Int×Int×Int
inductive S124 where
 |e (a:Rs)(b c d e:Int)
 |h0 (a:By)(b:Bool)(c:Rs)(d e f g:Int)
abbrev R124:=By×By×Rs×Int×Int×Int
inductive S125b where
 |e (a:Rs)(b c d e f:Int)(g:Rs)(i j:Int)(l m:By)(n:Int)
 |h0 (a:Rs)(b c:Int)(d:Rs)(e f g i j:Int)(l:Rs)(m n:Int)(o p:By)(q:Int)
 |h1 (a:Int)(b:Rs)(c d:Int)(e:Bool)(f:Rs)(g i j l m:Int)(n:Rs)(o p:Int)(q t:By)(u:Int)
 |h2 (a:Rs)(b c:Int)(d:Rs)(e f g i j:Int)(l:Rs)(m n:Int)(o p:By)(q:Int)
 |h3 (a:Rs)(b c:Int)(d:Rs)(e f g i j:Int)(l:Rs)(m n:Int)(o p:By)(q:Int)
abbrev R125b:=Rs×Int×Int×Int×Int×Rs×By×By
inductive S84 where
 |e_84 (a:Int)(b:Rs)(c d e f:Int)
 |h0_84 (a:Int)(b:Bool)(c d e:Int)(f g:By)(i:Int)(j:Rs)(l m n o:Int)
 |h1_84 (a b:Int)(c:Rs)(d e:Int)(f g:By)(i j l m:Int)(n o:By)(p:Int)(q:Rs)(t u v w:Int)
 |h2_84 (a b:Int)(c:Rs)(d e:Int)(f g:By)(i j l m:Int)(n o:By)(p:Int)(q:Rs)(t u v w:Int)
 |h3_84 (a:Int)(b:Rs)(c d e f g:Int)(i:Rs)(j l:Int)(m n:By)(o p q t:Int)(u v:By)(w:Int)(x:Rs)(y z a1 b1:Int)
 |h4_84 (a:Int)(b:Rs)(c d e f g:Int)(i:Rs)(j l:Int)(m n:By)(o p q t:Int)(u v:By)(w:Int)(x:Rs)(y z a1 b1:Int)
 |h5_84 (a:Int)(b:Rs)(c d e f g:Int)(i:Rs)(j l:Int)(m n:By)(o p q t:Int)(u v:By)(w:Int)(x:Rs)(y z a1 b1:Int)
 |h6_84 (a:Int)(b:Bool)(c:Int)(d:Rs)(e f:Int)(g i:By)(j l m n:Int)(o p:By)(q:Int)(t:Rs)(u v w x:Int)
 |h7_84 (a:Int)(b:Rs)(c d e f g:Int)(i:Rs)(j l:Int)(m n:By)(o p q t:Int)(u v:By)(w:Int)(x:Rs)(y z a1 b1:Int)
 |e_105 (a:Int)(b:Rs)(c d e f:Int)
 |h0_105 (a:Int)(b:By)(c d e f:Int)(g i:By)(j:Int)(l:Rs)(m n o p:Int)
 |h1_105 (a:Int)(b:Rs)(c d:Int)(e f:By)(g:Int)(i:Rs)(j l m n:Int)
 |h2_105 (a:Int)(b:Rs)(c d:Int)(e f:By)(g:Int)(i:Rs)(j l m n:Int)
 |h3_105 (a:Int)(b:Rs)(c d:Int)(e f:By)(g:Int)(i:Rs)(j l m n:Int)
 |e_106 (a:Rs)(b c d e:Int)
 |h0_106 (a:Int)(b:Rs)(c d:Int)(e f:By)(g i j l:Int)(m n:By)(o:Int)(p:Rs)(q t u v:Int)
 |h1_106 (a:Int)(b:Rs)(c d:Int)(e f:By)(g i j l:Int)(m n:By)(o:Int)(p:Rs)(q t u v:Int)
 |h2_106 (a:Bool)(b c d:Int)(e f:By)(g i j l:Int)(m n:By)(o:Int)(p:Rs)(q t u v:Int)
 |h3_106 (a b c:Int)(d e:By)(f g i j:Int)(l m:By)(n:Int)(o:Rs)(p q t u:Int)
 |h4_106 (a:Bool)(b c d:Int)(e f:By)(g i j l:Int)(m n:By)(o:Int)(p:Rs)(q t u v:Int)
 |h5_106 (a b c:Int)(d e:By)(f g i j:Int)(l m:By)(n:Int)(o:Rs)(p q t u:Int)
 |h6_106 (a:Int)(b:Rs)(c d:Int)(e f:By)(g i j l:Int)(m n:By)(o:Int)(p:Rs)(q t u v:Int)
abbrev qwJ:=(Int×Int×Int×By×By×Int×Rs×Int×Int×Int×Int)⊕(Int×Rs×Int×Int×By×By×Int×Rs×Int×Int×Int×Int)⊕(Int×Rs×Int×Int×By×By×Int×Rs×Int×Int×Int×Int)
abbrev qwd:=(Int×Rs×Int×Int×By×By×Int×Rs×Int×Int×Int×Int)⊕(Int×Rs×Int×Int×By×By×Int×Rs×Int×Int×Int×Int)
abbrev qvL:=Int×Rs×Int×Int×By×By×Int×Rs×Int×Int×Int×Int
abbrev R84:=qwJ⊕qwd⊕qvL
def qvb (o:Option R84):Option qwJ:=o.bind fun|(.inl x)=>some x|_=>none
theorem qyL {o:Option R84}{v:qwJ}(h:qvb o=some v):o=some (.inl v):=by
 cases o with
 |none=>cases h
 |some r=>
  unfold qvb at h;simp only[ae]at h;split at h
  . injection h with h;rw[h]
  . cases h
def qxk (o:Option R84):Option qwd:=o.bind fun|(.inr (.inl x))=>some x|_=>none
theorem qzZ {o:Option R84}{v:qwd}(h:qxk o=some v):o=some (.inr (.inl v)):=by
 cases o with
 |none=>cases h
 |some r=>
  unfold qxk at h;simp only[ae]at h;split at h
  . injection h with h;rw[h]
  . cases h
def qx6 (o:Option R84):Option qvL:=o.bind fun|(.inr (.inr x))=>some x|_=>none
theorem qz0 {o:Option R84}{v:qvL}(h:qx6 o=some v):o=some (.inr (.inr v)):=by
 cases o with
 |none=>cases h
 |some r=>
  unfold qx6 at h;simp only[ae]at h;split at h
  . injection h with h;rw[h]
  . cases h
inductive S53 where
 |e (a:Rs)(b:Int)
 |h0 (a:Rs)(b:Int)(c:Bool)(d e f:Int)(g i:By)(j:Int)
 |h1 (a b c d:Int)(e:Rs)(f g:Int)(i j:By)(l:Int)
 |h2 (a:Bool)(b:Int)(c:Rs)(d e:Int)(f g:By)(i:Int)(j:Rs)(l m n o p q t:Int)(u v:By)(w:Int)
 |h3 (a:Bool)(b:Int)(c:Rs)(d e:Int)(f g:By)(i:Int)(j:Rs)(l m n o p q t:Int)(u v:By)(w:Int)
 |h4 (a b c d:Int)(e:Rs)(f g:Int)(i j:By)(l:Int)
 |h5 (a b c d:Int)(e:Rs)(f g:Int)(i j:By)(l:Int)
abbrev R53:=Int×Rs×Int×Int×By×By×Int×Int×Int×Int
inductive S54 where
 |e (a:Int)(b:Rs)(c d:Int)(e f:By)(g:Int)
abbrev R54:=Rs
inductive S20 where
 |e (a:Rs)(b c d e:Int)(f g:Rs)(i j:Int)(l:By)(m:Int)
 |h0 (a:Bool)(b:Rs)(c d e f:Int)(g i:Rs)(j l:Int)(m:By)(n:Int)
abbrev R20:=Rs×Int×Int×Int×Rs×Rs
inductive S21 where
 |e (a:Rs)(b c d e:Int)(f g:Rs)(i j:Int)(l:By)(m:Int)
 |h0 (a:Rs)(b c:Int)(d:Rs)(e f g i:Int)(j l:Rs)(m n:Int)(o:By)(p:Int)
 |h1 (a:Int)(b:Rs)(c d:Int)(e:Bool)(f:Rs)(g i j l:Int)(m n:Rs)(o p:Int)(q:By)(t:Int)
 |h2 (a:Rs)(b c d e:Int)(f g:Rs)(i j:Int)(l:By)(m:Int)
 |h3 (a:Rs)(b c:Int)(d:Rs)(e f g i:Int)(j l:Rs)(m n:Int)(o:By)(p:Int)
 |h4 (a:Bool)(b:Rs)(c d e f:Int)(g i:Rs)(j l:Int)(m:By)(n:Int)
 |h5 (a:Rs)(b c d e:Int)(f g:Rs)(i j:Int)(l:By)(m:Int)
 |h6 (a:Bool)(b:Rs)(c d e f:Int)(g i:Rs)(j l:Int)(m:By)(n:Int)
 |h7 (a:Rs)(b c d e:Int)(f g:Rs)(i j:Int)(l:By)(m:Int)
abbrev R21:=Rs×Int×Int×Int×Rs×Rs×Int×Int×By×Int
inductive S6 where
 |e (a:By)
 |h0 (a b:Int)(c d:Rs)(e f:Int)(g:By)(i:Int)
 |h1 (a:Rs)(b c d e:Int)(f g:Rs)(i j:Int)(l:By)(m n o:Int)(p:By)(q:Int)
 |h2 (a:Rs)(b c d e:Int)(f g:Rs)(i j:Int)(l:By)(m n o:Int)(p:By)(q:Int)
 |h3 (a:Bool)(b:Rs)(c d e f:Int)(g i:Rs)(j l:Int)(m:By)(n o p:Int)(q:By)(t:Int)
 |h4 (a:Bool)(b:Rs)(c d e f:Int)(g i:Rs)(j l:Int)(m:By)(n o p:Int)(q:By)(t:Int)
 |h5 (a:Rs)(b c d e:Int)(f g:Rs)(i j:Int)(l:By)(m n o:Int)(p:By)(q:Int)
 |h6 (a b:Int)(c d:Rs)(e f:Int)(g:By)(i:Int)
 |h7 (a b:Int)(c d:Rs)(e f:Int)(g:By)(i:Int)
 |h8 (a b:Int)(c d:Rs)(e f:Int)(g:By)(i:Int)
abbrev R6:=Rs×Rs×Int×Int×By×Int×Int×Int
inductive S3 where
 |e (a:By)
abbrev R3:=Bool
attribute [local irreducible] cond gd ixR sxI aixS Option.bind
noncomputable section
def qxi:R51b->ARes
 |(a,b,c,d,_,_,_,_,_,_)=>.ret (.ag [ic a,sc b,sc c,ic d])
def qyS (b0_2 b0_7 b0_8:Int)(b0_9:ByteArray)(b0_10:Int):R51b->List (List Cell)
 |(_,_,_,_,a,b,c,d,e,f)=>[[.imm a,ic b,ic b0_2,ic c,ic d,.own 1 e,.own 7 f,ic b0_7,ic b0_8,sc b0_9,ic b0_10]]
def qu5 (k:Nat)(rec:S51b->Option R51b):S51b->Option R51b
 |.e a b c d e f g i j l m n=>
  ixR b (tg 17 c) fun o=>
  qaM o fun p q t u v=>
  bif tg 20 (a==8)then
   bif tg 24 (p==2)then
    rec (tg 7 (.h0 true p q t u v 0 (strB []) (strB []) 0 b c d e f g i j l m n))
   else
    (tg 29 (g19b k (strB [33]) b c d e f g i j l m n)).bind fun w=>
    tup4 w fun x y z a1=>
    rec (tg 7 (.h0 x p q t u v 0 (strB []) (strB []) 0 y c d e f z a1 j l m n))
  else
   rec (tg 7 (.h0 false p q t u v 0 (strB []) (strB []) 0 b c d e f g i j l m n))
 |.h0 a _ _ _ _ b c d e f g i j l m n o p q t u=>
  bif a then
   (tg 35 (g22b k 2 g i j l m n o p q t u)).bind fun v=>
   tup5 v fun w x y z a1=>
   some (0,strB [],strB [],0,w,i,x,y,z,a1)
  else
   (tg 43 (g19b k (strB [33]) g i j l m n o p q t u)).bind fun v=>
   tup4 v fun b1 w z a1=>
   bif b1 then
    rec (tg 11 (rg [5] [] (.h1 3 (strB []) (strB []) b c d e f w (IntKind.i64.wrap (i+1)) j l m z a1 p q t u)))
   else
    rec (tg 9 (rg [5] [] (.h1 1 (strB []) (strB []) b c d e f w i j l m z a1 p q t u)))
 |.h1 a _ b c d e f g i j l m n o p q t u v=>
  (tg 55 (g56b k i j l m n o p q t u v)).bind fun w=>
  tup7 w fun x y z a1 b1 c1 d1=>
  bif tg 62 (a1==0)then
   bif tg 66 (a==1)then
    (tg 72 (g19b k (strB [43]) y z l a1 b1 c1 d1 q t u v)).bind fun e1=>
    tup4 e1 fun f1 g1 i1 j1=>
    rec (tg 5 (.h2 f1 a x b c d e f g g1 z l a1 b1 i1 j1 q t u v))
   else
    rec (tg 5 (.h2 false a x b c d e f g y z l a1 b1 c1 d1 q t u v))
  else
   rec (tg 5 (.h2 false a x b c d e f g y z l a1 b1 c1 d1 q t u v))
 |.h2 a b c d e f g i j l m n o p q t u v w x=>
  bif a then
   rec (tg 4 (.h3 2 c d e f g i j l (IntKind.i64.wrap (m+1)) n o p q t u v w x))
  else
   rec (tg 2 (.h3 b c d e f g i j l m n o p q t u v w x))
 |.h3 a b _ c _ _ _ _ d e f g i j l m n o p=>
  (tg 85 (g56b k d e f g i j l m n o p)).bind fun q=>
  tup7 q fun t u v w x y z=>
  some (a,b,t,c,u,v,w,x,y,z)
def g51b (k:Nat)(a:Int)(b:Rs)(c d e f:Int)(g i:Rs)(j l:Int)(m:By)(n:Int):Option R51b:=itS qu5 k (.e a b c d e f g i j l m n)
def P51b:S51b->R51b->Prop
 |.e a b c d e f g i j l m n=>Fe Y51 qxi (qyS d j l m n) [pP 0,cic a] [[.imm b,ic c,ic d,ic e,ic f,.own 1 g,.own 7 i,ic j,ic l,sc m,ic n]]
 |.h0 a b c d e f g i j l m n o p q t u v w x y=>Fk Y51 qxi (qyS o v w x y) [1,1,0,1,2] ([pP 0]++rd 3++[pL 4,pL 5]++rd 25++[cbc a]++rd 56) [(.loc 5,[ic b,sc c,ic d,ic e,ic f]),(.loc 4,[ic g,sc i,sc j,ic l]),(.par 0,[.imm m,ic n,ic o,ic p,ic q,.own 1 t,.own 7 u,ic v,ic w,sc x,ic y])]
 |.h1 a b c d e f g i j l m n o p q t u v w=>Fk Y51 qxi (qyS m t u v w) [1,1,1,1,1,2] ([pP 0]++rd 3++[pL 4,.deadv,pL 6]++rd 81) [(.loc 6,[ic a,sc b,sc c,ic d]),(.loc 4,[ic e,sc f,sc g,ic i]),(.par 0,[.imm j,ic l,ic m,ic n,ic o,.own 1 p,.own 7 q,ic t,ic u,sc v,ic w])]
 |.h2 a b c d e f g i j l m n o p q t u v w x=>Fk Y51 qxi (qyS n u v w x) [1,1,1,1,1,1,0,1,2] ([pP 0]++rd 3++[pL 4,.deadv,pL 6]++rd 66++[cbc a]++rd 14) [(.loc 6,[ic b,sc c,sc d,ic e]),(.loc 4,[ic f,sc g,sc i,ic j]),(.par 0,[.imm l,ic m,ic n,ic o,ic p,.own 1 q,.own 7 t,ic u,ic v,sc w,ic x])]
 |.h3 a b c d e f g i j l m n o p q t u v w=>Fk Y51 qxi (qyS m t u v w) [1,1,1,1,1,1,1,2] ([pP 0]++rd 3++[pL 4,.deadv,pL 6]++rd 81) [(.loc 6,[ic a,sc b,sc c,ic d]),(.loc 4,[ic e,sc f,sc g,ic i]),(.par 0,[.imm j,ic l,ic m,ic n,ic o,.own 1 p,.own 7 q,ic t,ic u,sc v,ic w])]
theorem qFE:∀ k s r,itS qu5 k s=some r->P51b s r:=okU (And.intro @qvg trivial)
instance {k:Nat} {a:Int} {b:Rs} {c d e f:Int} {g i:Rs} {j l:Int} {m:By} {n:Int}:EvI (g51b k a b c d e f g i j l m n) 51 [pP 0,cic a] [[.imm b,ic c,ic d,ic e,ic f,.own 1 g,.own 7 i,ic j,ic l,sc m,ic n]] qxi (qyS d j l m n):=eI qFE
def qu3 (k:Nat)(rec:S18b->Option R18b):S18b->Option R18b
 |.e a b c d e f g i j l m=>
  bif tg 8 (d==0)then
   (tg 13 (g19b k (strB [83,69,81]) a b c d e f g i j l m)).bind fun n=>
   tup4 n fun o p q t=>
   bif o then
    rec (tg 3 (.h0 ((q.length:Int)==4) p b c d e q t i j l m))
   else
    rec (tg 3 (.h0 false p b c d e q t i j l m))
  else
   rec (tg 3 (.h0 false a b c d e f g i j l m))
 |.h0 a b c d e f g i j l m n=>
  bif a then
   (tg 27 (g22b k 2 b c d e f g i j l m n)).bind fun o=>
   tup5 o fun p q t u v=>
   rec (tg 2 (.h1 p c d q t u v j l m n))
  else
   rec (tg 2 (.h1 b c d e f g i j l m n))
 |.h1 a b c d e f g i j l m=>
  (tg 31 (g17b k (strB [83,69,81]) a b c d e f g i j l m)).bind fun n=>
  tup6 n fun o p q t u v=>
  (tg 35 (g17b k (strB [40]) o p c q t u v i j l m)).bind fun w=>
  tup6 w fun x y z a1 b1 c1=>
  rec (tg 9 (rg [] [(⟨⟨.slot 2,[]⟩,0,0⟩,some 4)] (.h2 [] x y c z a1 b1 c1 i j l m)))
 |.h2 a b c d e f g i j l m n=>
  bif tg 41 (e==0)then
   (tg 46 (g51b k (a.length:Int) b c d e f g i j l m n)).bind fun o=>
   ql o fun p q t u v w x y z a1=>
   gd (tg 48 (apOk 48 4 a [[ic p,sc q,sc t,ic u]])) <|
   bif tg 54 (x != 0)then
    rec (tg 12 (.h3 (a++[[ic p,sc q,sc t,ic u]]) true v w d x y z a1 j l m n))
   else
    (tg 59 (g19b k (strB [44]) v w d x y z a1 j l m n)).bind fun b1=>
    tup4 b1 fun c1 d1 e1 f1=>
    rec (tg 12 (.h3 (a++[[ic p,sc q,sc t,ic u]]) (!c1) d1 w d x y e1 f1 j l m n))
  else
   rec (tg 6 (.h4 a b c d e f g i j l m n))
 |.h3 a b c d e f g i j l m n o=>
  bif b then
   rec (tg 2 (.h4 a c d e f g i j l m n o))
  else
   rec (tg 4 (.h2 a c (IntKind.i64.wrap (d+1)) e f g i j l m n o))
 |.h4 a b c d e f g i j l m n=>
  (tg 74 (g17b k (strB [41]) b c d e f g i j l m n)).bind fun o=>
  tup6 o fun p q t u v w=>
  gd (tg 83 (apOk 24 1 v [[.imm (qG a)]])) <|
  some (p,q,t,u,v++[[.imm (qG a)]],w)
def g18b (k:Nat)(a:Rs)(b c d e:Int)(f g:Rs)(i j:Int)(l:By)(m:Int):Option R18b:=itS qu3 k (.e a b c d e f g i j l m)
def P18b:S18b->R18b->Prop
 |.e a b c d e f g i j l m=>Fe Y18 qBy (qDi c i j l m) [pP 0] [[.imm a,ic b,ic c,ic d,ic e,.own 1 f,.own 7 g,ic i,ic j,sc l,ic m]]
 |.h0 a b c d e f g i j l m n=>Fk Y18 qBy (qDi d j l m n) [0,1,2] ([pP 0]++rd 22++[cbc a]++rd 63) [(.par 0,[.imm b,ic c,ic d,ic e,ic f,.own 1 g,.own 7 i,ic j,ic l,sc m,ic n])]
 |.h1 a b c d e f g i j l m=>Fk Y18 qBy (qDi c i j l m) [1,2] ([pP 0]++rd 86) [(.par 0,[.imm a,ic b,ic c,ic d,ic e,.own 1 f,.own 7 g,ic i,ic j,sc l,ic m])]
 |.h2 a b c d e f g i j l m n=>Fk Y18 qBy (qDi d j l m n) [1,1,1,1,0,0,4] ([pP 0,.deadv,.c (.own 4 a)]++rd 84) [(.par 0,[.imm b,ic c,ic d,ic e,ic f,.own 1 g,.own 7 i,ic j,ic l,sc m,ic n])]
 |.h3 a b c d e f g i j l m n o=>Fk Y18 qBy (qDi e l m n o) [1,1,1,1,0,0,0,1,0,1,0,1,2] ([pP 0,.deadv,.c (.own 4 a)]++rd 58++[cbc b]++rd 25) [(.par 0,[.imm c,ic d,ic e,ic f,ic g,.own 1 i,.own 7 j,ic l,ic m,sc n,ic o])]
 |.h4 a b c d e f g i j l m n=>Fk Y18 qBy (qDi d j l m n) [1,1,1,1,1,2] ([pP 0,.deadv,.c (.own 4 a)]++rd 84) [(.par 0,[.imm b,ic c,ic d,ic e,ic f,.own 1 g,.own 7 i,ic j,ic l,sc m,ic n])]
theorem qFt:∀ k s r,itS qu3 k s=some r->P18b s r:=okU trivial
instance {k:Nat} {a:Rs} {b c d e:Int} {f g:Rs} {i j:Int} {l:By} {m:Int}:EvI (g18b k a b c d e f g i j l m) 18 [pP 0] [[.imm a,ic b,ic c,ic d,ic e,.own 1 f,.own 7 g,ic i,ic j,sc l,ic m]] qBy (qDi c i j l m):=eI qFt
def qDt (b0_1 b0_2 b0_3 b0_4:Int):R52c->List (List Cell)
 |(_,_,_,_,_,a)=>[[.imm a,ic b0_1,ic b0_2,ic b0_3,ic b0_4]]
def qxK (k:Nat)(rec:S52c->Option R52c):S52c->Option R52c
 |.e a b ..=>
  ixR a (tg 11 b) fun c=>
  qaM c fun d e f g i=>
  some (d,e,f,g,i,a)
def g52c (k:Nat)(a:Rs)(b c d e:Int):Option R52c:=itS qxK k (.e a b c d e)
def P52c:S52c->R52c->Prop
 |.e a b c d e=>Fe Y52 qqW (qDt b c d e) [pP 0] [[.imm a,ic b,ic c,ic d,ic e]]
theorem qFG:∀ k s r,itS qxK k s=some r->P52c s r:=okU (And.intro @qvg trivial)
instance {k:Nat} {a:Rs} {b c d e:Int}:EvI (g52c k a b c d e) 52 [pP 0] [[.imm a,ic b,ic c,ic d,ic e]] qqW (qDt b c d e):=eI qFG
def qDl (b0_1 b0_2 b0_3 b0_4:Int):R19c->List (List Cell)
 |(_,a)=>[[.imm a,ic b0_1,ic b0_2,ic b0_3,ic b0_4]]
def qxC (k:Nat)(rec:S19c->Option R19c):S19c->Option R19c
 |.e a b c d e f=>
  (tg 7 (g52c k b c d e f)).bind fun g=>
  tup6 g fun i j _ _ _ l=>
  bif tg 10 (i==1)then
   some (j.toList==a.toList,l)
  else
   bif tg 14 (i==6)then
    some (j.toList==a.toList,l)
   else
    some (false,l)
def g19c (k:Nat)(a:By)(b:Rs)(c d e f:Int):Option R19c:=itS qxC k (.e a b c d e f)
def P19c:S19c->R19c->Prop
 |.e a b c d e f=>Fe Y19 qBg (qDl c d e f) [pP 0,csc a] [[.imm b,ic c,ic d,ic e,ic f]]
theorem qFv:∀ k s r,itS qxC k s=some r->P19c s r:=okU trivial
instance {k:Nat} {a:By} {b:Rs} {c d e f:Int}:EvI (g19c k a b c d e f) 19 [pP 0,csc a] [[.imm b,ic c,ic d,ic e,ic f]] qBg (qDl c d e f):=eI qFv
def qDn (b0_1 b0_2:Int):R22c->List (List Cell)
 |(a,b,c)=>[[.imm a,ic b0_1,ic b0_2,ic b,ic c]]
def qxE (k:Nat)(rec:S22c->Option R22c):S22c->Option R22c
 |.e a b c d e f=>
  bif tg 8 (e==0)then
   (tg 13 (g52c k b c d e f)).bind fun g=>
   tup6 g fun _ _ _ _ i j=>
   some (j,a,i)
  else
   some (b,e,f)
def g22c (k:Nat)(a:Int)(b:Rs)(c d e f:Int):Option R22c:=itS qxE k (.e a b c d e f)
def P22c:S22c->R22c->Prop
 |.e a b c d e f=>Fe Y22 qmv (qDn c d) [pP 0,cic a] [[.imm b,ic c,ic d,ic e,ic f]]
theorem qFx:∀ k s r,itS qxE k s=some r->P22c s r:=okU trivial
instance {k:Nat} {a:Int} {b:Rs} {c d e f:Int}:EvI (g22c k a b c d e f) 22 [pP 0,cic a] [[.imm b,ic c,ic d,ic e,ic f]] qmv (qDn c d):=eI qFx
def qzR:R123->ARes
 |(r,_,_,_,_,_)=>.ret (cic r)
def qCb:R123->List (List Cell)
 |(_,a,b,c,d,e)=>[[.imm a,ic b,ic c,ic d,ic e]]
def qvZ (k:Nat)(rec:S123->Option R123):S123->Option R123
 |.e a b c d e=>
  (tg 5 (g52c k a b c d e)).bind fun f=>
  tup6 f fun _ _ _ _ g i=>
  bif tg 11 (c==30)then
   (tg 13 (g22c k 14 i b c d e)).bind fun j=>
   tup3 j fun l m n=>
   rec (tg 9 (.h0 g l b c m n))
  else
   rec (tg 9 (.h0 g i b c d e))
 |.h0 a b c d e f=>some (a,b,IntKind.i64.wrap (c+1),IntKind.i64.wrap (d+1),e,f)
def g123 (k:Nat)(a:Rs)(b c d e:Int):Option R123:=itS qvZ k (.e a b c d e)
def P123:S123->R123->Prop
 |.e a b c d e=>Fe Y123 qzR qCb [pP 0] [[.imm a,ic b,ic c,ic d,ic e]]
 |.h0 a b c d e f=>Fk Y123 qzR qCb [1,1,1,2] ([pP 0,.deadv,.deadv,cic a]++rd 25) [(.par 0,[.imm b,ic c,ic d,ic e,ic f])]
theorem qFg:∀ k s r,itS qvZ k s=some r->P123 s r:=okU trivial
instance {k:Nat} {a:Rs} {b c d e:Int}:EvI (g123 k a b c d e) 123 [pP 0] [[.imm a,ic b,ic c,ic d,ic e]] qzR qCb:=eI qFg
def qBp:R137->ARes
 |(r,_,_,_,_)=>.ret (csc r)
def qC9 (b0_2:Int):R137->List (List Cell)
 |(_,a,b,c,d)=>[[.imm a,ic b,ic b0_2,ic c,ic d]]
def qwC (k:Nat)(rec:S137->Option R137):S137->Option R137
 |.e a b c d e=>
  bif tg 8 (d != 0)then
   some (strB [],a,b,d,e)
  else
   (tg 10 (g52c k a b c d e)).bind fun f=>
   tup6 f fun g i _ _ _ j=>
   bif tg 13 (g != 2)then
    (tg 15 (g22c k 13 j b c d e)).bind fun l=>
    tup3 l fun m n o=>
    some (strB [],m,b,n,o)
   else
    some (i,j,IntKind.i64.wrap (b+1),d,e)
def g137 (k:Nat)(a:Rs)(b c d e:Int):Option R137:=itS qwC k (.e a b c d e)
def P137:S137->R137->Prop
 |.e a b c d e=>Fe Y137 qBp (qC9 c) [pP 0] [[.imm a,ic b,ic c,ic d,ic e]]
theorem qFk:∀ k s r,itS qwC k s=some r->P137 s r:=okU trivial
instance {k:Nat} {a:Rs} {b c d e:Int}:EvI (g137 k a b c d e) 137 [pP 0] [[.imm a,ic b,ic c,ic d,ic e]] qBp (qC9 c):=eI qFk
def qDj (b0_2:Int):R17c->List (List Cell)
 |(a,b,c,d)=>[[.imm a,ic b,ic b0_2,ic c,ic d]]
def qwE (k:Nat)(rec:S17c->Option R17c):S17c->Option R17c
 |.e a b c d e f=>
  bif tg 8 (e != 0)then
   some (b,c,e,f)
  else
   (tg 11 (g19c k a b c d e f)).bind fun g=>
   tup2 g fun i j=>
   bif tg 12 (!i)then
    (tg 14 (g22c k 13 j c d e f)).bind fun l=>
    tup3 l fun m n o=>
    some (m,c,n,o)
   else
    some (j,IntKind.i64.wrap (c+1),e,f)
def g17c (k:Nat)(a:By)(b:Rs)(c d e f:Int):Option R17c:=itS qwE k (.e a b c d e f)
def P17c:S17c->R17c->Prop
 |.e a b c d e f=>Fe Y17 qjK (qDj d) [pP 0,csc a] [[.imm b,ic c,ic d,ic e,ic f]]
theorem qFs:∀ k s r,itS qwE k s=some r->P17c s r:=okU trivial
instance {k:Nat} {a:By} {b:Rs} {c d e f:Int}:EvI (g17c k a b c d e f) 17 [pP 0,csc a] [[.imm b,ic c,ic d,ic e,ic f]] qjK (qDj d):=eI qFs
def qzS:R124->ARes
 |(a,b,_,_,_,_)=>.ret ⟨.tup [false,false],[[sc a],[sc b]]⟩
def qCc (b0_2:Int):R124->List (List Cell)
 |(_,_,a,b,c,d)=>[[.imm a,ic b,ic b0_2,ic c,ic d]]
def qu9 (k:Nat)(rec:S124->Option R124):S124->Option R124
 |.e a b c d e=>
  (tg 6 (g137 k a b c d e)).bind fun f=>
  tup5 f fun g i j l m=>
  (tg 8 (g17c k (strB [46]) i j c l m)).bind fun n=>
  tup4 n fun o p q t=>
  bif tg 13 (q==0)then
   (tg 16 (g19c k (strB [84,73,77,69]) o p c q t)).bind fun u=>
   tup2 u fun v w=>
   rec (tg 9 (.h0 g v w p c q t))
  else
   rec (tg 9 (.h0 g false o p c q t))
 |.h0 a b c d e f g=>
  bif b then
   some (a,strB [84,73,77,69],c,IntKind.i64.wrap (d+1),f,g)
  else
   (tg 28 (g137 k c d e f g)).bind fun i=>
   tup5 i fun j l m n o=>
   some (a,j,l,m,n,o)
def g124 (k:Nat)(a:Rs)(b c d e:Int):Option R124:=itS qu9 k (.e a b c d e)
def P124:S124->R124->Prop
 |.e a b c d e=>Fe Y124 qzS (qCc c) [pP 0] [[.imm a,ic b,ic c,ic d,ic e]]
 |.h0 a b c d e f g=>Fk Y124 qzS (qCc e) [1,1,1,0,1,2] ([pP 0]++rd 3++[csc a]++rd 12++[cbc b]++rd 11) [(.par 0,[.imm c,ic d,ic e,ic f,ic g])]
theorem qFh:∀ k s r,itS qu9 k s=some r->P124 s r:=okU trivial
instance {k:Nat} {a:Rs} {b c d e:Int}:EvI (g124 k a b c d e) 124 [pP 0] [[.imm a,ic b,ic c,ic d,ic e]] qzS (qCc c):=eI qFh
def qwz:R125b->ARes
 |(_,_,_,_,_,_,_,_)=>.ret .undef
def qxe (b0_2 b1_2 b1_3 b1_6:Int):R125b->List (List Cell)
 |(a,b,c,d,e,f,g,i)=>[[.imm a,ic b,ic b0_2,ic c,ic d],[ic e,.own 7 f,ic b1_2,ic b1_3,sc g,sc i,ic b1_6]]
def qu2 (k:Nat)(rec:S125b->Option R125b):S125b->Option R125b
 |.e a b c d e f g i j l m n=>
  (tg 6 (g96 k)).bind fun o=>
  rec (tg 5 (.h0 o (o.length:Int) 0 a b c d e f g i j l m n))
 |.h0 a b c d e f g i j l m n o p q=>
  bif tg 9 (decide (c<b))then
   ixR a (tg 11 (tg 3 c)) fun t=>
   un_s t fun u=>
   bif tg 17 (j==0)then
    (tg 21 (g19c k u d e f g i)).bind fun v=>
    tup2 v fun w x=>
    rec (tg 12 (.h1 c a b c w x e f g i j l m n o p q))
   else
    rec (tg 12 (.h1 c a b c false d e f g i j l m n o p q))
  else
   bif tg 62 (j==0)then
    (tg 64 (g22c k 13 d e f g i)).bind fun y=>
    tup3 y fun z a1 b1=>
    some (z,e,a1,b1,j,l,o,p)
   else
    some (d,e,g,i,j,l,o,p)
 |.h1 a b c d e f g i j l m n o p q t u=>
  bif e then
   (tg 31 (g17c k (strB [40]) f (IntKind.i64.wrap (g+1)) i j l)).bind fun v=>
   tup4 v fun w x y z=>
   bif tg 38 (a==0)then
    (tg 41 (g137 k w x i y z)).bind fun a1=>
    tup5 a1 fun b1 c1 d1 e1 f1=>
    rec (tg 12 (.h2 b c d c1 d1 i e1 f1 (IntKind.i64.wrap ((25:Int)+a)) n o p b1 t u))
   else
    (tg 48 (g124 k w x i y z)).bind fun a1=>
    tup6 a1 fun g1 i1 c1 d1 e1 f1=>
    rec (tg 12 (.h2 b c d c1 d1 i e1 f1 (IntKind.i64.wrap ((25:Int)+a)) n o p g1 i1 u))
  else
   rec (tg 3 (.h3 b c d f g i j l m n o p q t u))
 |.h2 a b c d e f g i j l m n o p q=>
  (tg 56 (g17c k (strB [41]) d e f g i)).bind fun t=>
  tup4 t fun u v w x=>
  rec (tg 2 (.h3 a b c u v f w x j l m n o p q))
 |.h3 a b c d e f g i j l m n o p q=>rec (tg 1 (.h0 a b (IntKind.i64.wrap (c+1)) d e f g i j l m n o p q))
def qCo (k:Nat)(a:Rs)(b c d e f:Int)(g:Rs)(i j:Int)(l m:By)(n:Int):Option R125b:=itS qu2 k (.e a b c d e f g i j l m n)
def P125b:S125b->R125b->Prop
 |.e a b c d e f g i j l m n=>Fe Y125 qwz (qxe c i j n) [pP 0,pP 1] [[.imm a,ic b,ic c,ic d,ic e],[ic f,.own 7 g,ic i,ic j,sc l,sc m,ic n]]
 |.h0 a b c d e f g i j l m n o p q=>Fk Y125 qwz (qxe f m n q) [0,1,0,4] ([pP 0,pP 1]++rd 4++[.c (.own 1 a),cic b,cic c]++rd 56) [(.par 0,[.imm d,ic e,ic f,ic g,ic i]),(.par 1,[ic j,.own 7 l,ic m,ic n,sc o,sc p,ic q])]
 |.h1 a b c d e f g i j l m n o p q t u=>Fk Y125 qwz (qxe i o p u) [0,1,0,0,1,1,0,0,1,1,2] ([pP 0,pP 1,.deadv,.deadv,cic a,.deadv,.c (.own 1 b),cic c,cic d]++rd 13++[cbc e]++rd 42) [(.par 0,[.imm f,ic g,ic i,ic j,ic l]),(.par 1,[ic m,.own 7 n,ic o,ic p,sc q,sc t,ic u])]
 |.h2 a b c d e f g i j l m n o p q=>Fk Y125 qwz (qxe f m n q) [0,1,0,0,1,1,0,0,1,1,0,1,1,1,1,2] ([pP 0,pP 1]++rd 4++[.c (.own 1 a),cic b,cic c]++rd 56) [(.par 0,[.imm d,ic e,ic f,ic g,ic i]),(.par 1,[ic j,.own 7 l,ic m,ic n,sc o,sc p,ic q])]
 |.h3 a b c d e f g i j l m n o p q=>Fk Y125 qwz (qxe f m n q) [0,1,0,0,1,1,1,2] ([pP 0,pP 1]++rd 4++[.c (.own 1 a),cic b,cic c]++rd 56) [(.par 0,[.imm d,ic e,ic f,ic g,ic i]),(.par 1,[ic j,.own 7 l,ic m,ic n,sc o,sc p,ic q])]
theorem qDV:∀ k s r,itS qu2 k s=some r->P125b s r:=okU (And.intro @qv2 trivial)
instance {k:Nat} {a:Rs} {b c d e f:Int} {g:Rs} {i j:Int} {l m:By} {n:Int}:EvI (qCo k a b c d e f g i j l m n) 125 [pP 0,pP 1] [[.imm a,ic b,ic c,ic d,ic e],[ic f,.own 7 g,ic i,ic j,sc l,sc m,ic n]] qwz (qxe c i j n):=eI qDV
def qCA:qwJ->ARes
 |(.inl (a,b,c,d,e,f,_,_,_,_,_))=>.ret (.ag [ic a,.nil,ic b,ic c,sc d,sc e,ic f])
 |(.inr (.inl (a,b,c,d,e,f,g,_,_,_,_,_)))=>.ret (.ag [ic a,.own 7 b,ic c,ic d,sc e,sc f,ic g])
 |(.inr (.inr (a,b,c,d,e,f,g,_,_,_,_,_)))=>.ret (.ag [ic a,.imm b,ic c,ic d,sc e,sc f,ic g])
def bx84:qwJ->List (List Cell)
 |(.inl (_,_,_,_,_,_,a,b,c,d,e))=>[[.imm a,ic b,ic c,ic d,ic e]]
 |(.inr (.inl (_,_,_,_,_,_,_,a,b,c,d,e)))=>[[.imm a,ic b,ic c,ic d,ic e]]
 |(.inr (.inr (_,_,_,_,_,_,_,a,b,c,d,e)))=>[[.imm a,ic b,ic c,ic d,ic e]]
def rs84:R84->ARes
 |(.inl x)=>qCA x
 |_=>.panic .nilIface
def bs84:R84->List (List Cell)
 |(.inl x)=>bx84 x
 |_=>[]
def qBj:qwd->ARes
 |(.inl (a,b,c,d,e,f,g,_,_,_,_,_))=>.ret (.ag [ic a,.own 7 b,ic c,ic d,sc e,sc f,ic g])
 |(.inr (a,b,c,d,e,f,g,_,_,_,_,_))=>.ret (.ag [ic a,.imm b,ic c,ic d,sc e,sc f,ic g])
def qC3:qwd->List (List Cell)
 |(.inl (_,_,_,_,_,_,_,a,b,c,d,e))=>[[.imm a,ic b,ic c,ic d,ic e]]
 |(.inr (_,_,_,_,_,_,_,a,b,c,d,e))=>[[.imm a,ic b,ic c,ic d,ic e]]
def qzV:R84->ARes
 |(.inr (.inl x))=>qBj x
 |_=>.panic .nilIface
def qze:R84->List (List Cell)
 |(.inr (.inl x))=>qC3 x
 |_=>[]
def qBk:qvL->ARes
 |(a,b,c,d,e,f,g,_,_,_,_,_)=>.ret (.ag [ic a,.imm b,ic c,ic d,sc e,sc f,ic g])
def qC4:qvL->List (List Cell)
 |(_,_,_,_,_,_,_,a,b,c,d,e)=>[[.imm a,ic b,ic c,ic d,ic e]]
def qx4:R84->ARes
 |(.inr (.inr x))=>qBk x
 |_=>.panic .nilIface
def qxQ:R84->List (List Cell)
 |(.inr (.inr x))=>qC4 x
 |_=>[]
def quY (k:Nat)(rec:S84->Option R84):S84->Option R84
 |.e_84 a b c d e f=>
  bif tg 16 (e != 0)then
   some (.inl (.inl (0,0,0,strB [],strB [],0,b,c,d,e,f)))
  else
   bif tg 19 (a==3)then
    rec (tg 10 (.h0_84 a true 0 0 0 (strB []) (strB []) 0 b c d e f))
   else
    rec (tg 10 (.h0_84 a (a==7) 0 0 0 (strB []) (strB []) 0 b c d e f))
 |.h0_84 a b c d e f g i j l m n o=>
  bif b then
   (tg 26 (qxk (rec (.e_105 a j l m n o)))).bind fun p=>
   altC p (fun q=>
     zu q fun t u v w x y z a1 b1 c1 d1 e1=>
     some (.inl (.inr (.inl (t,u,v,w,x,y,z,a1,b1,c1,d1,e1))))) (fun q=>
     zu q fun t u v w x y z a1 b1 c1 d1 e1=>
     some (.inl (.inr (.inr (t,u,v,w,x,y,z,a1,b1,c1,d1,e1)))))
  else
   bif tg 28 (a==8)then
    (tg 30 (qx6 (rec (.e_106 j l m n o)))).bind fun f1=>
    zu f1 fun t u v w x y z a1 b1 c1 d1 e1=>
    some (.inl (.inr (.inr (t,u,v,w,x,y,z,a1,b1,c1,d1,e1))))
   else
    (tg 34 (qvb (rec (.e_84 (IntKind.i64.wrap (a+1)) j l m n o)))).bind fun f1=>
    altC f1 (fun g1=>
      qoG g1 fun i1 j1 l1 m1 n1 o1 p1 q1 t1 u1 v1=>
      rec (tg 12 (rg [] [(⟨⟨.loc 5,[]⟩,0,1⟩,some 7)] (.h1_84 a i1 [] j1 l1 m1 n1 o1 c d e f g i p1 q1 t1 u1 v1)))) (fun w1=>altC w1 (fun g1=>
      zu g1 fun i1 x1 j1 l1 m1 n1 o1 p1 q1 t1 u1 v1=>
      rec (tg 12 (.h1_84 a i1 x1 j1 l1 m1 n1 o1 c d e f g i p1 q1 t1 u1 v1))) (fun g1=>
      zu g1 fun i1 x1 j1 l1 m1 n1 o1 p1 q1 t1 u1 v1=>
      rec (tg 12 (.h2_84 a i1 x1 j1 l1 m1 n1 o1 c d e f g i p1 q1 t1 u1 v1))))
 |.h1_84 a b c d e f g i j l m n o p q t u v w=>
  bif tg 39 (v==0)then
   (tg 42 (g66 k a)).bind fun x=>
   tup2 x fun y z=>
   rec (tg 16 (.h3_84 a y z 0 (y.length:Int) 0 b c d e f g i j l m n o p q t u v w))
  else
   some (.inl (.inr (.inr (b,qG c,d,e,f,g,i,q,t,u,v,w))))
 |.h2_84 a b c d e f g i j l m n o p q t u v w=>
  bif tg 39 (v==0)then
   (tg 42 (g66 k a)).bind fun x=>
   tup2 x fun y z=>
   rec (tg 16 (.h4_84 a y z 0 (y.length:Int) 0 b c d e f g i j l m n o p q t u v w))
  else
   some (.inl (.inr (.inr (b,c,d,e,f,g,i,q,t,u,v,w))))
 |.h3_84 a b c d e f g i j l m n o p q t u v w x y z a1 b1=>
  bif tg 48 (decide (f<e))then
   ixR b (tg 50 (tg 3 f)) fun c1=>
   un_s c1 fun d1=>
   (tg 54 (g19c k d1 x y z a1 b1)).bind fun e1=>
   tup2 e1 fun f1 g1=>
   bif f1 then
    rec (tg 15 (.h5_84 a b c (IntKind.i64.wrap (c+f)) e f g i j l m n o p q t u v w g1 y z a1 b1))
   else
    rec (tg 15 (.h5_84 a b c d e f g i j l m n o p q t u v w g1 y z a1 b1))
  else
   bif tg 60 (d==0)then
    some (.inl (.inr (.inr (g,qG i,j,l,m,n,o,x,y,z,a1,b1))))
   else
    (tg 63 (g52c k x y z a1 b1)).bind fun i1=>
    tup6 i1 fun _ _ _ _ j1 l1=>
    (tg 77 (qvb (rec (.e_84 (IntKind.i64.wrap (a+1)) l1 (IntKind.i64.wrap (y+1)) z a1 b1)))).bind fun m1=>
    altC m1 (fun n1=>
      qoG n1 fun o1 p1 q1 t1 u1 v1 w1 x1 y1 z1 a2=>
      rec (tg 19 (.h6_84 a (a==4) d [[ic g,.imm (qG i),ic j,ic l,sc m,sc n,ic o],[ic o1,.nil,ic p1,ic q1,sc t1,sc u1,ic v1]] 0 0 (strB []) (strB []) j1 p q t u v w w1 x1 y1 z1 a2))) (fun b2=>altC b2 (fun n1=>
      zu n1 fun o1 c2 p1 q1 t1 u1 v1 w1 x1 y1 z1 a2=>
      rec (tg 19 (.h6_84 a (a==4) d [[ic g,.imm (qG i),ic j,ic l,sc m,sc n,ic o],[ic o1,.own 7 c2,ic p1,ic q1,sc t1,sc u1,ic v1]] 0 0 (strB []) (strB []) j1 p q t u v w w1 x1 y1 z1 a2))) (fun n1=>
      zu n1 fun o1 c2 p1 q1 t1 u1 v1 w1 x1 y1 z1 a2=>
      rec (tg 19 (.h6_84 a (a==4) d [[ic g,.imm (qG i),ic j,ic l,sc m,sc n,ic o],[ic o1,.imm c2,ic p1,ic q1,sc t1,sc u1,ic v1]] 0 0 (strB []) (strB []) j1 p q t u v w w1 x1 y1 z1 a2))))
 |.h4_84 a b c d e f g i j l m n o p q t u v w x y z a1 b1=>
  bif tg 48 (decide (f<e))then
   ixR b (tg 50 (tg 3 f)) fun c1=>
   un_s c1 fun d1=>
   (tg 54 (g19c k d1 x y z a1 b1)).bind fun e1=>
   tup2 e1 fun f1 g1=>
   bif f1 then
    rec (tg 15 (.h7_84 a b c (IntKind.i64.wrap (c+f)) e f g i j l m n o p q t u v w g1 y z a1 b1))
   else
    rec (tg 15 (.h7_84 a b c d e f g i j l m n o p q t u v w g1 y z a1 b1))
  else
   bif tg 60 (d==0)then
    some (.inl (.inr (.inr (g,i,j,l,m,n,o,x,y,z,a1,b1))))
   else
    (tg 63 (g52c k x y z a1 b1)).bind fun i1=>
    tup6 i1 fun _ _ _ _ j1 l1=>
    (tg 77 (qvb (rec (.e_84 (IntKind.i64.wrap (a+1)) l1 (IntKind.i64.wrap (y+1)) z a1 b1)))).bind fun m1=>
    altC m1 (fun n1=>
      qoG n1 fun o1 p1 q1 t1 u1 v1 w1 x1 y1 z1 a2=>
      rec (tg 19 (.h6_84 a (a==4) d [[ic g,.imm i,ic j,ic l,sc m,sc n,ic o],[ic o1,.nil,ic p1,ic q1,sc t1,sc u1,ic v1]] 0 0 (strB []) (strB []) j1 p q t u v w w1 x1 y1 z1 a2))) (fun b2=>altC b2 (fun n1=>
      zu n1 fun o1 c2 p1 q1 t1 u1 v1 w1 x1 y1 z1 a2=>
      rec (tg 19 (.h6_84 a (a==4) d [[ic g,.imm i,ic j,ic l,sc m,sc n,ic o],[ic o1,.own 7 c2,ic p1,ic q1,sc t1,sc u1,ic v1]] 0 0 (strB []) (strB []) j1 p q t u v w w1 x1 y1 z1 a2))) (fun n1=>
      zu n1 fun o1 c2 p1 q1 t1 u1 v1 w1 x1 y1 z1 a2=>
      rec (tg 19 (.h6_84 a (a==4) d [[ic g,.imm i,ic j,ic l,sc m,sc n,ic o],[ic o1,.imm c2,ic p1,ic q1,sc t1,sc u1,ic v1]] 0 0 (strB []) (strB []) j1 p q t u v w w1 x1 y1 z1 a2))))
 |.h5_84 a b c d e f g i j l m n o p q t u v w x y z a1 b1=>rec (tg 1 (.h3_84 a b c d e (IntKind.i64.wrap (f+1)) g i j l m n o p q t u v w x y z a1 b1))
 |.h6_84 a b c d e f g i j l m n o p q t u v w x=>
  bif b then
   some (.inl (.inr (.inr (c,qG d,e,f,g,i,j,t,u,v,w,x))))
  else
   rec (tg 3 (.h1_84 a c d e f g i j l m n o p q t u v w x))
 |.h7_84 a b c d e f g i j l m n o p q t u v w x y z a1 b1=>rec (tg 1 (.h4_84 a b c d e (IntKind.i64.wrap (f+1)) g i j l m n o p q t u v w x y z a1 b1))
 |.e_105 a b c d e f=>
  bif tg 10 (a==7)then
   rec (tg 9 (.h0_105 a (strB [45]) 6 0 0 0 (strB []) (strB []) 0 b c d e f))
  else
   rec (tg 9 (.h0_105 a (strB [78,79,84]) 15 0 0 0 (strB []) (strB []) 0 b c d e f))
 |.h0_105 a b c _ _ _ _ _ _ d e f g i=>
  (tg 13 (g19c k b d e f g i)).bind fun j=>
  tup2 j fun l m=>
  bif tg 14 (!l)then
   (tg 18 (qvb (rec (.e_84 (IntKind.i64.wrap (a+1)) m e f g i)))).bind fun n=>
   altC n (fun o=>
     qoG o fun p q t u v w x y z a1 b1=>
     rec (tg 6 (rg [] [(⟨⟨.loc 4,[]⟩,0,1⟩,some 7)] (.h1_105 p [] q t u v w x y z a1 b1)))) (fun c1=>altC c1 (fun o=>
     zu o fun p d1 q t u v w x y z a1 b1=>
     rec (tg 6 (.h1_105 p d1 q t u v w x y z a1 b1))) (fun o=>
     zu o fun p d1 q t u v w x y z a1 b1=>
     rec (tg 6 (.h2_105 p d1 q t u v w x y z a1 b1))))
  else
   (tg 20 (g123 k m e f g i)).bind fun n=>
   tup6 n fun e1 f1 g1 i1 j1 l1=>
   (tg 23 (qvb (rec (.e_84 a f1 g1 i1 j1 l1)))).bind fun m1=>
   altC m1 (fun n1=>
     qoG n1 fun o1 p1 q1 t1 u1 v1 w1 x1 y1 z1 a2=>
     rec (tg 13 (rg [8] [] (.h3_105 c [[ic o1,.nil,ic p1,ic q1,sc t1,sc u1,ic v1]] 0 0 (strB []) (strB []) e1 w1 x1 (IntKind.i64.wrap (y1-1)) z1 a2)))) (fun b2=>altC b2 (fun n1=>
     zu n1 fun o1 c2 p1 q1 t1 u1 v1 w1 x1 y1 z1 a2=>
     rec (tg 13 (rg [8] [] (.h3_105 c [[ic o1,.imm (qG c2),ic p1,ic q1,sc t1,sc u1,ic v1]] 0 0 (strB []) (strB []) e1 w1 x1 (IntKind.i64.wrap (y1-1)) z1 a2)))) (fun n1=>
     zu n1 fun o1 c2 p1 q1 t1 u1 v1 w1 x1 y1 z1 a2=>
     rec (tg 13 (rg [8] [] (.h3_105 c [[ic o1,.imm c2,ic p1,ic q1,sc t1,sc u1,ic v1]] 0 0 (strB []) (strB []) e1 w1 x1 (IntKind.i64.wrap (y1-1)) z1 a2)))))
 |.h1_105 a b c d e f g i j l m n=>some (.inr (.inl (.inl (a,b,c,d,e,f,g,i,j,l,m,n))))
 |.h2_105 a b c d e f g i j l m n=>some (.inr (.inl (.inr (a,b,c,d,e,f,g,i,j,l,m,n))))
 |.h3_105 a b c d e f g i j l m n=>some (.inr (.inl (.inl (a,b,c,d,e,f,g,i,j,l,m,n))))
 |.e_106 a b c d e=>
  (tg 6 (g52c k a b c d e)).bind fun f=>
  tup6 f fun g i j l m n=>
  bif tg 15 (g==3)then
   rec (tg 15 (rg [3] [(⟨⟨.loc 4,[]⟩,0,1⟩,some 7)] (.h0_106 20 [] j 0 (strB []) (strB []) m 0 0 0 (strB []) (strB []) 0 n (IntKind.i64.wrap (b+1)) c d e)))
  else
   bif tg 30 (g==4)then
    rec (tg 18 (rg [3] [(⟨⟨.loc 4,[]⟩,0,1⟩,some 7)] (.h0_106 21 [] j l (strB []) (strB []) m 0 0 0 (strB []) (strB []) 0 n (IntKind.i64.wrap (b+1)) c d e)))
   else
    bif tg 48 (g==5)then
     rec (tg 21 (rg [3] [(⟨⟨.loc 4,[]⟩,0,1⟩,some 7)] (.h0_106 23 [] 0 0 i (strB []) m 0 0 0 (strB []) (strB []) 0 n (IntKind.i64.wrap (b+1)) c d e)))
    else
     bif tg 63 (g==2)then
      (tg 67 (g124 k n b c d e)).bind fun o=>
      tup6 o fun p q t u v w=>
      rec (tg 24 (rg [3] [(⟨⟨.loc 4,[]⟩,0,1⟩,some 7)] (.h0_106 24 [] 0 0 p q m 0 0 0 (strB []) (strB []) 0 t u c v w)))
     else
      (tg 74 (g19c k (strB [40]) n b c d e)).bind fun o=>
      tup2 o fun x t=>
      bif x then
       (tg 76 (g123 k t b c d e)).bind fun y=>
       tup6 y fun z a1 b1 c1 d1 e1=>
       (tg 78 (qvb (rec (.e_84 1 a1 b1 c1 d1 e1)))).bind fun f1=>
       altC f1 (fun g1=>
         qoG g1 fun i1 j1 l1 m1 n1 o1 p1 q1 t1 u1 v1=>
         (tg 80 (g17c k (strB [41]) p1 q1 t1 u1 v1)).bind fun w1=>
         tup4 w1 fun x1 y1 z1 a2=>
         rec (tg 31 (rg [3] [(⟨⟨.loc 4,[]⟩,0,1⟩,some 7)] (.h0_106 i1 [] j1 l1 m1 n1 o1 0 0 0 (strB []) (strB []) 0 x1 y1 (IntKind.i64.wrap (t1-1)) z1 a2)))) (fun b2=>altC b2 (fun g1=>
         zu g1 fun i1 c2 j1 l1 m1 n1 o1 p1 q1 t1 u1 v1=>
         (tg 80 (g17c k (strB [41]) p1 q1 t1 u1 v1)).bind fun w1=>
         tup4 w1 fun x1 y1 z1 a2=>
         rec (tg 31 (rg [3] [] (.h0_106 i1 c2 j1 l1 m1 n1 o1 0 0 0 (strB []) (strB []) 0 x1 y1 (IntKind.i64.wrap (t1-1)) z1 a2)))) (fun g1=>
         zu g1 fun i1 c2 j1 l1 m1 n1 o1 p1 q1 t1 u1 v1=>
         (tg 80 (g17c k (strB [41]) p1 q1 t1 u1 v1)).bind fun w1=>
         tup4 w1 fun x1 y1 z1 a2=>
         rec (tg 31 (rg [3] [] (.h1_106 i1 c2 j1 l1 m1 n1 o1 0 0 0 (strB []) (strB []) 0 x1 y1 (IntKind.i64.wrap (t1-1)) z1 a2)))))
      else
       (tg 90 (g19c k (strB [84,82,85,69]) t b c d e)).bind fun y=>
       tup2 y fun z a1=>
       bif z then
        rec (tg 25 (rg [3] [] (.h2_106 true 0 0 0 (strB []) (strB []) m 0 0 0 (strB []) (strB []) 0 a1 b c d e)))
       else
        (tg 93 (g19c k (strB [70,65,76,83,69]) a1 b c d e)).bind fun f1=>
        tup2 f1 fun d2 e2=>
        rec (tg 25 (rg [3] [] (.h2_106 d2 0 0 0 (strB []) (strB []) m 0 0 0 (strB []) (strB []) 0 e2 b c d e)))
 |.h0_106 a b c d e f g _ _ _ _ _ _ i j l m n=>some (.inr (.inr (a,qG b,c,d,e,f,g,i,j,l,m,n)))
 |.h1_106 a b c d e f g _ _ _ _ _ _ i j l m n=>some (.inr (.inr (a,b,c,d,e,f,g,i,j,l,m,n)))
 |.h2_106 a b c d e f g i j l m n o p q t u v=>
  bif a then
   (tg 97 (g19c k (strB [84,82,85,69]) p q t u v)).bind fun w=>
   tup2 w fun x y=>
   bif x then
    rec (tg 8 (.h3_106 22 1 d e f g i j l m n o y q t u v))
   else
    rec (tg 8 (.h3_106 22 c d e f g i j l m n o y q t u v))
  else
   (tg 108 (g19c k (strB [82,69,65,76]) p q t u v)).bind fun w=>
   tup2 w fun x y=>
   bif x then
    rec (tg 3 (.h4_106 true b c d e f g i j l m n o y q t u v))
   else
    (tg 111 (g19c k (strB [73,83,78,65,78]) y q t u v)).bind fun z=>
    tup2 z fun a1 b1=>
    rec (tg 3 (.h4_106 a1 b c d e f g i j l m n o b1 q t u v))
 |.h3_106 a b c d e f g i j l m n o p q t u=>rec (tg 2 (rg [] [(⟨⟨.loc 4,[]⟩,0,1⟩,some 7)] (.h0_106 a [] b c d e f g i j l m n o (IntKind.i64.wrap (p+1)) q t u)))
 |.h4_106 a b c d e f g i j l m n o p q t u v=>
  bif a then
   (tg 115 (g19c k (strB [73,83,78,65,78]) p q t u v)).bind fun w=>
   tup2 w fun x y=>
   bif x then
    rec (tg 8 (.h5_106 17 c d e f g i j l m n o y q t u v))
   else
    rec (tg 8 (.h5_106 16 c d e f g i j l m n o y q t u v))
  else
   rec (tg 1 (rg [] [(⟨⟨.loc 4,[]⟩,0,1⟩,some 7)] (.h6_106 b [] c d e f g i j l m n o p q t u v)))
 |.h5_106 a b c d e f g i j l m n o p q t u=>
  (tg 118 (g123 k o p q t u)).bind fun v=>
  tup6 v fun _ w x y z a1=>
  (tg 120 (g17c k (strB [40]) w x y z a1)).bind fun b1=>
  tup4 b1 fun c1 d1 e1 f1=>
  (tg 122 (qvb (rec (.e_84 1 c1 d1 y e1 f1)))).bind fun g1=>
  altC g1 (fun i1=>
    qoG i1 fun j1 l1 m1 n1 o1 p1 q1 t1 u1 v1 w1=>
    (tg 126 (g17c k (strB [41]) q1 t1 u1 v1 w1)).bind fun x1=>
    tup4 x1 fun y1 z1 a2 b2=>
    rec (tg 10 (.h0_106 a [[ic j1,.nil,ic l1,ic m1,sc n1,sc o1,ic p1]] b c d e f g i j l m n y1 z1 (IntKind.i64.wrap (u1-1)) a2 b2))) (fun c2=>altC c2 (fun i1=>
    zu i1 fun j1 d2 l1 m1 n1 o1 p1 q1 t1 u1 v1 w1=>
    (tg 126 (g17c k (strB [41]) q1 t1 u1 v1 w1)).bind fun x1=>
    tup4 x1 fun y1 z1 a2 b2=>
    rec (tg 10 (.h0_106 a [[ic j1,.own 7 d2,ic l1,ic m1,sc n1,sc o1,ic p1]] b c d e f g i j l m n y1 z1 (IntKind.i64.wrap (u1-1)) a2 b2))) (fun i1=>
    zu i1 fun j1 d2 l1 m1 n1 o1 p1 q1 t1 u1 v1 w1=>
    (tg 126 (g17c k (strB [41]) q1 t1 u1 v1 w1)).bind fun x1=>
    tup4 x1 fun y1 z1 a2 b2=>
    rec (tg 10 (.h0_106 a [[ic j1,.imm d2,ic l1,ic m1,sc n1,sc o1,ic p1]] b c d e f g i j l m n y1 z1 (IntKind.i64.wrap (u1-1)) a2 b2))))
 |.h6_106 a b c d e f g i j l m n o p q t u v=>
  (tg 11 (qCo k p q t u v a b c d e f g)).bind fun w=>
  tup8 w fun x y z a1 b1 c1 d1 e1=>
  rec (tg 2 (.h0_106 b1 c1 c d d1 e1 g i j l m n o x y t z a1))
def g84 (k:Nat)(a:Int)(b:Rs)(c d e f:Int):Option qwJ:=qvb (itS quY k (.e_84 a b c d e f))
def P84:S84->R84->Prop
 |.e_84 a b c d e f=>Fe Y84 rs84 bs84 [pP 0,cic a] [[.imm b,ic c,ic d,ic e,ic f]]
 |.h0_84 a b c d e f g i j l m n o=>Fk Y84 rs84 bs84 [1,1,0,1,2] ([pP 0,cic a,.deadv,.deadv,pL 4]++rd 18++[cbc b]++rd 61) [(.loc 4,[ic c,.nil,ic d,ic e,sc f,sc g,ic i]),(.par 0,[.imm j,ic l,ic m,ic n,ic o])]
 |.h1_84 a b c d e f g i j l m n o p q t u v w=>Fk Y84 rs84 bs84 [1,1,1,1,1,0,0,4] ([pP 0,cic a,.deadv,.deadv,pL 4,pL 5]++rd 79) [(.loc 5,[ic b,.own 7 c,ic d,ic e,sc f,sc g,ic i]),(.loc 4,[ic j,.nil,ic l,ic m,sc n,sc o,ic p]),(.par 0,[.imm q,ic t,ic u,ic v,ic w])]
 |.h2_84 a b c d e f g i j l m n o p q t u v w=>Fk Y84 rs84 bs84 [1,1,1,1,1,0,0,4] ([pP 0,cic a,.deadv,.deadv,pL 4,pL 5]++rd 79) [(.loc 5,[ic b,.imm c,ic d,ic e,sc f,sc g,ic i]),(.loc 4,[ic j,.nil,ic l,ic m,sc n,sc o,ic p]),(.par 0,[.imm q,ic t,ic u,ic v,ic w])]
 |.h3_84 a b c d e f g i j l m n o p q t u v w x y z a1 b1=>Fk Y84 rs84 bs84 [1,1,1,1,1,0,0,0,1,0,1,1,0,1,0,4] ([pP 0,cic a,.deadv,.deadv,pL 4,pL 5,.c (.own 1 b),cic c,cic d]++rd 36++[.c (.ref ⟨⟨.slot 6,[]⟩,0,0⟩),cic e,cic f]++rd 37) [(.loc 5,[ic g,.own 7 i,ic j,ic l,sc m,sc n,ic o]),(.loc 4,[ic p,.nil,ic q,ic t,sc u,sc v,ic w]),(.par 0,[.imm x,ic y,ic z,ic a1,ic b1])]
 |.h4_84 a b c d e f g i j l m n o p q t u v w x y z a1 b1=>Fk Y84 rs84 bs84 [1,1,1,1,1,0,0,0,1,0,1,1,0,1,0,4] ([pP 0,cic a,.deadv,.deadv,pL 4,pL 5,.c (.own 1 b),cic c,cic d]++rd 36++[.c (.ref ⟨⟨.slot 6,[]⟩,0,0⟩),cic e,cic f]++rd 37) [(.loc 5,[ic g,.imm i,ic j,ic l,sc m,sc n,ic o]),(.loc 4,[ic p,.nil,ic q,ic t,sc u,sc v,ic w]),(.par 0,[.imm x,ic y,ic z,ic a1,ic b1])]
 |.h5_84 a b c d e f g i j l m n o p q t u v w x y z a1 b1=>Fk Y84 rs84 bs84 [1,1,1,1,1,0,0,0,1,0,1,1,0,1,0,0,1,1,1,2] ([pP 0,cic a,.deadv,.deadv,pL 4,pL 5,.c (.own 1 b),cic c,cic d]++rd 36++[.c (.ref ⟨⟨.slot 6,[]⟩,0,0⟩),cic e,cic f]++rd 37) [(.loc 5,[ic g,.own 7 i,ic j,ic l,sc m,sc n,ic o]),(.loc 4,[ic p,.nil,ic q,ic t,sc u,sc v,ic w]),(.par 0,[.imm x,ic y,ic z,ic a1,ic b1])]
 |.h6_84 a b c d e f g i j l m n o p q t u v w x=>Fk Y84 rs84 bs84 [1,1,1,1,1,0,0,0,1,0,1,1,1,1,1,1,1,1,2] ([pP 0,cic a,.deadv,.deadv,pL 4,pL 5]++rd 76++[cbc b,.deadv,.deadv]) [(.loc 5,[ic c,.own 7 d,ic e,ic f,sc g,sc i,ic j]),(.loc 4,[ic l,.nil,ic m,ic n,sc o,sc p,ic q]),(.par 0,[.imm t,ic u,ic v,ic w,ic x])]
 |.h7_84 a b c d e f g i j l m n o p q t u v w x y z a1 b1=>Fk Y84 rs84 bs84 [1,1,1,1,1,0,0,0,1,0,1,1,0,1,0,0,1,1,1,2] ([pP 0,cic a,.deadv,.deadv,pL 4,pL 5,.c (.own 1 b),cic c,cic d]++rd 36++[.c (.ref ⟨⟨.slot 6,[]⟩,0,0⟩),cic e,cic f]++rd 37) [(.loc 5,[ic g,.imm i,ic j,ic l,sc m,sc n,ic o]),(.loc 4,[ic p,.nil,ic q,ic t,sc u,sc v,ic w]),(.par 0,[.imm x,ic y,ic z,ic a1,ic b1])]
 |.e_105 a b c d e f=>Fe Y105 qzV qze [pP 0,cic a] [[.imm b,ic c,ic d,ic e,ic f]]
 |.h0_105 a b c d e f g i j l m n o p=>Fk Y105 qzV qze [1,1,1,2] ([pP 0,cic a,.deadv,.deadv,pL 4,csc b,cic c]++rd 29) [(.loc 4,[ic d,.nil,ic e,ic f,sc g,sc i,ic j]),(.par 0,[.imm l,ic m,ic n,ic o,ic p])]
 |.h1_105 a b c d e f g i j l m n=>Fk Y105 qzV qze [1,1,1,0,1,0,1,2] (rd 4++[pL 4]++rd 31) [(.loc 4,[ic a,.own 7 b,ic c,ic d,sc e,sc f,ic g]),(.par 0,[.imm i,ic j,ic l,ic m,ic n])]
 |.h2_105 a b c d e f g i j l m n=>Fk Y105 qzV qze [1,1,1,0,1,0,1,2] (rd 4++[pL 4]++rd 31) [(.loc 4,[ic a,.imm b,ic c,ic d,sc e,sc f,ic g]),(.par 0,[.imm i,ic j,ic l,ic m,ic n])]
 |.h3_105 a b c d e f g i j l m n=>Fk Y105 qzV qze [1,1,1,1,1,1,1,1,2] (rd 4++[pL 4]++rd 31) [(.loc 4,[ic a,.own 7 b,ic c,ic d,sc e,sc f,ic g]),(.par 0,[.imm i,ic j,ic l,ic m,ic n])]
 |.e_106 a b c d e=>Fe Y106 qx4 qxQ [pP 0] [[.imm a,ic b,ic c,ic d,ic e]]
 |.h0_106 a b c d e f g i j l m n o p q t u v=>Fk Y106 qx4 qxQ [1,1,1,1,2] ([.deadv,.deadv,pL 2,.deadv,pL 4]++rd 130) [(.loc 4,[ic a,.own 7 b,ic c,ic d,sc e,sc f,ic g]),(.loc 2,[ic i,.nil,ic j,ic l,sc m,sc n,ic o]),(.par 0,[.imm p,ic q,ic t,ic u,ic v])]
 |.h1_106 a b c d e f g i j l m n o p q t u v=>Fk Y106 qx4 qxQ [1,1,1,1,2] ([.deadv,.deadv,pL 2,.deadv,pL 4]++rd 130) [(.loc 4,[ic a,.imm b,ic c,ic d,sc e,sc f,ic g]),(.loc 2,[ic i,.nil,ic j,ic l,sc m,sc n,ic o]),(.par 0,[.imm p,ic q,ic t,ic u,ic v])]
 |.h2_106 a b c d e f g i j l m n o p q t u v=>Fk Y106 qx4 qxQ [1,1,1,0,0,1,1,1,1,1,1,1,1,1,1,1,2] ([pP 0,.deadv,pL 2,.deadv,pL 4]++rd 83++[cbc a]++rd 46) [(.loc 4,[ic b,.nil,ic c,ic d,sc e,sc f,ic g]),(.loc 2,[ic i,.nil,ic j,ic l,sc m,sc n,ic o]),(.par 0,[.imm p,ic q,ic t,ic u,ic v])]
 |.h3_106 a b c d e f g i j l m n o p q t u=>Fk Y106 qx4 qxQ [1,1,1,0,0,1,1,1,1,1,1,1,1,1,1,1,0,1,1,2] ([pP 0,.deadv,pL 2,.deadv,pL 4]++rd 130) [(.loc 4,[ic a,.nil,ic b,ic c,sc d,sc e,ic f]),(.loc 2,[ic g,.nil,ic i,ic j,sc l,sc m,ic n]),(.par 0,[.imm o,ic p,ic q,ic t,ic u])]
 |.h4_106 a b c d e f g i j l m n o p q t u v=>Fk Y106 qx4 qxQ [1,1,1,0,0,1,1,1,1,1,1,1,1,1,1,1,1,1,2] ([pP 0,.deadv,pL 2,.deadv,pL 4]++rd 101++[cbc a]++rd 28) [(.loc 4,[ic b,.nil,ic c,ic d,sc e,sc f,ic g]),(.loc 2,[ic i,.nil,ic j,ic l,sc m,sc n,ic o]),(.par 0,[.imm p,ic q,ic t,ic u,ic v])]
 |.h5_106 a b c d e f g i j l m n o p q t u=>Fk Y106 qx4 qxQ [1,1,1,0,0,1,1,1,1,1,1,1,1,1,1,1,1,1,0,1,1,2] ([pP 0,.deadv,pL 2,.deadv,pL 4]++rd 130) [(.loc 4,[ic a,.nil,ic b,ic c,sc d,sc e,ic f]),(.loc 2,[ic g,.nil,ic i,ic j,sc l,sc m,ic n]),(.par 0,[.imm o,ic p,ic q,ic t,ic u])]
 |.h6_106 a b c d e f g i j l m n o p q t u v=>Fk Y106 qx4 qxQ [1,1,1,0,0,1,1,1,1,1,1,1,1,1,1,1,1,1,1,2] ([pP 0,.deadv,pL 2,.deadv,pL 4]++rd 130) [(.loc 4,[ic a,.own 7 b,ic c,ic d,sc e,sc f,ic g]),(.loc 2,[ic i,.nil,ic j,ic l,sc m,sc n,ic o]),(.par 0,[.imm p,ic q,ic t,ic u,ic v])]
instance {a:Int} {b:Rs} {c d e f:Int}:EvS P84 qvb (.e_84 a b c d e f) 84 [pP 0,cic a] [[.imm b,ic c,ic d,ic e,ic f]] qCA bx84:=⟨fun o h v e=>evF (h _ (qyL e))⟩
instance {a:Int} {b:Rs} {c d e f:Int}:EvS P84 qxk (.e_105 a b c d e f) 105 [pP 0,cic a] [[.imm b,ic c,ic d,ic e,ic f]] qBj qC3:=⟨fun o h v e=>evF (h _ (qzZ e))⟩
instance {a:Rs} {b c d e:Int}:EvS P84 qx6 (.e_106 a b c d e) 106 [pP 0] [[.imm a,ic b,ic c,ic d,ic e]] qBk qC4:=⟨fun o h v e=>evF (h _ (qz0 e))⟩
theorem ok84:∀ k s r,itS quY k s=some r->P84 s r:=okU (And.intro @qv2 trivial)
instance {k:Nat} {a:Int} {b:Rs} {c d e f:Int}:EvI (g84 k a b c d e f) 84 [pP 0,cic a] [[.imm b,ic c,ic d,ic e,ic f]] qCA bx84:=⟨fun r h=>evF (ok84 _ _ _ (qyL h))⟩
def qrz:R53->ARes
 |(a,b,c,d,e,f,g,i,j,l)=>.ret ⟨.tup [true,false,false,false],[[ic a,.imm b,ic c,ic d,sc e,sc f,ic g],[ic i],[ic j],[ic l]]⟩
def qst (k:Nat)(rec:S53->Option R53):S53->Option R53
 |.e a b=>
  bif tg 11 (decide (b<0))then
   rec (tg 5 (.h0 a b true 0 0 0 (strB []) (strB []) 0))
  else
   rec (tg 5 (.h0 a b (decide (b>=(a.length:Int))) 0 0 0 (strB []) (strB []) 0))
 |.h0 a b c d e f g i j=>
  bif c then
   rec (tg 3 (rg [] [(⟨⟨.loc 4,[]⟩,0,1⟩,none)] (.h1 0 0 1 0 [] 0 0 (strB []) (strB []) 0)))
  else
   (tg 24 (g84 k 1 a b 0 0 0)).bind fun l=>
   altC l (fun m=>
     qoG m fun n o p q t u v w x y z=>
     rec (tg 9 (rg [] [(⟨⟨.loc 9,[]⟩,0,1⟩,some 7)] (.h2 (y != 0) n [] o p q t u v w x y z d e f g i j)))) (fun a1=>altC a1 (fun m=>
     zu m fun n b1 o p q t u v w x y z=>
     rec (tg 9 (.h2 (y != 0) n b1 o p q t u v w x y z d e f g i j))) (fun m=>
     zu m fun n b1 o p q t u v w x y z=>
     rec (tg 9 (.h3 (y != 0) n b1 o p q t u v w x y z d e f g i j))))
 |.h1 a b c d e f g i j l=>some (d,e,f,g,i,j,l,a,b,c)
 |.h2 a b c d e f g i _ j _ l m ..=>
  bif a then
   rec (tg 3 (rg [9,22] [(⟨⟨.loc 4,[]⟩,0,1⟩,none)] (.h4 0 m l 0 [] 0 0 (strB []) (strB []) 0)))
  else
   rec (tg 4 (rg [9,22] [] (.h5 j 0 0 b (qG c) d e f g i)))
 |.h3 a b c d e f g i _ j _ l m ..=>
  bif a then
   rec (tg 3 (rg [9,22] [(⟨⟨.loc 4,[]⟩,0,1⟩,none)] (.h4 0 m l 0 [] 0 0 (strB []) (strB []) 0)))
  else
   rec (tg 4 (rg [9,22] [] (.h5 j 0 0 b c d e f g i)))
 |.h4 a b c d e f g i j l=>some (d,e,f,g,i,j,l,a,b,c)
 |.h5 a b c d e f g i j l=>some (d,e,f,g,i,j,l,a,b,c)
def g53 (k:Nat)(a:Rs)(b:Int):Option R53:=itS qst k (.e a b)
def P53:S53->R53->Prop
 |.e a b=>Fe Y53 qrz nB [cm a,cic b] []
 |.h0 a b c d e f g i j=>Fk Y53 qrz nB [1,0,1,2] ([cm a,cic b,.deadv,.deadv,pL 4]++rd 12++[cbc c]++rd 26) [(.loc 4,[ic d,.nil,ic e,ic f,sc g,sc i,ic j])]
 |.h1 a b c d e f g i j l=>Fk Y53 qrz nB [1,0,1,0,1,2] (rd 4++[pL 4,cic a,cic b,cic c]++rd 36) [(.loc 4,[ic d,.imm e,ic f,ic g,sc i,sc j,ic l])]
 |.h2 a b c d e f g i j l m n o p q t u v w=>Fk Y53 qrz nB [1,1,1,1,0,1,2] (rd 4++[pL 4]++rd 3++[pL 22,pL 9]++rd 19++[cbc a]++rd 14) [(.loc 9,[ic b,.own 7 c,ic d,ic e,sc f,sc g,ic i]),(.loc 22,[.imm j,ic l,ic m,ic n,ic o]),(.loc 4,[ic p,.nil,ic q,ic t,sc u,sc v,ic w])]
 |.h3 a b c d e f g i j l m n o p q t u v w=>Fk Y53 qrz nB [1,1,1,1,0,1,2] (rd 4++[pL 4]++rd 3++[pL 22,pL 9]++rd 19++[cbc a]++rd 14) [(.loc 9,[ic b,.imm c,ic d,ic e,sc f,sc g,ic i]),(.loc 22,[.imm j,ic l,ic m,ic n,ic o]),(.loc 4,[ic p,.nil,ic q,ic t,sc u,sc v,ic w])]
 |.h4 a b c d e f g i j l=>Fk Y53 qrz nB [1,1,1,1,0,1,0,1,2] (rd 4++[pL 4,cic a,cic b,cic c]++rd 36) [(.loc 4,[ic d,.imm e,ic f,ic g,sc i,sc j,ic l])]
 |.h5 a b c d e f g i j l=>Fk Y53 qrz nB [1,1,1,1,1,1,2] (rd 4++[pL 4,cic a,cic b,cic c]++rd 36) [(.loc 4,[ic d,.imm e,ic f,ic g,sc i,sc j,ic l])]
theorem ok53:∀ k s r,itS qst k s=some r->P53 s r:=okU trivial
instance {k:Nat} {a:Rs} {b:Int}:EvI (g53 k a b) 53 [cm a,cic b] [] qrz nB:=eI ok53
def qwN (k:Nat)(rec:S54->Option R54):S54->Option R54
 |.e a b c d e f g=>
  bif tg 5 (a != 13)then
   some [[ic a,.imm b,ic c,ic d,sc e,sc f,ic g]]
  else
   ixR b (tg 10 0) fun i=>
   qE i fun j l m n o p q=>
   (tg 12 (rec (.e j l m n o p q))).bind fun t=>
   ixR b (tg 15 1) fun u=>
   qE u fun v w x y z a1 b1=>
   (tg 17 (rec (.e v w x y z a1 b1))).bind fun c1=>
   gd (tg 18 (apOk 88 7 t c1)) <|
   some (t++c1)
def g54 (k:Nat)(a:Int)(b:Rs)(c d:Int)(e f:By)(g:Int):Option R54:=itS qwN k (.e a b c d e f g)
def P54:S54->R54->Prop
 |.e a b c d e f g=>Fe Y54 qzT nB [.ag [ic a,.imm b,ic c,ic d,sc e,sc f,ic g]] []
instance {a:Int} {b:Rs} {c d:Int} {e f:By} {g:Int}:EvS P54 id (.e a b c d e f g) 54 [.ag [ic a,.imm b,ic c,ic d,sc e,sc f,ic g]] [] qzT nB:=⟨fun o h v e=>evF (h v e)⟩
theorem ok54:∀ k s r,itS qwN k s=some r->P54 s r:=okU (And.intro @qu1 trivial)
instance {k:Nat} {a:Int} {b:Rs} {c d:Int} {e f:By} {g:Int}:EvI (g54 k a b c d e f g) 54 [.ag [ic a,.imm b,ic c,ic d,sc e,sc f,ic g]] [] qzT nB:=eI ok54
def yY (k:Nat)(rec:S20->Option R20):S20->Option R20
 |.e a b c d e f g i j l m=>
  bif tg 11 (d != 0)then
   rec (tg 3 (.h0 true a b c d e f g i j l m))
  else
   (tg 16 (g19b k (strB [87,72,69,82,69]) a b c d e f g i j l m)).bind fun n=>
   tup4 n fun o p q t=>
   rec (tg 3 (.h0 (!o) p b c d e q t i j l m))
 |.h0 a b c _ d e f g ..=>
  bif a then
   some (b,c,d,e,f,g)
  else
   (tg 39 (g53 k b (IntKind.i64.wrap (c+1)))).bind fun i=>
   ql i fun j l m n o p q t u v=>
   bif tg 45 (v != 0)then
    some (b,IntKind.i64.wrap (c+1),v,u,f,g)
   else
    (tg 63 (g54 k j l m n o p q)).bind fun w=>
    some (b,t,d,e,f,w)
def g20 (k:Nat)(a:Rs)(b c d e:Int)(f g:Rs)(i j:Int)(l:By)(m:Int):Option R20:=itS yY k (.e a b c d e f g i j l m)
def P20:S20->R20->Prop
 |.e a b c d e f g i j l m=>Fe Y20 qBy (qDi c i j l m) [pP 0] [[.imm a,ic b,ic c,ic d,ic e,.own 1 f,.own 7 g,ic i,ic j,sc l,ic m]]
 |.h0 a b c d e f g i j l m n=>Fk Y20 qBy (qDi d j l m n) [0,1,2] ([pP 0]++rd 17++[cbc a]++rd 48) [(.par 0,[.imm b,ic c,ic d,ic e,ic f,.own 1 g,.own 7 i,ic j,ic l,sc m,ic n])]
theorem ok20:∀ k s r,itS yY k s=some r->P20 s r:=okU trivial
instance {k:Nat} {a:Rs} {b c d e:Int} {f g:Rs} {i j:Int} {l:By} {m:Int}:EvI (g20 k a b c d e f g i j l m) 20 [pP 0] [[.imm a,ic b,ic c,ic d,ic e,.own 1 f,.own 7 g,ic i,ic j,sc l,ic m]] qBy (qDi c i j l m):=eI ok20
def qtD:R21->ARes
 |(_,_,_,_,_,_,_,_,_,_)=>.ret .undef
def bx21 (b0_2:Int):R21->List (List Cell)
 |(a,b,c,d,e,f,g,i,j,l)=>[[.imm a,ic b,ic b0_2,ic c,ic d,.own 1 e,.own 7 f,ic g,ic i,sc j,ic l]]
def qq0 (k:Nat)(rec:S21->Option R21):S21->Option R21
 |.e a b c d e f g i j l m=>
  (tg 7 (g17b k (strB [83,84,82,65,84,69,71,89]) a b c d e f g i j l m)).bind fun n=>
  tup6 n fun o p q t u v=>
  rec (tg 7 (.h0 [[sc (strB [83,84,82,73,67,84])],[sc (strB [78,69,88,84])],[sc (strB [65,78,89])]] 3 0 o p c q t u v i j l m))
 |.h0 a b c d e f g i j l m n o p=>
  bif tg 11 (decide (c<b))then
   ixR a (tg 13 (tg 3 c)) fun q=>
   un_s q fun t=>
   bif tg 20 (g==0)then
    bif tg 27 (m==0)then
     (tg 34 (g19b k t d e f g i j l m n o p)).bind fun u=>
     tup4 u fun v w x y=>
     rec (tg 12 (.h1 c a b c v w e f g i x y m n o p))
    else
     rec (tg 12 (.h1 c a b c false d e f g i j l m n o p))
   else
    rec (tg 12 (.h1 c a b c false d e f g i j l m n o p))
  else
   bif tg 57 (m==0)then
    (tg 59 (g55b k 13 d e f g i j l m n o p)).bind fun z=>
    tup5 z fun a1 b1 c1 d1 e1=>
    rec (tg 11 (.h2 a1 e f b1 c1 d1 e1 m n o p))
   else
    rec (tg 11 (.h2 d e f g i j l m n o p))
 |.h1 a b c d e f g i j l m n o p q t=>
  bif e then
   rec (tg 5 (.h3 b c d f (IntKind.i64.wrap (g+1)) i j l m n (IntKind.i64.wrap (a+1)) p q t))
  else
   rec (tg 3 (.h3 b c d f g i j l m n o p q t))
 |.h2 a b c d e f g i j l m=>
  (tg 63 (g17b k (strB [87,73,84,72,73,78]) a b c d e f g i j l m)).bind fun n=>
  tup6 n fun o p q t u v=>
  bif tg 69 (q==0)then
   ixR o (tg 81 p) fun w=>
   qaM w fun x _ _ _ _=>
   rec (tg 5 (.h4 (x != 3) o p c q t u v i j l m))
  else
   rec (tg 5 (.h4 false o p c q t u v i j l m))
 |.h3 a b c d e f g i j l m n o p=>rec (tg 1 (.h0 a b (IntKind.i64.wrap (c+1)) d e f g i j l m n o p))
 |.h4 a b c d e f g i j l m n=>
  bif a then
   (tg 87 (g55b k 13 b c d e f g i j l m n)).bind fun o=>
   tup5 o fun p q t u v=>
   rec (tg 2 (.h5 p c d q t u v j l m n))
  else
   rec (tg 2 (.h5 b c d e f g i j l m n))
 |.h5 a b c d e f g i j l m=>
  bif tg 93 (d==0)then
   ixR a (tg 105 b) fun n=>
   qaM n fun _ _ o _ _=>
   rec (tg 3 (.h6 (decide (o>1152921504606846976)) a b c d e f g i j l m))
  else
   rec (tg 3 (.h6 false a b c d e f g i j l m))
 |.h6 a b c d e f g i j l m n=>
  bif a then
   (tg 111 (g55b k 1 b c d e f g i j l m n)).bind fun o=>
   tup5 o fun p q t u v=>
   rec (tg 2 (.h7 p c d q t u v j l m n))
  else
   rec (tg 2 (.h7 b c d e f g i j l m n))
 |.h7 a b c d e f g i j l m=>
  bif tg 117 (d != 0)then
   some (a,b,d,e,f,g,i,j,l,m)
  else
   ixR a (tg 129 b) fun n=>
   qaM n fun _ _ o _ _=>
   (tg 147 (g19b k (strB [80,65,82,84,73,84,73,79,78]) a (IntKind.i64.wrap (b+1)) c d e f g i o l m)).bind fun p=>
   tup4 p fun q t u v=>
   bif q then
    (tg 160 (g17b k (strB [66,89]) t (IntKind.i64.wrap ((IntKind.i64.wrap (b+1))+1)) c d e u v i o l m)).bind fun w=>
    tup6 w fun x y z a1 b1 c1=>
    ixR x (tg 172 y) fun d1=>
    qaM d1 fun _ _ _ _ e1=>
    (tg 180 (g56b k x y c z a1 b1 c1 i o l e1)).bind fun f1=>
    tup7 f1 fun g1 i1 j1 l1 m1 n1 o1=>
    some (i1,j1,l1,m1,n1,o1,i,o,g1,e1)
   else
    some (t,IntKind.i64.wrap (b+1),d,e,u,v,i,o,l,m)
def g21 (k:Nat)(a:Rs)(b c d e:Int)(f g:Rs)(i j:Int)(l:By)(m:Int):Option R21:=itS qq0 k (.e a b c d e f g i j l m)
def P21:S21->R21->Prop
 |.e a b c d e f g i j l m=>Fe Y21 qtD (bx21 c) [pP 0] [[.imm a,ic b,ic c,ic d,ic e,.own 1 f,.own 7 g,ic i,ic j,sc l,ic m]]
 |.h0 a b c d e f g i j l m n o p=>Fk Y21 qtD (bx21 f) [1,0,1,0,4] ([pP 0]++rd 7++[.c (.own 1 a),cic b,cic c]++rd 173) [(.par 0,[.imm d,ic e,ic f,ic g,ic i,.own 1 j,.own 7 l,ic m,ic n,sc o,ic p])]
 |.h1 a b c d e f g i j l m n o p q t=>Fk Y21 qtD (bx21 i) [1,0,1,0,0,1,1,0,0,1,1,2] ([pP 0,.deadv,cic a]++rd 5++[.c (.own 1 b),cic c,cic d]++rd 24++[cbc e]++rd 148) [(.par 0,[.imm f,ic g,ic i,ic j,ic l,.own 1 m,.own 7 n,ic o,ic p,sc q,ic t])]
 |.h2 a b c d e f g i j l m=>Fk Y21 qtD (bx21 c) [1,1,1,2] ([pP 0]++rd 183) [(.par 0,[.imm a,ic b,ic c,ic d,ic e,.own 1 f,.own 7 g,ic i,ic j,sc l,ic m])]
 |.h3 a b c d e f g i j l m n o p=>Fk Y21 qtD (bx21 f) [1,0,1,0,0,1,1,1,2] ([pP 0]++rd 7++[.c (.own 1 a),cic b,cic c]++rd 173) [(.par 0,[.imm d,ic e,ic f,ic g,ic i,.own 1 j,.own 7 l,ic m,ic n,sc o,ic p])]
 |.h4 a b c d e f g i j l m n=>Fk Y21 qtD (bx21 d) [1,1,1,1,0,1,2] ([pP 0]++rd 84++[cbc a]++rd 98) [(.par 0,[.imm b,ic c,ic d,ic e,ic f,.own 1 g,.own 7 i,ic j,ic l,sc m,ic n])]
 |.h5 a b c d e f g i j l m=>Fk Y21 qtD (bx21 c) [1,1,1,1,1,2] ([pP 0]++rd 183) [(.par 0,[.imm a,ic b,ic c,ic d,ic e,.own 1 f,.own 7 g,ic i,ic j,sc l,ic m])]
 |.h6 a b c d e f g i j l m n=>Fk Y21 qtD (bx21 d) [1,1,1,1,1,0,1,2] ([pP 0]++rd 108++[cbc a]++rd 74) [(.par 0,[.imm b,ic c,ic d,ic e,ic f,.own 1 g,.own 7 i,ic j,ic l,sc m,ic n])]
 |.h7 a b c d e f g i j l m=>Fk Y21 qtD (bx21 c) [1,1,1,1,1,1,2] ([pP 0]++rd 183) [(.par 0,[.imm a,ic b,ic c,ic d,ic e,.own 1 f,.own 7 g,ic i,ic j,sc l,ic m])]
theorem ok21:∀ k s r,itS qq0 k s=some r->P21 s r:=okU (And.intro @qvg (And.intro @qv2 trivial))
instance {k:Nat} {a:Rs} {b c d e:Int} {f g:Rs} {i j:Int} {l:By} {m:Int}:EvI (g21 k a b c d e f g i j l m) 21 [pP 0] [[.imm a,ic b,ic c,ic d,ic e,.own 1 f,.own 7 g,ic i,ic j,sc l,ic m]] qtD (bx21 c):=eI ok21
def res6:R6->ARes
 |(a,b,c,d,e,f,g,i)=>.ret ⟨.tup [true,false,false],[[.imm a,.imm b,ic c,ic d,sc e,ic f],[ic g],[ic i]]⟩
def qn9 (k:Nat)(rec:S6->Option R6):S6->Option R6
 |.e a=>
  (tg 11 (g16 k a)).bind fun b=>
  tup3 b fun c d e=>
  bif tg 16 (e != 0)then
   rec (tg 10 (rg [] [(⟨⟨.loc 2,[]⟩,0,0⟩,none),(⟨⟨.loc 2,[]⟩,0,1⟩,none)] (.h0 d e [] [] 0 0 (strB []) 0)))
  else
   (tg 27 (g17 k (strB [80,65,84,84,69,82,78]) (qG c) 0 0 0 0 0 0 (strB []) 0)).bind fun f=>
   tup4 f fun g i j l=>
   rec (tg 14 (rg [] [(⟨⟨.loc 23,[]⟩,0,5⟩,some 1),(⟨⟨.loc 23,[]⟩,0,6⟩,some 7)] (.h1 g i 0 j l [] [] 0 0 (strB []) 0 0 0 (strB []) 0)))
 |.h0 a b c d e f g i=>some (c,d,e,f,g,i,a,b)
 |.h1 a b c d e f g i j l m n o p q=>
  (tg 29 (g18b k a b c d e f g i j l m)).bind fun t=>
  tup6 t fun u v w x y z=>
  rec (tg 4 (.h2 u v c w x y z i j l m n o p q))
 |.h2 a b c d e f g i j l m n o p q=>
  bif tg 35 (d==0)then
   (tg 40 (g19b k (strB [124]) a b c d e f g i j l m)).bind fun t=>
   tup4 t fun u v w x=>
   rec (tg 4 (.h3 u v b c d e w x i j l m n o p q))
  else
   rec (tg 4 (.h3 false a b c d e f g i j l m n o p q))
 |.h3 a b c d e f g i j l m n o p q t=>
  bif a then
   (tg 52 (g18b k b (IntKind.i64.wrap (c+1)) d e f g i j l m n)).bind fun u=>
   tup6 u fun v w x y z a1=>
   rec (tg 7 (.h2 v w d x y z a1 j l m n o p q t))
  else
   (tg 54 (g20 k b c d e f g i j l m n)).bind fun u=>
   tup6 u fun v w x y z a1=>
   (tg 56 (g21 k v w d x y z a1 j l m n)).bind fun b1=>
   ql b1 fun c1 d1 e1 f1 g1 i1 j1 l1 m1 n1=>
   bif tg 62 (e1==0)then
    ixR c1 (tg 74 d1) fun o1=>
    qaM o1 fun p1 _ _ _ _=>
    rec (tg 9 (.h4 (p1 != 0) c1 d1 d e1 f1 g1 i1 j1 l1 m1 n1 o p q t))
   else
    rec (tg 9 (.h4 false c1 d1 d e1 f1 g1 i1 j1 l1 m1 n1 o p q t))
 |.h4 a b c d e f g i j l m n o p q t=>
  bif a then
   (tg 82 (g22b k 13 b c d e f g i j l m n)).bind fun u=>
   tup5 u fun v w x y z=>
   rec (tg 2 (.h5 v c d w x y z j l m n o p q t))
  else
   rec (tg 2 (.h5 b c d e f g i j l m n o p q t))
 |.h5 _ _ _ a b c d e f g i ..=>
  bif tg 88 (a != 0)then
   rec (tg 6 (rg [23] [(⟨⟨.loc 2,[]⟩,0,0⟩,none),(⟨⟨.loc 2,[]⟩,0,1⟩,none)] (.h6 b a [] [] 0 0 (strB []) 0)))
  else
   (tg 104 (tg 2 (g23 k (qG c) (qG d) e f g i))).bind fun j=>
   bif tg 105 (decide (j>200))then
    rec (tg 11 (rg [23] [(⟨⟨.loc 2,[]⟩,0,0⟩,none),(⟨⟨.loc 2,[]⟩,0,1⟩,none)] (.h7 0 2 [] [] 0 0 (strB []) 0)))
   else
    rec (tg 12 (rg [23] [] (.h8 0 0 (qG c) (qG d) e f g i)))
 |.h6 a b c d e f g i=>some (c,d,e,f,g,i,a,b)
 |.h7 a b c d e f g i=>some (c,d,e,f,g,i,a,b)
 |.h8 a b c d e f g i=>some (c,d,e,f,g,i,a,b)
def g6 (k:Nat)(a:By):Option R6:=itS qn9 k (.e a)
def P6:S6->R6->Prop
 |.e a=>Fe Y6 res6 nB [csc a] []
 |.h0 a b c d e f g i=>Fk Y6 res6 nB [1,1,0,1,0,1,2] ([.deadv,.deadv,pL 2,cic a,cic b]++rd 106) [(.loc 2,[.imm c,.imm d,ic e,ic f,sc g,ic i])]
 |.h1 a b c d e f g i j l m n o p q=>Fk Y6 res6 nB [1,1,1,1,1,0,2] ([.deadv,.deadv,pL 2]++rd 5++[pL 23]++rd 102) [(.loc 23,[.imm a,ic b,ic c,ic d,ic e,.own 1 f,.own 7 g,ic i,ic j,sc l,ic m]),(.loc 2,[.nil,.nil,ic n,ic o,sc p,ic q])]
 |.h2 a b c d e f g i j l m n o p q=>Fk Y6 res6 nB [1,1,1,1,1,1,0,0,4] ([.deadv,.deadv,pL 2]++rd 5++[pL 23]++rd 102) [(.loc 23,[.imm a,ic b,ic c,ic d,ic e,.own 1 f,.own 7 g,ic i,ic j,sc l,ic m]),(.loc 2,[.nil,.nil,ic n,ic o,sc p,ic q])]
 |.h3 a b c d e f g i j l m n o p q t=>Fk Y6 res6 nB [1,1,1,1,1,1,0,0,0,0,1,2] ([.deadv,.deadv,pL 2]++rd 5++[pL 23]++rd 32++[cbc a]++rd 69) [(.loc 23,[.imm b,ic c,ic d,ic e,ic f,.own 1 g,.own 7 i,ic j,ic l,sc m,ic n]),(.loc 2,[.nil,.nil,ic o,ic p,sc q,ic t])]
 |.h4 a b c d e f g i j l m n o p q t=>Fk Y6 res6 nB [1,1,1,1,1,1,1,1,1,0,1,2] ([.deadv,.deadv,pL 2]++rd 5++[pL 23]++rd 69++[cbc a]++rd 32) [(.loc 23,[.imm b,ic c,ic d,ic e,ic f,.own 1 g,.own 7 i,ic j,ic l,sc m,ic n]),(.loc 2,[.nil,.nil,ic o,ic p,sc q,ic t])]
 |.h5 a b c d e f g i j l m n o p q=>Fk Y6 res6 nB [1,1,1,1,1,1,1,1,1,1,2] ([.deadv,.deadv,pL 2]++rd 5++[pL 23]++rd 102) [(.loc 23,[.imm a,ic b,ic c,ic d,ic e,.own 1 f,.own 7 g,ic i,ic j,sc l,ic m]),(.loc 2,[.nil,.nil,ic n,ic o,sc p,ic q])]
 |.h6 a b c d e f g i=>Fk Y6 res6 nB [1,1,1,1,1,1,1,1,1,1,0,1,0,1,2] ([.deadv,.deadv,pL 2,cic a,cic b]++rd 106) [(.loc 2,[.imm c,.imm d,ic e,ic f,sc g,ic i])]
 |.h7 a b c d e f g i=>Fk Y6 res6 nB [1,1,1,1,1,1,1,1,1,1,1,0,1,0,1,2] ([.deadv,.deadv,pL 2,cic a,cic b]++rd 106) [(.loc 2,[.imm c,.imm d,ic e,ic f,sc g,ic i])]
 |.h8 a b c d e f g i=>Fk Y6 res6 nB [1,1,1,1,1,1,1,1,1,1,1,1,1,2] ([.deadv,.deadv,pL 2,cic a,cic b]++rd 106) [(.loc 2,[.imm c,.imm d,ic e,ic f,sc g,ic i])]
theorem ok6:∀ k s r,itS qn9 k s=some r->P6 s r:=okU (And.intro @qvg trivial)
instance {k:Nat} {a:By}:EvI (g6 k a) 6 [csc a] [] res6 nB:=eI ok6
def qon (k:Nat)(rec:S3->Option R3):S3->Option R3
 |.e a=>
  (tg 11 (g5 k a)).bind fun b=>
  altC b (fun c=>
    tup8 c fun d e f g i j l m=>
    (tg 17 (g6 k a)).bind fun n=>
    tup8 n fun o p q t u v w x=>
    (tg 21 (g7 k)).bind fun y=>
    bif y then
     (tg 25 (g8 k d e f g i j o p q t u v true)).bind fun z=>
     bif z then
      bif tg 30 (l==w)then
       some (m==x)
      else
       some false
     else
      some false
    else
     some false) (fun c=>
    tup6 c fun f g i j l m=>
    (tg 17 (g6 k a)).bind fun n=>
    tup8 n fun o p q t u v w x=>
    (tg 21 (g7 k)).bind fun y=>
    bif y then
     (tg 25 (g8 k [] [] f g i j o p q t u v true)).bind fun z=>
     bif z then
      bif tg 30 (l==w)then
       some (m==x)
      else
       some false
     else
      some false
    else
     some false)
def g3 (k:Nat)(a:By):Option R3:=itS qon k (.e a)
def P3:S3->R3->Prop
 |.e a=>Fe Y3 qzQ nB [csc a] []
theorem ok3:∀ k s r,itS qon k s=some r->P3 s r:=okU trivial
instance {k:Nat} {a:By}:EvI (g3 k a) 3 [csc a] [] qzQ nB:=eI ok3
end
end Ab
end Go.Proofs.YtgfbbmjoflehlaaGreatDoor
