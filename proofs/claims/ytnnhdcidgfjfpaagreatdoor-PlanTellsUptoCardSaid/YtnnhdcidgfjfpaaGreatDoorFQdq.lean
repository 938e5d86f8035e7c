/-
  Functions' ways, printed by a program: what each computes, and that this is what the interpreter computes.
-/
import Derived.Test.YtnnhdcidgfjfpaaGreatDoorFQcq
import Derived.Test.YtnnhdcidgfjfpaaGreatDoorBrq
import Derived.KernelRfl
set_option linter.all false
set_option maxRecDepth 10000
set_option maxHeartbeats 8000000
namespace Go.Proofs.YtnnhdcidgfjfpaaGreatDoor
namespace Ab
variable [Glob]
inductive S41c where
 |e (a:Int)(b:Rs)(c d:Int)(e f:By)(g:Int)(i j l:Rs)(m n o:Int)(p q:Rs)
 |h0 (a:Int)(b:Rs)(c d:Int)(e f:By)(g:Int)(i j l:Rs)(m n o:Int)(p q:Rs)
 |h1 (a b c:Int)(d:Rs)(e f:Int)(g i:By)(j:Int)(l m n:Rs)(o p q:Int)(t u:Rs)
 |h2 (a:Rs)(b:Int)(c:Bool)(d e:Int)(f:By)(g i j l m n:Int)(o:Rs)(p q:Int)(t u:By)(v:Int)(w x y:Rs)(z a1 b1:Int)(c1 d1:Rs)
 |h3 (a b c:Int)(d:Rs)(e f:Int)(g i:By)(j:Int)(l m n:Rs)(o p q:Int)(t u:Rs)
 |h4 (a:Rs)(b:Int)(c:Bool)(d e:Int)(f:By)(g i j l m:Int)(n:By)(o p q t u v:Int)(w:Rs)(x y:Int)(z a1:By)(b1:Int)(c1 d1 e1:Rs)(f1 g1 i1:Int)(j1 l1:Rs)
 |h5 (a:Rs)(b:Int)(c d:Bool)(e f:Int)(g:By)(i j l m n o:Int)(p:Rs)(q t:Int)(u v:By)(w:Int)(x y z:Rs)(a1 b1 c1:Int)(d1 e1:Rs)
 |h6 (a:Rs)(b:Int)(c:Bool)(d e:Int)(f:By)(g i j l m n:Int)(o:Rs)(p q:Int)(t u:By)(v:Int)(w x y:Rs)(z a1 b1:Int)(c1 d1:Rs)
 |h7 (a:Rs)(b:Int)(c d:Bool)(e f:Int)(g:By)(i j l m n o:Int)(p:Rs)(q t:Int)(u v:By)(w:Int)(x y z:Rs)(a1 b1 c1:Int)(d1 e1:Rs)
 |h8 (a:Int)(b c:Bool)(d:Rs)(e f:Int)(g:By)(i j l m n o:Int)(p:Rs)(q t:Int)(u v:By)(w:Int)(x y z:Rs)(a1 b1 c1:Int)(d1 e1:Rs)
 |h9 (a:Int)(b c:Bool)(d:Rs)(e f:Int)(g:By)(i j l m n o:Int)(p:Rs)(q t:Int)(u v:By)(w:Int)(x y z:Rs)(a1 b1 c1:Int)(d1 e1:Rs)
 |h10 (a:Bool)(b:By)(c d e f g i:Int)(j:Rs)(l m:Int)(n o:By)(p:Int)(q t u:Rs)(v w x:Int)(y z:Rs)
abbrev R41c:=Rs×Rs×Rs×Int×Int×Rs×Rs
inductive S17 where
 |e (a b c d:Rs)(e f:Int)(g:By)(i:Int)
 |h0 (a b c:Int)(d e:Rs)
 |h1 (a b c:Int)(d e:Rs)
 |h2 (a:Rs)(b c d:Int)(e f g i:Rs)(j l m:Int)(n o:Rs)(p q:Int)(t:By)(u:Int)
 |h3 (a:Int)(b c:Rs)(d e f:Int)(g i j l:Rs)(m n o:Int)(p q:Rs)(t u:Int)(v:By)(w:Int)
 |h4 (a:Int)(b c d e:Rs)(f g i:Int)(j l:Rs)(m n:Int)(o:By)(p:Int)
 |h5 (a b c:Int)(d e f g i:Rs)(j l m:Int)(n o:Rs)(p q:Int)(t:By)(u:Int)
 |h6 (a b c d:Int)(e f g i j:Rs)(l m n:Int)(o p:Rs)(q t:Int)(u:By)(v:Int)
 |h7 (a b c:Int)(d e:Rs)
 |h8 (a b c:Int)(d e:Rs)
abbrev R17:=Int×Rs×Rs×Int×Int
inductive S42 where
 |e (a b:Rs)
 |h0 (a b:Rs)(c d:Int)
 |h1 (a b:Rs)(c d:Int)(e:Bool)
abbrev R42:=Bool
inductive S18 where
 |e (a:Int)(b c:Rs)(d:Int)(e f:Rs)
 |h0 (a:Bool)(b:Int)(c d:Rs)(e:Int)(f g:Rs)
 |h1 (a b c:Int)(d e:Rs)(f:Int)(g i:Rs)
 |h2 (a:Rs)(b c d:Int)(e f:Rs)
 |h3 (a:Rs)(b c:Int)(d:Bool)(e f:Int)(g:Rs)(i j:Int)(l:Rs)(m:Int)(n o:Rs)
 |h4 (a:Rs)(b c:Int)(d:Rs)(e f g i:Int)(j:Rs)(l:Int)(m n:Rs)
 |h5 (a:Rs)(b c:Int)(d:Rs)(e f:Int)(g:Bool)(i j:Int)(l:Rs)(m:Int)(n o:Rs)
abbrev R18:=Bool
inductive S36 where
 |e (a b:Rs)
 |h0 (a b:Rs)(c d:Int)
 |h1 (a b:Rs)(c d:Int)(e:Bool)
abbrev R36:=Bool
inductive S15 where
 |e (a:Int)(b c:Rs)(d:Int)(e f:Rs)
 |h0 (a:Bool)(b:Int)(c d:Rs)(e:Int)(f g:Rs)
 |h1 (a b c:Int)(d e:Rs)(f:Int)(g i:Rs)
 |h2 (a b c:Int)(d e:Rs)(f:Int)(g i:Rs)
 |h3 (a b:Int)(c:Bool)(d e:Int)(f:Rs)(g i:Int)(j:Rs)(l:Int)(m n:Rs)(o:Int)(p q:Rs)
 |h4 (a b c d e f:Int)(g:Rs)(i j:Int)(l:Rs)(m:Int)(n o:Rs)(p:Int)(q t:Rs)
 |h5 (a b c d:Int)(e:Bool)(f g:Int)(i:Rs)(j l:Int)(m:Rs)(n:Int)(o p:Rs)(q:Int)(t u:Rs)
abbrev R15:=Bool
inductive S43 where
 |e (a:Rs)
 |h0 (a b:Rs)(c d:Int)
abbrev R43:=Rs
inductive S19 where
 |e (a:Int)(b c:Rs)
 |h0 (a:Rs)(b c d:Int)(e f:Rs)(g:Int)
 |h1 (a b:Rs)(c d:Int)(e:Rs)(f g i j:Int)(l:Rs)(m:Int)(n o:Rs)(p:Int)
abbrev R19:=Int×Rs×Rs
inductive S7 where
 |e (a b:Rs)(c d:By)
abbrev R7:=Bool
theorem cA70 {a b c d e f g:Cell}:∃ x,cellAt [[a,b,c,d,e,f,g]] 0 0=some x:=⟨a,rfl⟩
theorem cA71 {a b c d e f g:Cell}:∃ x,cellAt [[a,b,c,d,e,f,g]] 0 1=some x:=⟨b,rfl⟩
theorem cA72 {a b c d e f g:Cell}:∃ x,cellAt [[a,b,c,d,e,f,g]] 0 2=some x:=⟨c,rfl⟩
theorem cA73 {a b c d e f g:Cell}:∃ x,cellAt [[a,b,c,d,e,f,g]] 0 3=some x:=⟨d,rfl⟩
theorem cA74 {a b c d e f g:Cell}:∃ x,cellAt [[a,b,c,d,e,f,g]] 0 4=some x:=⟨e,rfl⟩
theorem cA75 {a b c d e f g:Cell}:∃ x,cellAt [[a,b,c,d,e,f,g]] 0 5=some x:=⟨f,rfl⟩
theorem cA76 {a b c d e f g:Cell}:∃ x,cellAt [[a,b,c,d,e,f,g]] 0 6=some x:=⟨g,rfl⟩
attribute [local irreducible] cond gd ixR sxI aixS Option.bind
noncomputable section
def qvM:R41c->ARes
 |(_,_,_,_,_,_,_)=>.ret .undef
def qwR (h:Int):R41c->List (List Cell)
 |(a,b,c,d,e,f,g)=>[[.imm a,.imm b,.imm c,ic d,ic e],[ic h,.own 1 f,.own 3 g]]
noncomputable def qu3 (k:Nat)(rec:S41c->Option R41c):S41c->Option R41c
 |.e a b c d e f g i j l m n o p q=>
  bif m != 0 then
   some (i,j,l,m,n,p,q)
  else
   (g82c k a b c d e f g i j l m n).bind λt=>
   tup6 t λu v w x y z=>
   bif u != 2 then
    (g79c k 11 g v w x y z).bind λh=>
    tup5 h λr c1 s A C=>
    rec (.h0 a b c d e f g r c1 s A C o p q)
   else
    rec (.h0 a b c d e f g v w x y z o p q)
 |.h0 a b c d e f g i j l m n o p q=>
  bif m != 0 then
   some (i,j,l,m,n,p,q)
  else
   (g83b k a b c d e f g false i j l m n).bind λt=>
   tup4 t λu v w x=>
   bif (u.length:Int)==0 then
    rec (.h1 (q.length:Int) 0 a b c d e f g v w x m n o p q)
   else
    ixR u 0 λy=>
    qvD y λz h r c1 s A=>
    rec (.h2 u 0 true (u.length:Int) 0 z h r c1 s A a b c d e f g v w x m n o p q)
 |.h1 a b c d e f g i j l m n o p q t u=>
  bif decide (b<a)then
   ixR u b λv=>
   qwO v λ_ _ w=>
   ixR w 0 λx=>
   xe x (λ_ _=>
    (g84b k c d e f g i j (strB []) l m n o p).bind λy=>
    zu y λz h r c1 s A C D E G F H=>
    rec (.h3 a b c d e f g i j D E G F H q t (setRow u b.toNat 2 (.own 4 (setRow w 0 2 (.own 7 [[ic z,ic h,.imm r,ic c1,.val (.int .u64 s),ic A,ic C]])))))) (λ_ _ _=>
    (g84b k c d e f g i j (strB []) l m n o p).bind λy=>
    zu y λz h r c1 s A C D E G F H=>
    rec (.h3 a b c d e f g i j D E G F H q t (setRow u b.toNat 2 (.own 4 (setRow w 0 2 (.own 7 [[ic z,ic h,.imm r,ic c1,.val (.int .u64 s),ic A,ic C]])))))) (λ_ _ B=>
    (g84b k c d e f g i j (strB []) l m n o p).bind λy=>
    zu y λz h r c1 s A C D E G F H=>
    gd (apOk 72 7 B [Nz]) <|
    rec (.h3 a b c d e f g i j D E G F H q t (setRow (setRow u b.toNat 2 (.own 4 (setRow w 0 2 .dead))) b.toNat 2 (.own 4 (setRow (setRow w 0 2 .dead) 0 2 (.own 7 (setRow (setRow (setRow (setRow (setRow (setRow (setRow (B++[Nz]) ((B.length:Int).toNat) 0 (ic z)) ((B.length:Int).toNat) 1 (ic h)) ((B.length:Int).toNat) 2 (.imm r)) ((B.length:Int).toNat) 3 (ic c1)) ((B.length:Int).toNat) 4 (.val (.int .u64 s))) ((B.length:Int).toNat) 5 (ic A)) ((B.length:Int).toNat) 6 (ic C)))))))) (λ_ _ B _=>
    (g84b k c d e f g i j (strB []) l m n o p).bind λy=>
    zu y λz h r c1 s A C D E G F H=>
    gd (apOk 72 7 B [Nz]) <|
    rec (.h3 a b c d e f g i j D E G F H q t (setRow (setRow u b.toNat 2 (.own 4 (setRow w 0 2 .dead))) b.toNat 2 (.own 4 (setRow (setRow w 0 2 .dead) 0 2 (.own 7 (setRow (setRow (setRow (setRow (setRow (setRow (setRow (B++[Nz]) ((B.length:Int).toNat) 0 (ic z)) ((B.length:Int).toNat) 1 (ic h)) ((B.length:Int).toNat) 2 (.imm r)) ((B.length:Int).toNat) 3 (ic c1)) ((B.length:Int).toNat) 4 (.val (.int .u64 s))) ((B.length:Int).toNat) 5 (ic A)) ((B.length:Int).toNat) 6 (ic C))))))))
  else
   some (l,m,n,o,p,t,u)
 |.h2 a b c d e f g i j l m n o p q t u v w x y z h r c1 s=>
  bif decide (e<d)then
   ixR a e λA=>
   qvD A λC D E G F H=>
   bif decide (E>i)then
    rec (.h4 a b c d e C D E G F H C D E G F H n o p q t u v w x y z h r c1 s)
   else
    rec (.h4 a b c d e C D E G F H f g i j l m n o p q t u v w x y z h r c1 s)
  else
   rec (.h5 a b c (l != 2) (a.length:Int) 0 f g i j l m n o p q t u v w x y z h r c1 s)
 |.h3 a b c d e f g i j l m n o p q t u=>rec (.h1 a (wZ (b+1)) c d e f g i j l m n o p q t u)
 |.h4 a b c d e _ f _ _ _ _ g i j l m n o p q t u v w x y z h r c1 s A=>
  bif c then
   ixR a 0 λC=>
   qvD C λ_ D _ _ _ _=>
   rec (.h6 a b (f==D) d e g i j l m n o p q t u v w x y z h r c1 s A)
  else
   rec (.h6 a b false d e g i j l m n o p q t u v w x y z h r c1 s A)
 |.h5 a b c d e f g i j l m n o p q t u v w x y z h r c1 s A=>
  bif decide (f<e)then
   ixR a f λC=>
   qvD C λD _ _ _ E _=>
   bif E==3 then
    bif c then
     rec (.h7 a (wZ (b+1)) (D.toList==g.toList) d e f g i j l m n o p q t u v w x y z h r c1 s A)
    else
     rec (.h7 a (wZ (b+1)) false d e f g i j l m n o p q t u v w x y z h r c1 s A)
   else
    rec (.h7 a b c d e f g i j l m n o p q t u v w x y z h r c1 s A)
  else
   (g83b k o p q t u v w true x y z h r).bind λG=>
   tup4 G λF H B I=>
   rec (.h8 b c d F (F.length:Int) 0 g i j l m n o p q t u v w H B I h r c1 s A)
 |.h6 a b c d e f g i j l m n o p q t u v w x y z h r c1 s=>rec (.h2 a b c d (wZ (e+1)) f g i j l m n o p q t u v w x y z h r c1 s)
 |.h7 a b c d e f g i j l m n o p q t u v w x y z h r c1 s A=>rec (.h5 a b c d e (wZ (f+1)) g i j l m n o p q t u v w x y z h r c1 s A)
 |.h8 a b c d e f g i j l m n o p q t u v w x y z h r c1 s A=>
  bif decide (f<e)then
   ixR d f λC=>
   qvD C λD _ _ _ E _=>
   bif E==2 then
    bif b then
     bif a==0 then
      rec (.h9 a (D.toList==g.toList) true d e f g i j l m n o p q t u v w x y z h r c1 s A)
     else
      rec (.h9 a false true d e f g i j l m n o p q t u v w x y z h r c1 s A)
    else
     rec (.h9 a false true d e f g i j l m n o p q t u v w x y z h r c1 s A)
   else
    rec (.h9 a b c d e f g i j l m n o p q t u v w x y z h r c1 s A)
  else
   bif !b then
    (g79c k 15 w x y z h r).bind λG=>
    tup5 G λF H B I J=>
    some (F,H,B,I,J,s,A)
   else
    ixR A i λK=>
    qwO K λ_ _ t1=>
    ixR t1 j λL=>
    xe L (λ_ _=>
     rec (.h10 c g i j l m n o p q t u v w x y z h r c1 s A)) (λ_ _ _=>
     rec (.h10 c g i j l m n o p q t u v w x y z h r c1 s A)) (λ_ _ _=>
     rec (.h10 c g i j l m n o p q t u v w x y z h r c1 s A)) (λ_ _ _ _=>
     rec (.h10 c g i j l m n o p q t u v w x y z h r c1 s A))
 |.h9 a b c d e f g i j l m n o p q t u v w x y z h r c1 s A=>rec (.h8 a b c d e (wZ (f+1)) g i j l m n o p q t u v w x y z h r c1 s A)
 |.h10 a b c d _ _ _ e f g i j l m n o p q t _ u v=>
  bif a then
   ixR v c λw=>
   qwO w λ_ _ x=>
   ixR x d λy=>
   xe y (λ_ _=>
    (g84b k e f g i j l m b n o p q t).bind λz=>
    zu z λh r c1 s A C D E G F H B=>
    some (E,G,F,H,B,u,setRow v c.toNat 2 (.own 4 (setRow x d.toNat 2 (.own 7 [[ic h,ic r,.imm c1,ic s,.val (.int .u64 A),ic C,ic D]]))))) (λ_ _ I=>
    (g84b k e f g i j l m b n o p q t).bind λz=>
    zu z λh r c1 s A C D E G F H B=>
    some (E,G,F,H,B,u,setRow v c.toNat 2 (.own 4 (setRow x d.toNat 2 (.own 7 [[ic h,ic r,.imm c1,ic s,.val (.int .u64 A),ic C,ic D]]))))) (λ_ _ J=>
    (g84b k e f g i j l m b n o p q t).bind λz=>
    zu z λh r c1 s A C D E G F H B=>
    gd (apOk 72 7 J [Nz]) <|
    some (E,G,F,H,B,u,setRow (setRow v c.toNat 2 (.own 4 (setRow x d.toNat 2 .dead))) c.toNat 2 (.own 4 (setRow (setRow x d.toNat 2 .dead) d.toNat 2 (.own 7 (setRow (setRow (setRow (setRow (setRow (setRow (setRow (J++[Nz]) ((J.length:Int).toNat) 0 (ic h)) ((J.length:Int).toNat) 1 (ic r)) ((J.length:Int).toNat) 2 (.imm c1)) ((J.length:Int).toNat) 3 (ic s)) ((J.length:Int).toNat) 4 (.val (.int .u64 A))) ((J.length:Int).toNat) 5 (ic C)) ((J.length:Int).toNat) 6 (ic D))))))) (λ_ _ J I=>
    (g84b k e f g i j l m b n o p q t).bind λz=>
    zu z λh r c1 s A C D E G F H B=>
    gd (apOk 72 7 J [Nz]) <|
    some (E,G,F,H,B,u,setRow (setRow v c.toNat 2 (.own 4 (setRow x d.toNat 2 .dead))) c.toNat 2 (.own 4 (setRow (setRow x d.toNat 2 .dead) d.toNat 2 (.own 7 (setRow (setRow (setRow (setRow (setRow (setRow (setRow (J++[Nz]) ((J.length:Int).toNat) 0 (ic h)) ((J.length:Int).toNat) 1 (ic r)) ((J.length:Int).toNat) 2 (.imm c1)) ((J.length:Int).toNat) 3 (ic s)) ((J.length:Int).toNat) 4 (.val (.int .u64 A))) ((J.length:Int).toNat) 5 (ic C)) ((J.length:Int).toNat) 6 (ic D)))))))
  else
   ixR v c λw=>
   qwO w λ_ _ x=>
   ixR x d λy=>
   xe y (λ_ _=>
    (g84b k e f g i j l m (strB []) n o p q t).bind λz=>
    zu z λh r c1 s A C D E G F H B=>
    some (E,G,F,H,B,u,setRow v c.toNat 2 (.own 4 (setRow x d.toNat 3 (.own 7 [[ic h,ic r,.imm c1,ic s,.val (.int .u64 A),ic C,ic D]]))))) (λ_ _ I=>
    (g84b k e f g i j l m (strB []) n o p q t).bind λz=>
    zu z λh r c1 s A C D E G F H B=>
    gd (apOk 72 7 I [Nz]) <|
    some (E,G,F,H,B,u,setRow (setRow v c.toNat 2 (.own 4 (setRow x d.toNat 3 .dead))) c.toNat 2 (.own 4 (setRow (setRow x d.toNat 3 .dead) d.toNat 3 (.own 7 (setRow (setRow (setRow (setRow (setRow (setRow (setRow (I++[Nz]) ((I.length:Int).toNat) 0 (ic h)) ((I.length:Int).toNat) 1 (ic r)) ((I.length:Int).toNat) 2 (.imm c1)) ((I.length:Int).toNat) 3 (ic s)) ((I.length:Int).toNat) 4 (.val (.int .u64 A))) ((I.length:Int).toNat) 5 (ic C)) ((I.length:Int).toNat) 6 (ic D))))))) (λ_ _ J=>
    (g84b k e f g i j l m (strB []) n o p q t).bind λz=>
    zu z λh r c1 s A C D E G F H B=>
    some (E,G,F,H,B,u,setRow v c.toNat 2 (.own 4 (setRow x d.toNat 3 (.own 7 [[ic h,ic r,.imm c1,ic s,.val (.int .u64 A),ic C,ic D]]))))) (λ_ _ J I=>
    (g84b k e f g i j l m (strB []) n o p q t).bind λz=>
    zu z λh r c1 s A C D E G F H B=>
    gd (apOk 72 7 I [Nz]) <|
    some (E,G,F,H,B,u,setRow (setRow v c.toNat 2 (.own 4 (setRow x d.toNat 3 .dead))) c.toNat 2 (.own 4 (setRow (setRow x d.toNat 3 .dead) d.toNat 3 (.own 7 (setRow (setRow (setRow (setRow (setRow (setRow (setRow (I++[Nz]) ((I.length:Int).toNat) 0 (ic h)) ((I.length:Int).toNat) 1 (ic r)) ((I.length:Int).toNat) 2 (.imm c1)) ((I.length:Int).toNat) 3 (ic s)) ((I.length:Int).toNat) 4 (.val (.int .u64 A))) ((I.length:Int).toNat) 5 (ic C)) ((I.length:Int).toNat) 6 (ic D)))))))
noncomputable def g41c (k:Nat)(a:Int)(b:Rs)(c d:Int)(e f:By)(g:Int)(i j l:Rs)(m n o:Int)(p q:Rs):Option R41c:=itS qu3 k (.e a b c d e f g i j l m n o p q)
def P41c:S41c->R41c->Prop
 |.e a b c d e f g i j l m n o p q=>Fe Y41 qvM (qwR o) [pP 0,pP 1,.ag [ic a,.imm b,ic c,ic d,sc e,sc f,ic g]] [[.imm i,.imm j,.imm l,ic m,ic n],[ic o,.own 1 p,.own 3 q]]
 |.h0 a b c d e f g i j l m n o p q=>Fk Y41 qvM (qwR o) [1,1,1,1,2] ([pP 0,pP 1]++rd 3++[pL 5]++rd 190) [(.loc 5,[ic a,.imm b,ic c,ic d,sc e,sc f,ic g]),(.par 0,[.imm i,.imm j,.imm l,ic m,ic n]),(.par 1,[ic o,.own 1 p,.own 3 q])]
 |.h1 a b c d e f g i j l m n o p q t u=>Fk Y41 qvM (qwR q) [1,1,1,1,1,1,0,1,0,0,1,0,4] ([pP 0,pP 1]++rd 3++[pL 5]++rd 44++[cic a,cic b]++rd 144) [(.loc 5,[ic c,.imm d,ic e,ic f,sc g,sc i,ic j]),(.par 0,[.imm l,.imm m,.imm n,ic o,ic p]),(.par 1,[ic q,.own 1 t,.own 3 u])]
 |.h2 a b c d e f g i j l m n o p q t u v w x y z k h c1 r=>Fk Y41 qvM (qwR h) [1,1,1,1,1,1,1,1,1,0,1,0,4] ([pP 0,pP 1]++rd 3++[pL 5,.deadv,.c (.own 6 a),.deadv,.deadv,pL 10,cic b,cbc c]++rd 66++[.c (.ref ⟨⟨.slot 7,[]⟩,0,0⟩),cic d,cic e]++rd 114) [(.loc 10,[sc f,ic g,ic i,ic j,ic l,ic m]),(.loc 5,[ic n,.imm o,ic p,ic q,sc t,sc u,ic v]),(.par 0,[.imm w,.imm x,.imm y,ic z,ic k]),(.par 1,[ic h,.own 1 c1,.own 3 r])]
 |.h3 a b c d e f g i j l m n o p q t u=>Fk Y41 qvM (qwR q) [1,1,1,1,1,1,0,1,0,0,1,0,0,1,1,1,2] ([pP 0,pP 1]++rd 3++[pL 5]++rd 44++[cic a,cic b]++rd 144) [(.loc 5,[ic c,.imm d,ic e,ic f,sc g,sc i,ic j]),(.par 0,[.imm l,.imm m,.imm n,ic o,ic p]),(.par 1,[ic q,.own 1 t,.own 3 u])]
 |.h4 a b c d e f g i j l m n o p q t u v w x y z k h c1 r s B C A D E=>Fk Y41 qvM (qwR A) [1,1,1,1,1,1,1,1,1,0,1,0,0,1,1,0,0,1,1,2] ([pP 0,pP 1]++rd 3++[pL 5,.deadv,.c (.own 6 a),.deadv,.deadv,pL 10,cic b,cbc c,.deadv,pL 14]++rd 64++[.c (.ref ⟨⟨.slot 7,[]⟩,0,0⟩),cic d,cic e]++rd 114) [(.loc 14,[sc f,ic g,ic i,ic j,ic l,ic m]),(.loc 10,[sc n,ic o,ic p,ic q,ic t,ic u]),(.loc 5,[ic v,.imm w,ic x,ic y,sc z,sc k,ic h]),(.par 0,[.imm c1,.imm r,.imm s,ic B,ic C]),(.par 1,[ic A,.own 1 D,.own 3 E])]
 |.h5 a b c d e f g i j l m n o p q t u v w x y z k h c1 r s=>Fk Y41 qvM (qwR c1) [1,1,1,1,1,1,1,1,1,1,1,0,1,0,4] ([pP 0,pP 1]++rd 3++[pL 5,.deadv,.c (.own 6 a),.deadv,.deadv,pL 10,cic b,cbc c,.deadv,.deadv,cbc d]++rd 89++[.c (.ref ⟨⟨.slot 7,[]⟩,0,0⟩),cic e,cic f]++rd 88) [(.loc 10,[sc g,ic i,ic j,ic l,ic m,ic n]),(.loc 5,[ic o,.imm p,ic q,ic t,sc u,sc v,ic w]),(.par 0,[.imm x,.imm y,.imm z,ic k,ic h]),(.par 1,[ic c1,.own 1 r,.own 3 s])]
 |.h6 a b c d e f g i j l m n o p q t u v w x y z k h c1 r=>Fk Y41 qvM (qwR h) [1,1,1,1,1,1,1,1,1,0,1,0,0,1,1,1,2] ([pP 0,pP 1]++rd 3++[pL 5,.deadv,.c (.own 6 a),.deadv,.deadv,pL 10,cic b,cbc c]++rd 66++[.c (.ref ⟨⟨.slot 7,[]⟩,0,0⟩),cic d,cic e]++rd 114) [(.loc 10,[sc f,ic g,ic i,ic j,ic l,ic m]),(.loc 5,[ic n,.imm o,ic p,ic q,sc t,sc u,ic v]),(.par 0,[.imm w,.imm x,.imm y,ic z,ic k]),(.par 1,[ic h,.own 1 c1,.own 3 r])]
 |.h7 a b c d e f g i j l m n o p q t u v w x y z k h c1 r s=>Fk Y41 qvM (qwR c1) [1,1,1,1,1,1,1,1,1,1,1,0,1,0,0,1,1,1,2] ([pP 0,pP 1]++rd 3++[pL 5,.deadv,.c (.own 6 a),.deadv,.deadv,pL 10,cic b,cbc c,.deadv,.deadv,cbc d]++rd 89++[.c (.ref ⟨⟨.slot 7,[]⟩,0,0⟩),cic e,cic f]++rd 88) [(.loc 10,[sc g,ic i,ic j,ic l,ic m,ic n]),(.loc 5,[ic o,.imm p,ic q,ic t,sc u,sc v,ic w]),(.par 0,[.imm x,.imm y,.imm z,ic k,ic h]),(.par 1,[ic c1,.own 1 r,.own 3 s])]
 |.h8 a b c d e f g i j l m n o p q t u v w x y z k h c1 r s=>Fk Y41 qvM (qwR c1) [1,1,1,1,1,1,1,1,1,1,1,1,0,1,0,4] ([pP 0,pP 1]++rd 3++[pL 5]++rd 4++[pL 10,cic a,cbc b,.deadv,.deadv,cbc c]++rd 111++[.c (.own 6 d),cic e,cic f]++rd 66) [(.loc 10,[sc g,ic i,ic j,ic l,ic m,ic n]),(.loc 5,[ic o,.imm p,ic q,ic t,sc u,sc v,ic w]),(.par 0,[.imm x,.imm y,.imm z,ic k,ic h]),(.par 1,[ic c1,.own 1 r,.own 3 s])]
 |.h9 a b c d e f g i j l m n o p q t u v w x y z k h c1 r s=>Fk Y41 qvM (qwR c1) [1,1,1,1,1,1,1,1,1,1,1,1,0,1,0,0,1,1,1,2] ([pP 0,pP 1]++rd 3++[pL 5]++rd 4++[pL 10,cic a,cbc b,.deadv,.deadv,cbc c]++rd 111++[.c (.own 6 d),cic e,cic f]++rd 66) [(.loc 10,[sc g,ic i,ic j,ic l,ic m,ic n]),(.loc 5,[ic o,.imm p,ic q,ic t,sc u,sc v,ic w]),(.par 0,[.imm x,.imm y,.imm z,ic k,ic h]),(.par 1,[ic c1,.own 1 r,.own 3 s])]
 |.h10 a b c d e f g i j l m n o p q t u v w x y z=>Fk Y41 qvM (qwR x) [1,1,1,1,1,1,1,1,1,1,1,1,1,1,1,1,2] ([pP 0]++rd 4++[pL 5]++rd 4++[pL 10]++rd 9++[.c (.ptr ⟨⟨.par 1,[(0,2),(c.toNat,2)]⟩,d.toNat,0⟩)]++rd 146++[cbc a]++rd 28) [(.loc 10,[sc b,ic c,ic d,ic e,ic f,ic g]),(.loc 5,[ic i,.imm j,ic l,ic m,sc n,sc o,ic p]),(.par 0,[.imm q,.imm t,.imm u,ic v,ic w]),(.par 1,[ic x,.own 1 y,.own 3 z])]
abbrev E41c (a:Int)(b:Rs)(c d:Int)(e f:By)(g:Int)(i j l:Rs)(m n o:Int)(p q:Rs)(r:R41c):Prop:=Ev Tryz.prog noHand 41 [pP 0,pP 1,.ag [ic a,.imm b,ic c,ic d,sc e,sc f,ic g]] [[.imm i,.imm j,.imm l,ic m,ic n],[ic o,.own 1 p,.own 3 q]] (qvM r) (qwR o r)
theorem qEM {a:Int}{b:Rs}{c d:Int}{e f:By}{g:Int}{i j l:Rs}{m n o:Int}{p q:Rs}{r:R41c}(h:P41c (.e a b c d e f g i j l m n o p q) r):E41c a b c d e f g i j l m n o p q r:=evF h
theorem qGg:∀ k s r,itS qu3 k s=some r->P41c s r:=qF λk rec B s r h=>match s,h with
 |.e ..,h=>by
  replace h:=qa h;rcases h with⟨a,h⟩|⟨a,h⟩
  . cases h;exact mF 2 [tT 25 a]
  . obtain⟨_,b,h⟩:=b6 h;replace h:=qa h;rcases h with⟨c,h⟩|⟨c,h⟩
    . obtain⟨_,d,h⟩:=b5 h;exact mA 2 (B _ _ h) 14 [tF 25 a,cA 28 (evI b),tT 30 c,cA 34 (evI d)] 196 100433627766186892221372630771322662657637687111424552206300
    . exact mA 2 (B _ _ h) 14 [tF 25 a,cA 28 (evI b),tF 30 c] 196 100433627766186892221372630771322662657637687111424552206300
 |.h0 ..,h=>by
  replace h:=qa h;rcases h with⟨a,h⟩|⟨a,h⟩
  . cases h;exact mF 2 [tT 39 a]
  . obtain⟨_,b,h⟩:=b4 h;replace h:=qa h;rcases h with⟨c,h⟩|⟨c,h⟩
    . exact mA 2 (B _ _ h) 16 [tF 39 a,cA 42 (evI b),tT 45 c] 196 100433627766186892221372630771322662657637683733724831678428
    . replace h:=YJ h;obtain⟨_,d,h⟩:=h;replace h:=qvK h;obtain⟨e,f,g,i,j,l,rfl,h⟩:=h;exact mA 2 (B _ _ h) 21 [tF 39 a,cA 42 (evI b),tF 45 c,⟨(some 77,.bnd),[_],⟨qot d,trivial⟩⟩,⟨(some 78,.ld [sc e,ic f,ic g,ic i,ic j,ic l]),[_],⟨d.2,trivial⟩⟩] 196 100433627766186892221372630771322658426397318460222440727388
 |.h1 _ a _ _ _ _ _ _ _ _ _ _ _ _ _ _ b,h=>by
  replace h:=qa h;rcases h with⟨d,h⟩|⟨d,h⟩
  .
   replace h:=YJ h;obtain⟨_,e,h⟩:=h;replace h:=qws h;obtain⟨f,g,i,rfl,h⟩:=h;replace h:=YJ h;obtain⟨_,j,h⟩:=h;replace h:=qu1 h;rcases h with⟨l,m,rfl,h⟩|⟨l,m,n,rfl,h⟩|⟨l,m,p,rfl,h⟩|⟨l,m,p,n,rfl,h⟩
   . replace h:=qh h;obtain⟨_,q,h⟩:=h;replace h:=qvq h;obtain⟨t,u,v,w,x,y,_,_,_,_,_,_,rfl,h⟩:=h;exact mA 2 (B _ _ h) 14 [tT 52 d,⟨(some 59,.bnd),[_],⟨qot e,trivial⟩⟩,⟨(some 61,.ld [ic f,ic g,.own 4 i]),[_],⟨e.2,trivial⟩⟩,⟨(some 62,.thru [(3,b)] (.row [.own 4 i])),[_,_,_],⟨qot j,qu5 (o:=2) e rfl,(rfl:some (Cell.own 3 b)=some (Cell.own 3 b)),trivial⟩⟩,⟨(some 9999,.fst [9] 10),[],trivial⟩,⟨(some 66,.thru [(3,b),(4,i)] (.ld [ic l,ic m,.nil,.nil])),[_,_,_],⟨j.2,(rfl:some (Cell.own 3 b)=some (Cell.own 3 b)),qu5 (o:=2) e rfl,trivial⟩⟩,cA 69 (evI q),⟨(none,.st),[_,_,_,_,_,_,_],⟨(cA70:∃ A,cellAt [Nz] 0 0=some A),(cA71:∃ A,cellAt [[ic t,ic 0,.nil,ic 0,.val (.int .u64 0),ic 0,ic 0]] 0 1=some A),(cA72:∃ A,cellAt [[ic t,ic u,.nil,ic 0,.val (.int .u64 0),ic 0,ic 0]] 0 2=some A),(cA73:∃ A,cellAt [[ic t,ic u,.imm v,ic 0,.val (.int .u64 0),ic 0,ic 0]] 0 3=some A),(cA74:∃ A,cellAt [[ic t,ic u,.imm v,ic w,.val (.int .u64 0),ic 0,ic 0]] 0 4=some A),(cA75:∃ A,cellAt [[ic t,ic u,.imm v,ic w,.val (.int .u64 x),ic 0,ic 0]] 0 5=some A),(cA76:∃ A,cellAt [[ic t,ic u,.imm v,ic w,.val (.int .u64 x),ic y,ic 0]] 0 6=some A),trivial⟩⟩,⟨(none,.thru [(3,b),(4,i)] .st),[_,_,_],⟨xk (o:=2) j rfl,(rfl:some (Cell.own 3 b)=some (Cell.own 3 b)),qu5 (o:=2) e rfl,trivial⟩⟩] 196 100433627766186892221372630771322662657637683733724831678428 (e:=by as_aux_lemma=>kernel_rfl)
   . replace h:=qh h;obtain⟨_,q,h⟩:=h;replace h:=qvq h;obtain⟨t,u,v,w,x,y,_,_,_,_,_,_,rfl,h⟩:=h;exact mA 2 (B _ _ h) 14 [tT 52 d,⟨(some 59,.bnd),[_],⟨qot e,trivial⟩⟩,⟨(some 61,.ld [ic f,ic g,.own 4 i]),[_],⟨e.2,trivial⟩⟩,⟨(some 62,.thru [(3,b)] (.row [.own 4 i])),[_,_,_],⟨qot j,qu5 (o:=2) e rfl,(rfl:some (Cell.own 3 b)=some (Cell.own 3 b)),trivial⟩⟩,⟨(some 9999,.fst [9] 10),[],trivial⟩,⟨(some 66,.thru [(3,b),(4,i)] (.ld [ic l,ic m,.nil,.own 7 n])),[_,_,_],⟨j.2,(rfl:some (Cell.own 3 b)=some (Cell.own 3 b)),qu5 (o:=2) e rfl,trivial⟩⟩,cA 69 (evI q),⟨(none,.st),[_,_,_,_,_,_,_],⟨(cA70:∃ A,cellAt [Nz] 0 0=some A),(cA71:∃ A,cellAt [[ic t,ic 0,.nil,ic 0,.val (.int .u64 0),ic 0,ic 0]] 0 1=some A),(cA72:∃ A,cellAt [[ic t,ic u,.nil,ic 0,.val (.int .u64 0),ic 0,ic 0]] 0 2=some A),(cA73:∃ A,cellAt [[ic t,ic u,.imm v,ic 0,.val (.int .u64 0),ic 0,ic 0]] 0 3=some A),(cA74:∃ A,cellAt [[ic t,ic u,.imm v,ic w,.val (.int .u64 0),ic 0,ic 0]] 0 4=some A),(cA75:∃ A,cellAt [[ic t,ic u,.imm v,ic w,.val (.int .u64 x),ic 0,ic 0]] 0 5=some A),(cA76:∃ A,cellAt [[ic t,ic u,.imm v,ic w,.val (.int .u64 x),ic y,ic 0]] 0 6=some A),trivial⟩⟩,⟨(none,.thru [(3,b),(4,i)] .st),[_,_,_],⟨xk (o:=2) j rfl,(rfl:some (Cell.own 3 b)=some (Cell.own 3 b)),qu5 (o:=2) e rfl,trivial⟩⟩] 196 100433627766186892221372630771322662657637683733724831678428 (e:=by as_aux_lemma=>kernel_rfl)
   . replace h:=qh h;obtain⟨_,q,h⟩:=h;replace h:=qvq h;obtain⟨t,u,v,w,x,y,_,_,_,_,_,_,rfl,h⟩:=h;replace h:=zo h;obtain⟨z,h⟩:=h;exact mA 2 (B _ _ h) 14 [tT 52 d,⟨(some 59,.bnd),[_],⟨qot e,trivial⟩⟩,⟨(some 61,.ld [ic f,ic g,.own 4 i]),[_],⟨e.2,trivial⟩⟩,⟨(some 62,.thru [(3,b)] (.row [.own 4 i])),[_,_,_],⟨qot j,qu5 (o:=2) e rfl,(rfl:some (Cell.own 3 b)=some (Cell.own 3 b)),trivial⟩⟩,⟨(some 9999,.fst [9] 10),[],trivial⟩,⟨(some 66,.thru [(3,b),(4,i)] (.ld [ic l,ic m,.own 7 p,.nil])),[_,_,_],⟨j.2,(rfl:some (Cell.own 3 b)=some (Cell.own 3 b)),qu5 (o:=2) e rfl,trivial⟩⟩,cA 69 (evI q),⟨(some 70,.thru [(3,b),(4,i)] (.row [.own 7 p])),[_,_,_],⟨qu5 (o:=2) j rfl,(rfl:some (Cell.own 3 b)=some (Cell.own 3 b)),qu5 (o:=2) e rfl,trivial⟩⟩,⟨(some 72,.thru [(3,b),(4,i)] (.okO p false)),[_,_,_,_,_,_],⟨qu5 (o:=2) j rfl,(rfl:some (AV.c (.ref ⟨⟨.par 1,[(0,2),(a.toNat,2)]⟩,0,2⟩))=some (AV.c (.ref ⟨⟨.par 1,[(0,2),(a.toNat,2)]⟩,0,2⟩))),xk (o:=2) j rfl,(rfl:some (Cell.own 3 b)=some (Cell.own 3 b)),qu5 (o:=2) e rfl,okF [Nz] z,trivial⟩⟩,⟨(some 73,.bnd),[_],⟨qot (xw (X:=p) (r:=Nz)),trivial⟩⟩,⟨(none,.st),[_,_,_,_,_,_,_],⟨xk (o:=0) (xw (X:=p) (r:=Nz)) rfl,xk (o:=1) (zf (o:=0) (c:=ic t) (xw (X:=p) (r:=Nz))) rfl,xk (o:=2) (zf (o:=1) (c:=ic u) (zf (o:=0) (c:=ic t) (xw (X:=p) (r:=Nz)))) rfl,xk (o:=3) (zf (o:=2) (c:=.imm v) (zf (o:=1) (c:=ic u) (zf (o:=0) (c:=ic t) (xw (X:=p) (r:=Nz))))) rfl,xk (o:=4) (zf (o:=3) (c:=ic w) (zf (o:=2) (c:=.imm v) (zf (o:=1) (c:=ic u) (zf (o:=0) (c:=ic t) (xw (X:=p) (r:=Nz)))))) rfl,xk (o:=5) (zf (o:=4) (c:=.val (.int .u64 x)) (zf (o:=3) (c:=ic w) (zf (o:=2) (c:=.imm v) (zf (o:=1) (c:=ic u) (zf (o:=0) (c:=ic t) (xw (X:=p) (r:=Nz))))))) rfl,xk (o:=6) (zf (o:=5) (c:=ic y) (zf (o:=4) (c:=.val (.int .u64 x)) (zf (o:=3) (c:=ic w) (zf (o:=2) (c:=.imm v) (zf (o:=1) (c:=ic u) (zf (o:=0) (c:=ic t) (xw (X:=p) (r:=Nz)))))))) rfl,trivial⟩⟩,⟨(none,.thru [(3,setRow b a.toNat 2 (.own 4 (setRow i 0 2 .dead))),(4,setRow i 0 2 .dead)] .st),[_,_,_],⟨xk (o:=2) (zf (o:=2) (c:=.dead) j) rfl,(rfl:some (Cell.own 3 (setRow b a.toNat 2 (.own 4 (setRow i 0 2 .dead))))=some (Cell.own 3 (setRow b a.toNat 2 (.own 4 (setRow i 0 2 .dead))))),qu5 (o:=2) (zf (o:=2) (c:=.own 4 (setRow i 0 2 .dead)) e) rfl,trivial⟩⟩] 196 100433627766186892221372630771322662657637683733724831678428 (e:=by as_aux_lemma=>kernel_rfl)
   . replace h:=qh h;obtain⟨_,q,h⟩:=h;replace h:=qvq h;obtain⟨t,u,v,w,x,y,_,_,_,_,_,_,rfl,h⟩:=h;replace h:=zo h;obtain⟨z,h⟩:=h;exact mA 2 (B _ _ h) 14 [tT 52 d,⟨(some 59,.bnd),[_],⟨qot e,trivial⟩⟩,⟨(some 61,.ld [ic f,ic g,.own 4 i]),[_],⟨e.2,trivial⟩⟩,⟨(some 62,.thru [(3,b)] (.row [.own 4 i])),[_,_,_],⟨qot j,qu5 (o:=2) e rfl,(rfl:some (Cell.own 3 b)=some (Cell.own 3 b)),trivial⟩⟩,⟨(some 9999,.fst [9] 10),[],trivial⟩,⟨(some 66,.thru [(3,b),(4,i)] (.ld [ic l,ic m,.own 7 p,.own 7 n])),[_,_,_],⟨j.2,(rfl:some (Cell.own 3 b)=some (Cell.own 3 b)),qu5 (o:=2) e rfl,trivial⟩⟩,cA 69 (evI q),⟨(some 70,.thru [(3,b),(4,i)] (.row [.own 7 p])),[_,_,_],⟨qu5 (o:=2) j rfl,(rfl:some (Cell.own 3 b)=some (Cell.own 3 b)),qu5 (o:=2) e rfl,trivial⟩⟩,⟨(some 72,.thru [(3,b),(4,i)] (.okO p false)),[_,_,_,_,_,_],⟨qu5 (o:=2) j rfl,(rfl:some (AV.c (.ref ⟨⟨.par 1,[(0,2),(a.toNat,2)]⟩,0,2⟩))=some (AV.c (.ref ⟨⟨.par 1,[(0,2),(a.toNat,2)]⟩,0,2⟩))),xk (o:=2) j rfl,(rfl:some (Cell.own 3 b)=some (Cell.own 3 b)),qu5 (o:=2) e rfl,okF [Nz] z,trivial⟩⟩,⟨(some 73,.bnd),[_],⟨qot (xw (X:=p) (r:=Nz)),trivial⟩⟩,⟨(none,.st),[_,_,_,_,_,_,_],⟨xk (o:=0) (xw (X:=p) (r:=Nz)) rfl,xk (o:=1) (zf (o:=0) (c:=ic t) (xw (X:=p) (r:=Nz))) rfl,xk (o:=2) (zf (o:=1) (c:=ic u) (zf (o:=0) (c:=ic t) (xw (X:=p) (r:=Nz)))) rfl,xk (o:=3) (zf (o:=2) (c:=.imm v) (zf (o:=1) (c:=ic u) (zf (o:=0) (c:=ic t) (xw (X:=p) (r:=Nz))))) rfl,xk (o:=4) (zf (o:=3) (c:=ic w) (zf (o:=2) (c:=.imm v) (zf (o:=1) (c:=ic u) (zf (o:=0) (c:=ic t) (xw (X:=p) (r:=Nz)))))) rfl,xk (o:=5) (zf (o:=4) (c:=.val (.int .u64 x)) (zf (o:=3) (c:=ic w) (zf (o:=2) (c:=.imm v) (zf (o:=1) (c:=ic u) (zf (o:=0) (c:=ic t) (xw (X:=p) (r:=Nz))))))) rfl,xk (o:=6) (zf (o:=5) (c:=ic y) (zf (o:=4) (c:=.val (.int .u64 x)) (zf (o:=3) (c:=ic w) (zf (o:=2) (c:=.imm v) (zf (o:=1) (c:=ic u) (zf (o:=0) (c:=ic t) (xw (X:=p) (r:=Nz)))))))) rfl,trivial⟩⟩,⟨(none,.thru [(3,setRow b a.toNat 2 (.own 4 (setRow i 0 2 .dead))),(4,setRow i 0 2 .dead)] .st),[_,_,_],⟨xk (o:=2) (zf (o:=2) (c:=.dead) j) rfl,(rfl:some (Cell.own 3 (setRow b a.toNat 2 (.own 4 (setRow i 0 2 .dead))))=some (Cell.own 3 (setRow b a.toNat 2 (.own 4 (setRow i 0 2 .dead))))),qu5 (o:=2) (zf (o:=2) (c:=.own 4 (setRow i 0 2 .dead)) e) rfl,trivial⟩⟩] 196 100433627766186892221372630771322662657637683733724831678428 (e:=by as_aux_lemma=>kernel_rfl)
  . cases h;exact mF 2 [tF 52 d]
 |.h2 ..,h=>by
  replace h:=qa h;rcases h with⟨a,h⟩|⟨a,h⟩
  . replace h:=YJ h;obtain⟨_,b,h⟩:=h;replace h:=qvK h;obtain⟨c,d,e,f,g,i,rfl,h⟩:=h;replace h:=qa h;rcases h with⟨j,h⟩|⟨j,h⟩
    . exact mA 2 (B _ _ h) 15 [tT 82 a,⟨(some 83,.bnd),[_],⟨qot b,trivial⟩⟩,⟨(some 84,.ld [sc c,ic d,ic e,ic f,ic g,ic i]),[_],⟨b.2,trivial⟩⟩,tT 89 j] 196 100433627766186892221372630771322658426397318460222440711004
    . exact mA 2 (B _ _ h) 15 [tT 82 a,⟨(some 83,.bnd),[_],⟨qot b,trivial⟩⟩,⟨(some 84,.ld [sc c,ic d,ic e,ic f,ic g,ic i]),[_],⟨b.2,trivial⟩⟩,tF 89 j] 196 100433627766186892221372630771322658426397318460222440711004
  . exact mA 2 (B _ _ h) 13 [tF 82 a] 196 100433627766186892221372630487368928206514301176163034162012
 |.h3 ..,h=>by exact mA 2 (B _ _ h) 1 [] 196 100433627766186892221372630771322662657637683733724831678428
 |.h4 ..,h=>by
  replace h:=qa h;rcases h with⟨rfl,h⟩|⟨rfl,h⟩
  . replace h:=YJ h;obtain⟨_,a,h⟩:=h;replace h:=qvK h;obtain⟨b,c,d,e,f,g,rfl,h⟩:=h;exact mG 2 (B _ _ h) 2 [⟨(some 96,.bnd),[_],⟨qot a,trivial⟩⟩,⟨(some 98,.ld [sc b,ic c,ic d,ic e,ic f,ic g]),[_],⟨a.2,trivial⟩⟩] 196 100433627766186892221372630771322658426397318460222440727388 [14] []
  . exact mG 2 (B _ _ h) 2 [] 196 100433627766186892221372630771322658426397318460222440727388 [14] []
 |.h5 ..,h=>by
  replace h:=qa h;rcases h with⟨a,h⟩|⟨a,h⟩
  .
   replace h:=YJ h;obtain⟨_,b,h⟩:=h;replace h:=qvK h;obtain⟨c,d,e,f,g,i,rfl,h⟩:=h;replace h:=qa h;rcases h with⟨j,h⟩|⟨j,h⟩
   . replace h:=qa h;rcases h with⟨rfl,h⟩|⟨rfl,h⟩
     . exact mG 2 (B _ _ h) 17 [tT 108 a,⟨(some 109,.bnd),[_],⟨qot b,trivial⟩⟩,⟨(some 110,.ld [sc c,ic d,ic e,ic f,ic g,ic i]),[_],⟨b.2,trivial⟩⟩,tT 113 j] 196 100433627766186892221372630487368928206514301176163034162012 [17] []
     . exact mG 2 (B _ _ h) 17 [tT 108 a,⟨(some 109,.bnd),[_],⟨qot b,trivial⟩⟩,⟨(some 110,.ld [sc c,ic d,ic e,ic f,ic g,ic i]),[_],⟨b.2,trivial⟩⟩,tT 113 j] 196 100433627766186892221372630487368928206514301176163034162012 [17] []
   . exact mG 2 (B _ _ h) 15 [tT 108 a,⟨(some 109,.bnd),[_],⟨qot b,trivial⟩⟩,⟨(some 110,.ld [sc c,ic d,ic e,ic f,ic g,ic i]),[_],⟨b.2,trivial⟩⟩,tF 113 j] 196 100433627766186892221372630487368928206514301176163034162012 [17] []
  . obtain⟨_,b,h⟩:=b4 h;exact mA 2 (B _ _ h) 11 [tF 108 a,cA 127 (evI b)] 196 100433627766186892220181642487099378035515875985413363426268
 |.h6 ..,h=>by exact mA 2 (B _ _ h) 1 [] 196 100433627766186892221372630771322658426397318460222440727388
 |.h7 ..,h=>by exact mA 2 (B _ _ h) 1 [] 196 100433627766186892221372630487368928206514301176163034162012
 |.h8 _ _ _ _ _ _ _ _ _ _ _ _ _ _ _ _ _ _ _ _ _ _ _ _ _ _ a,h=>by
  replace h:=qa h;rcases h with⟨b,h⟩|⟨b,h⟩
  .
   replace h:=YJ h;obtain⟨_,c,h⟩:=h;replace h:=qvK h;obtain⟨d,e,f,g,i,j,rfl,h⟩:=h;replace h:=qa h;rcases h with⟨l,h⟩|⟨l,h⟩
   .
    replace h:=qa h;rcases h with⟨rfl,h⟩|⟨rfl,h⟩
    . replace h:=qa h;rcases h with⟨m,h⟩|⟨m,h⟩
      . exact mG 2 (B _ _ h) 17 [tT 130 b,⟨(some 131,.bnd),[_],⟨qot c,trivial⟩⟩,⟨(some 132,.ld [sc d,ic e,ic f,ic g,ic i,ic j]),[_],⟨c.2,trivial⟩⟩,tT 135 l,tT 139 m] 196 100433627766186892220181642487099378035515875985413363426268 [19] []
      . exact mG 2 (B _ _ h) 17 [tT 130 b,⟨(some 131,.bnd),[_],⟨qot c,trivial⟩⟩,⟨(some 132,.ld [sc d,ic e,ic f,ic g,ic i,ic j]),[_],⟨c.2,trivial⟩⟩,tT 135 l,tF 139 m] 196 100433627766186892220181642487099378035515875985413363426268 [19] []
    . exact mG 2 (B _ _ h) 17 [tT 130 b,⟨(some 131,.bnd),[_],⟨qot c,trivial⟩⟩,⟨(some 132,.ld [sc d,ic e,ic f,ic g,ic i,ic j]),[_],⟨c.2,trivial⟩⟩,tT 135 l] 196 100433627766186892220181642487099378035515875985413363426268 [19] []
   . exact mG 2 (B _ _ h) 15 [tT 130 b,⟨(some 131,.bnd),[_],⟨qot c,trivial⟩⟩,⟨(some 132,.ld [sc d,ic e,ic f,ic g,ic i,ic j]),[_],⟨c.2,trivial⟩⟩,tF 135 l] 196 100433627766186892220181642487099378035515875985413363426268 [19] []
  .
   replace h:=qa h;rcases h with⟨n,h⟩|⟨n,h⟩
   . obtain⟨_,p,h⟩:=b5 h;cases h;exact mF 2 [tF 130 b,tT 150 n,cA 154 (evI p)]
   .
    replace h:=YJ h;obtain⟨_,p,h⟩:=h;replace h:=qws h;obtain⟨q,t,u,rfl,h⟩:=h;replace h:=YJ h;obtain⟨_,v,h⟩:=h;replace h:=qu1 h;rcases h with⟨_,_,rfl,h⟩|⟨_,_,_,rfl,h⟩|⟨_,_,_,rfl,h⟩|⟨_,_,_,_,rfl,h⟩
    . exact mA 2 (B _ _ h) 15 [tF 130 b,tF 150 n,⟨(some 161,.bnd),[_],⟨qot p,trivial⟩⟩,⟨(some 163,.ld [ic q,ic t,.own 4 u]),[_],⟨p.2,trivial⟩⟩,⟨(some 166,.thru [(3,a)] (.row [.own 4 u])),[_,_,_],⟨qot v,qu5 (o:=2) p rfl,(rfl:some (Cell.own 3 a)=some (Cell.own 3 a)),trivial⟩⟩] 196 100433627579114682643017057241251004069953460595465185655774
    . exact mA 2 (B _ _ h) 15 [tF 130 b,tF 150 n,⟨(some 161,.bnd),[_],⟨qot p,trivial⟩⟩,⟨(some 163,.ld [ic q,ic t,.own 4 u]),[_],⟨p.2,trivial⟩⟩,⟨(some 166,.thru [(3,a)] (.row [.own 4 u])),[_,_,_],⟨qot v,qu5 (o:=2) p rfl,(rfl:some (Cell.own 3 a)=some (Cell.own 3 a)),trivial⟩⟩] 196 100433627579114682643017057241251004069953460595465185655774
    . exact mA 2 (B _ _ h) 15 [tF 130 b,tF 150 n,⟨(some 161,.bnd),[_],⟨qot p,trivial⟩⟩,⟨(some 163,.ld [ic q,ic t,.own 4 u]),[_],⟨p.2,trivial⟩⟩,⟨(some 166,.thru [(3,a)] (.row [.own 4 u])),[_,_,_],⟨qot v,qu5 (o:=2) p rfl,(rfl:some (Cell.own 3 a)=some (Cell.own 3 a)),trivial⟩⟩] 196 100433627579114682643017057241251004069953460595465185655774
    . exact mA 2 (B _ _ h) 15 [tF 130 b,tF 150 n,⟨(some 161,.bnd),[_],⟨qot p,trivial⟩⟩,⟨(some 163,.ld [ic q,ic t,.own 4 u]),[_],⟨p.2,trivial⟩⟩,⟨(some 166,.thru [(3,a)] (.row [.own 4 u])),[_,_,_],⟨qot v,qu5 (o:=2) p rfl,(rfl:some (Cell.own 3 a)=some (Cell.own 3 a)),trivial⟩⟩] 196 100433627579114682643017057241251004069953460595465185655774
 |.h9 ..,h=>by exact mA 2 (B _ _ h) 1 [] 196 100433627766186892220181642487099378035515875985413363426268
 |.h10 _ _ a b _ _ _ _ _ _ _ _ _ _ _ _ _ _ _ _ _ d,h=>by
  replace h:=qa h;rcases h with⟨rfl,h⟩|⟨rfl,h⟩
  .
   replace h:=YJ h;obtain⟨_,e,h⟩:=h;replace h:=qws h;obtain⟨_,_,f,rfl,h⟩:=h;replace h:=YJ h;obtain⟨_,g,h⟩:=h;replace h:=qu1 h;rcases h with⟨i,j,rfl,h⟩|⟨i,j,l,rfl,h⟩|⟨i,j,m,rfl,h⟩|⟨i,j,m,l,rfl,h⟩
   . replace h:=qh h;obtain⟨_,n,h⟩:=h;replace h:=qvq h;obtain⟨p,q,t,u,v,w,_,_,_,_,_,_,rfl,h⟩:=h;cases h;exact mF 2 [⟨(some 9999,.fst [12] 13),[],trivial⟩,⟨(some 171,.thru [(3,d),(4,f)] (.ld [ic i,ic j,.nil,.nil])),[_,_,_],⟨g.2,(rfl:some (Cell.own 3 d)=some (Cell.own 3 d)),qu5 (o:=2) e rfl,trivial⟩⟩,cA 176 (evI n),⟨(none,.st),[_,_,_,_,_,_,_],⟨(cA70:∃ A,cellAt [Nz] 0 0=some A),(cA71:∃ A,cellAt [[ic p,ic 0,.nil,ic 0,.val (.int .u64 0),ic 0,ic 0]] 0 1=some A),(cA72:∃ A,cellAt [[ic p,ic q,.nil,ic 0,.val (.int .u64 0),ic 0,ic 0]] 0 2=some A),(cA73:∃ A,cellAt [[ic p,ic q,.imm t,ic 0,.val (.int .u64 0),ic 0,ic 0]] 0 3=some A),(cA74:∃ A,cellAt [[ic p,ic q,.imm t,ic u,.val (.int .u64 0),ic 0,ic 0]] 0 4=some A),(cA75:∃ A,cellAt [[ic p,ic q,.imm t,ic u,.val (.int .u64 v),ic 0,ic 0]] 0 5=some A),(cA76:∃ A,cellAt [[ic p,ic q,.imm t,ic u,.val (.int .u64 v),ic w,ic 0]] 0 6=some A),trivial⟩⟩,⟨(none,.thru [(3,d),(4,f)] .st),[_,_,_],⟨xk (o:=2) g rfl,(rfl:some (Cell.own 3 d)=some (Cell.own 3 d)),qu5 (o:=2) e rfl,trivial⟩⟩] (e:=by as_aux_lemma=>kernel_rfl)
   . replace h:=qh h;obtain⟨_,n,h⟩:=h;replace h:=qvq h;obtain⟨p,q,t,u,v,w,_,_,_,_,_,_,rfl,h⟩:=h;cases h;exact mF 2 [⟨(some 9999,.fst [12] 13),[],trivial⟩,⟨(some 171,.thru [(3,d),(4,f)] (.ld [ic i,ic j,.nil,.own 7 l])),[_,_,_],⟨g.2,(rfl:some (Cell.own 3 d)=some (Cell.own 3 d)),qu5 (o:=2) e rfl,trivial⟩⟩,cA 176 (evI n),⟨(none,.st),[_,_,_,_,_,_,_],⟨(cA70:∃ A,cellAt [Nz] 0 0=some A),(cA71:∃ A,cellAt [[ic p,ic 0,.nil,ic 0,.val (.int .u64 0),ic 0,ic 0]] 0 1=some A),(cA72:∃ A,cellAt [[ic p,ic q,.nil,ic 0,.val (.int .u64 0),ic 0,ic 0]] 0 2=some A),(cA73:∃ A,cellAt [[ic p,ic q,.imm t,ic 0,.val (.int .u64 0),ic 0,ic 0]] 0 3=some A),(cA74:∃ A,cellAt [[ic p,ic q,.imm t,ic u,.val (.int .u64 0),ic 0,ic 0]] 0 4=some A),(cA75:∃ A,cellAt [[ic p,ic q,.imm t,ic u,.val (.int .u64 v),ic 0,ic 0]] 0 5=some A),(cA76:∃ A,cellAt [[ic p,ic q,.imm t,ic u,.val (.int .u64 v),ic w,ic 0]] 0 6=some A),trivial⟩⟩,⟨(none,.thru [(3,d),(4,f)] .st),[_,_,_],⟨xk (o:=2) g rfl,(rfl:some (Cell.own 3 d)=some (Cell.own 3 d)),qu5 (o:=2) e rfl,trivial⟩⟩] (e:=by as_aux_lemma=>kernel_rfl)
   . replace h:=qh h;obtain⟨_,n,h⟩:=h;replace h:=qvq h;obtain⟨p,q,t,u,v,w,_,_,_,_,_,_,rfl,h⟩:=h;replace h:=zo h;obtain⟨x,h⟩:=h;cases h;exact mF 2 [⟨(some 9999,.fst [12] 13),[],trivial⟩,⟨(some 171,.thru [(3,d),(4,f)] (.ld [ic i,ic j,.own 7 m,.nil])),[_,_,_],⟨g.2,(rfl:some (Cell.own 3 d)=some (Cell.own 3 d)),qu5 (o:=2) e rfl,trivial⟩⟩,cA 176 (evI n),⟨(some 177,.thru [(3,d),(4,f)] (.row [.own 7 m])),[_,_,_],⟨qu5 (o:=2) g rfl,(rfl:some (Cell.own 3 d)=some (Cell.own 3 d)),qu5 (o:=2) e rfl,trivial⟩⟩,⟨(some 179,.thru [(3,d),(4,f)] (.okO m false)),[_,_,_,_,_,_],⟨qu5 (o:=2) g rfl,(rfl:some (AV.c (.ref ⟨⟨.par 1,[(0,2),(a.toNat,2)]⟩,b.toNat,2⟩))=some (AV.c (.ref ⟨⟨.par 1,[(0,2),(a.toNat,2)]⟩,b.toNat,2⟩))),xk (o:=2) g rfl,(rfl:some (Cell.own 3 d)=some (Cell.own 3 d)),qu5 (o:=2) e rfl,okF [Nz] x,trivial⟩⟩,⟨(some 180,.bnd),[_],⟨qot (xw (X:=m) (r:=Nz)),trivial⟩⟩,⟨(none,.st),[_,_,_,_,_,_,_],⟨xk (o:=0) (xw (X:=m) (r:=Nz)) rfl,xk (o:=1) (zf (o:=0) (c:=ic p) (xw (X:=m) (r:=Nz))) rfl,xk (o:=2) (zf (o:=1) (c:=ic q) (zf (o:=0) (c:=ic p) (xw (X:=m) (r:=Nz)))) rfl,xk (o:=3) (zf (o:=2) (c:=.imm t) (zf (o:=1) (c:=ic q) (zf (o:=0) (c:=ic p) (xw (X:=m) (r:=Nz))))) rfl,xk (o:=4) (zf (o:=3) (c:=ic u) (zf (o:=2) (c:=.imm t) (zf (o:=1) (c:=ic q) (zf (o:=0) (c:=ic p) (xw (X:=m) (r:=Nz)))))) rfl,xk (o:=5) (zf (o:=4) (c:=.val (.int .u64 v)) (zf (o:=3) (c:=ic u) (zf (o:=2) (c:=.imm t) (zf (o:=1) (c:=ic q) (zf (o:=0) (c:=ic p) (xw (X:=m) (r:=Nz))))))) rfl,xk (o:=6) (zf (o:=5) (c:=ic w) (zf (o:=4) (c:=.val (.int .u64 v)) (zf (o:=3) (c:=ic u) (zf (o:=2) (c:=.imm t) (zf (o:=1) (c:=ic q) (zf (o:=0) (c:=ic p) (xw (X:=m) (r:=Nz)))))))) rfl,trivial⟩⟩,⟨(none,.thru [(3,setRow d a.toNat 2 (.own 4 (setRow f b.toNat 2 .dead))),(4,setRow f b.toNat 2 .dead)] .st),[_,_,_],⟨xk (o:=2) (zf (o:=2) (c:=.dead) g) rfl,(rfl:some (Cell.own 3 (setRow d a.toNat 2 (.own 4 (setRow f b.toNat 2 .dead))))=some (Cell.own 3 (setRow d a.toNat 2 (.own 4 (setRow f b.toNat 2 .dead))))),qu5 (o:=2) (zf (o:=2) (c:=.own 4 (setRow f b.toNat 2 .dead)) e) rfl,trivial⟩⟩] (e:=by as_aux_lemma=>kernel_rfl)
   . replace h:=qh h;obtain⟨_,n,h⟩:=h;replace h:=qvq h;obtain⟨p,q,t,u,v,w,_,_,_,_,_,_,rfl,h⟩:=h;replace h:=zo h;obtain⟨x,h⟩:=h;cases h;exact mF 2 [⟨(some 9999,.fst [12] 13),[],trivial⟩,⟨(some 171,.thru [(3,d),(4,f)] (.ld [ic i,ic j,.own 7 m,.own 7 l])),[_,_,_],⟨g.2,(rfl:some (Cell.own 3 d)=some (Cell.own 3 d)),qu5 (o:=2) e rfl,trivial⟩⟩,cA 176 (evI n),⟨(some 177,.thru [(3,d),(4,f)] (.row [.own 7 m])),[_,_,_],⟨qu5 (o:=2) g rfl,(rfl:some (Cell.own 3 d)=some (Cell.own 3 d)),qu5 (o:=2) e rfl,trivial⟩⟩,⟨(some 179,.thru [(3,d),(4,f)] (.okO m false)),[_,_,_,_,_,_],⟨qu5 (o:=2) g rfl,(rfl:some (AV.c (.ref ⟨⟨.par 1,[(0,2),(a.toNat,2)]⟩,b.toNat,2⟩))=some (AV.c (.ref ⟨⟨.par 1,[(0,2),(a.toNat,2)]⟩,b.toNat,2⟩))),xk (o:=2) g rfl,(rfl:some (Cell.own 3 d)=some (Cell.own 3 d)),qu5 (o:=2) e rfl,okF [Nz] x,trivial⟩⟩,⟨(some 180,.bnd),[_],⟨qot (xw (X:=m) (r:=Nz)),trivial⟩⟩,⟨(none,.st),[_,_,_,_,_,_,_],⟨xk (o:=0) (xw (X:=m) (r:=Nz)) rfl,xk (o:=1) (zf (o:=0) (c:=ic p) (xw (X:=m) (r:=Nz))) rfl,xk (o:=2) (zf (o:=1) (c:=ic q) (zf (o:=0) (c:=ic p) (xw (X:=m) (r:=Nz)))) rfl,xk (o:=3) (zf (o:=2) (c:=.imm t) (zf (o:=1) (c:=ic q) (zf (o:=0) (c:=ic p) (xw (X:=m) (r:=Nz))))) rfl,xk (o:=4) (zf (o:=3) (c:=ic u) (zf (o:=2) (c:=.imm t) (zf (o:=1) (c:=ic q) (zf (o:=0) (c:=ic p) (xw (X:=m) (r:=Nz)))))) rfl,xk (o:=5) (zf (o:=4) (c:=.val (.int .u64 v)) (zf (o:=3) (c:=ic u) (zf (o:=2) (c:=.imm t) (zf (o:=1) (c:=ic q) (zf (o:=0) (c:=ic p) (xw (X:=m) (r:=Nz))))))) rfl,xk (o:=6) (zf (o:=5) (c:=ic w) (zf (o:=4) (c:=.val (.int .u64 v)) (zf (o:=3) (c:=ic u) (zf (o:=2) (c:=.imm t) (zf (o:=1) (c:=ic q) (zf (o:=0) (c:=ic p) (xw (X:=m) (r:=Nz)))))))) rfl,trivial⟩⟩,⟨(none,.thru [(3,setRow d a.toNat 2 (.own 4 (setRow f b.toNat 2 .dead))),(4,setRow f b.toNat 2 .dead)] .st),[_,_,_],⟨xk (o:=2) (zf (o:=2) (c:=.dead) g) rfl,(rfl:some (Cell.own 3 (setRow d a.toNat 2 (.own 4 (setRow f b.toNat 2 .dead))))=some (Cell.own 3 (setRow d a.toNat 2 (.own 4 (setRow f b.toNat 2 .dead))))),qu5 (o:=2) (zf (o:=2) (c:=.own 4 (setRow f b.toNat 2 .dead)) e) rfl,trivial⟩⟩] (e:=by as_aux_lemma=>kernel_rfl)
  .
   replace h:=YJ h;obtain⟨_,e,h⟩:=h;replace h:=qws h;obtain⟨_,_,f,rfl,h⟩:=h;replace h:=YJ h;obtain⟨_,g,h⟩:=h;replace h:=qu1 h;rcases h with⟨i,j,rfl,h⟩|⟨i,j,l,rfl,h⟩|⟨i,j,m,rfl,h⟩|⟨i,j,m,l,rfl,h⟩
   . replace h:=qh h;obtain⟨_,n,h⟩:=h;replace h:=qvq h;obtain⟨p,q,t,u,v,w,_,_,_,_,_,_,rfl,h⟩:=h;cases h;exact mF 2 [⟨(some 9999,.fst [10] 11),[],trivial⟩,⟨(some 186,.thru [(3,d),(4,f)] (.ld [ic i,ic j,.nil,.nil])),[_,_,_],⟨g.2,(rfl:some (Cell.own 3 d)=some (Cell.own 3 d)),qu5 (o:=2) e rfl,trivial⟩⟩,cA 189 (evI n),⟨(none,.st),[_,_,_,_,_,_,_],⟨(cA70:∃ A,cellAt [Nz] 0 0=some A),(cA71:∃ A,cellAt [[ic p,ic 0,.nil,ic 0,.val (.int .u64 0),ic 0,ic 0]] 0 1=some A),(cA72:∃ A,cellAt [[ic p,ic q,.nil,ic 0,.val (.int .u64 0),ic 0,ic 0]] 0 2=some A),(cA73:∃ A,cellAt [[ic p,ic q,.imm t,ic 0,.val (.int .u64 0),ic 0,ic 0]] 0 3=some A),(cA74:∃ A,cellAt [[ic p,ic q,.imm t,ic u,.val (.int .u64 0),ic 0,ic 0]] 0 4=some A),(cA75:∃ A,cellAt [[ic p,ic q,.imm t,ic u,.val (.int .u64 v),ic 0,ic 0]] 0 5=some A),(cA76:∃ A,cellAt [[ic p,ic q,.imm t,ic u,.val (.int .u64 v),ic w,ic 0]] 0 6=some A),trivial⟩⟩,⟨(none,.thru [(3,d),(4,f)] .st),[_,_,_],⟨xk (o:=3) g rfl,(rfl:some (Cell.own 3 d)=some (Cell.own 3 d)),qu5 (o:=2) e rfl,trivial⟩⟩] (e:=by as_aux_lemma=>kernel_rfl)
   . replace h:=qh h;obtain⟨_,n,h⟩:=h;replace h:=qvq h;obtain⟨p,q,t,u,v,w,_,_,_,_,_,_,rfl,h⟩:=h;replace h:=zo h;obtain⟨x,h⟩:=h;cases h;exact mF 2 [⟨(some 9999,.fst [10] 11),[],trivial⟩,⟨(some 186,.thru [(3,d),(4,f)] (.ld [ic i,ic j,.nil,.own 7 l])),[_,_,_],⟨g.2,(rfl:some (Cell.own 3 d)=some (Cell.own 3 d)),qu5 (o:=2) e rfl,trivial⟩⟩,cA 189 (evI n),⟨(some 190,.thru [(3,d),(4,f)] (.row [.own 7 l])),[_,_,_],⟨qu5 (o:=3) g rfl,(rfl:some (Cell.own 3 d)=some (Cell.own 3 d)),qu5 (o:=2) e rfl,trivial⟩⟩,⟨(some 192,.thru [(3,d),(4,f)] (.okO l false)),[_,_,_,_,_,_],⟨qu5 (o:=3) g rfl,(rfl:some (AV.c (.ref ⟨⟨.par 1,[(0,2),(a.toNat,2)]⟩,b.toNat,3⟩))=some (AV.c (.ref ⟨⟨.par 1,[(0,2),(a.toNat,2)]⟩,b.toNat,3⟩))),xk (o:=3) g rfl,(rfl:some (Cell.own 3 d)=some (Cell.own 3 d)),qu5 (o:=2) e rfl,okF [Nz] x,trivial⟩⟩,⟨(some 193,.bnd),[_],⟨qot (xw (X:=l) (r:=Nz)),trivial⟩⟩,⟨(none,.st),[_,_,_,_,_,_,_],⟨xk (o:=0) (xw (X:=l) (r:=Nz)) rfl,xk (o:=1) (zf (o:=0) (c:=ic p) (xw (X:=l) (r:=Nz))) rfl,xk (o:=2) (zf (o:=1) (c:=ic q) (zf (o:=0) (c:=ic p) (xw (X:=l) (r:=Nz)))) rfl,xk (o:=3) (zf (o:=2) (c:=.imm t) (zf (o:=1) (c:=ic q) (zf (o:=0) (c:=ic p) (xw (X:=l) (r:=Nz))))) rfl,xk (o:=4) (zf (o:=3) (c:=ic u) (zf (o:=2) (c:=.imm t) (zf (o:=1) (c:=ic q) (zf (o:=0) (c:=ic p) (xw (X:=l) (r:=Nz)))))) rfl,xk (o:=5) (zf (o:=4) (c:=.val (.int .u64 v)) (zf (o:=3) (c:=ic u) (zf (o:=2) (c:=.imm t) (zf (o:=1) (c:=ic q) (zf (o:=0) (c:=ic p) (xw (X:=l) (r:=Nz))))))) rfl,xk (o:=6) (zf (o:=5) (c:=ic w) (zf (o:=4) (c:=.val (.int .u64 v)) (zf (o:=3) (c:=ic u) (zf (o:=2) (c:=.imm t) (zf (o:=1) (c:=ic q) (zf (o:=0) (c:=ic p) (xw (X:=l) (r:=Nz)))))))) rfl,trivial⟩⟩,⟨(none,.thru [(3,setRow d a.toNat 2 (.own 4 (setRow f b.toNat 3 .dead))),(4,setRow f b.toNat 3 .dead)] .st),[_,_,_],⟨xk (o:=3) (zf (o:=3) (c:=.dead) g) rfl,(rfl:some (Cell.own 3 (setRow d a.toNat 2 (.own 4 (setRow f b.toNat 3 .dead))))=some (Cell.own 3 (setRow d a.toNat 2 (.own 4 (setRow f b.toNat 3 .dead))))),qu5 (o:=2) (zf (o:=2) (c:=.own 4 (setRow f b.toNat 3 .dead)) e) rfl,trivial⟩⟩] (e:=by as_aux_lemma=>kernel_rfl)
   . replace h:=qh h;obtain⟨_,n,h⟩:=h;replace h:=qvq h;obtain⟨p,q,t,u,v,w,_,_,_,_,_,_,rfl,h⟩:=h;cases h;exact mF 2 [⟨(some 9999,.fst [10] 11),[],trivial⟩,⟨(some 186,.thru [(3,d),(4,f)] (.ld [ic i,ic j,.own 7 m,.nil])),[_,_,_],⟨g.2,(rfl:some (Cell.own 3 d)=some (Cell.own 3 d)),qu5 (o:=2) e rfl,trivial⟩⟩,cA 189 (evI n),⟨(none,.st),[_,_,_,_,_,_,_],⟨(cA70:∃ A,cellAt [Nz] 0 0=some A),(cA71:∃ A,cellAt [[ic p,ic 0,.nil,ic 0,.val (.int .u64 0),ic 0,ic 0]] 0 1=some A),(cA72:∃ A,cellAt [[ic p,ic q,.nil,ic 0,.val (.int .u64 0),ic 0,ic 0]] 0 2=some A),(cA73:∃ A,cellAt [[ic p,ic q,.imm t,ic 0,.val (.int .u64 0),ic 0,ic 0]] 0 3=some A),(cA74:∃ A,cellAt [[ic p,ic q,.imm t,ic u,.val (.int .u64 0),ic 0,ic 0]] 0 4=some A),(cA75:∃ A,cellAt [[ic p,ic q,.imm t,ic u,.val (.int .u64 v),ic 0,ic 0]] 0 5=some A),(cA76:∃ A,cellAt [[ic p,ic q,.imm t,ic u,.val (.int .u64 v),ic w,ic 0]] 0 6=some A),trivial⟩⟩,⟨(none,.thru [(3,d),(4,f)] .st),[_,_,_],⟨xk (o:=3) g rfl,(rfl:some (Cell.own 3 d)=some (Cell.own 3 d)),qu5 (o:=2) e rfl,trivial⟩⟩] (e:=by as_aux_lemma=>kernel_rfl)
   . replace h:=qh h;obtain⟨_,n,h⟩:=h;replace h:=qvq h;obtain⟨p,q,t,u,v,w,_,_,_,_,_,_,rfl,h⟩:=h;replace h:=zo h;obtain⟨x,h⟩:=h;cases h;exact mF 2 [⟨(some 9999,.fst [10] 11),[],trivial⟩,⟨(some 186,.thru [(3,d),(4,f)] (.ld [ic i,ic j,.own 7 m,.own 7 l])),[_,_,_],⟨g.2,(rfl:some (Cell.own 3 d)=some (Cell.own 3 d)),qu5 (o:=2) e rfl,trivial⟩⟩,cA 189 (evI n),⟨(some 190,.thru [(3,d),(4,f)] (.row [.own 7 l])),[_,_,_],⟨qu5 (o:=3) g rfl,(rfl:some (Cell.own 3 d)=some (Cell.own 3 d)),qu5 (o:=2) e rfl,trivial⟩⟩,⟨(some 192,.thru [(3,d),(4,f)] (.okO l false)),[_,_,_,_,_,_],⟨qu5 (o:=3) g rfl,(rfl:some (AV.c (.ref ⟨⟨.par 1,[(0,2),(a.toNat,2)]⟩,b.toNat,3⟩))=some (AV.c (.ref ⟨⟨.par 1,[(0,2),(a.toNat,2)]⟩,b.toNat,3⟩))),xk (o:=3) g rfl,(rfl:some (Cell.own 3 d)=some (Cell.own 3 d)),qu5 (o:=2) e rfl,okF [Nz] x,trivial⟩⟩,⟨(some 193,.bnd),[_],⟨qot (xw (X:=l) (r:=Nz)),trivial⟩⟩,⟨(none,.st),[_,_,_,_,_,_,_],⟨xk (o:=0) (xw (X:=l) (r:=Nz)) rfl,xk (o:=1) (zf (o:=0) (c:=ic p) (xw (X:=l) (r:=Nz))) rfl,xk (o:=2) (zf (o:=1) (c:=ic q) (zf (o:=0) (c:=ic p) (xw (X:=l) (r:=Nz)))) rfl,xk (o:=3) (zf (o:=2) (c:=.imm t) (zf (o:=1) (c:=ic q) (zf (o:=0) (c:=ic p) (xw (X:=l) (r:=Nz))))) rfl,xk (o:=4) (zf (o:=3) (c:=ic u) (zf (o:=2) (c:=.imm t) (zf (o:=1) (c:=ic q) (zf (o:=0) (c:=ic p) (xw (X:=l) (r:=Nz)))))) rfl,xk (o:=5) (zf (o:=4) (c:=.val (.int .u64 v)) (zf (o:=3) (c:=ic u) (zf (o:=2) (c:=.imm t) (zf (o:=1) (c:=ic q) (zf (o:=0) (c:=ic p) (xw (X:=l) (r:=Nz))))))) rfl,xk (o:=6) (zf (o:=5) (c:=ic w) (zf (o:=4) (c:=.val (.int .u64 v)) (zf (o:=3) (c:=ic u) (zf (o:=2) (c:=.imm t) (zf (o:=1) (c:=ic q) (zf (o:=0) (c:=ic p) (xw (X:=l) (r:=Nz)))))))) rfl,trivial⟩⟩,⟨(none,.thru [(3,setRow d a.toNat 2 (.own 4 (setRow f b.toNat 3 .dead))),(4,setRow f b.toNat 3 .dead)] .st),[_,_,_],⟨xk (o:=3) (zf (o:=3) (c:=.dead) g) rfl,(rfl:some (Cell.own 3 (setRow d a.toNat 2 (.own 4 (setRow f b.toNat 3 .dead))))=some (Cell.own 3 (setRow d a.toNat 2 (.own 4 (setRow f b.toNat 3 .dead))))),qu5 (o:=2) (zf (o:=2) (c:=.own 4 (setRow f b.toNat 3 .dead)) e) rfl,trivial⟩⟩] (e:=by as_aux_lemma=>kernel_rfl)
theorem qFR {k:Nat}{a:Int}{b:Rs}{c d:Int}{e f:By}{g:Int}{i j l:Rs}{m n o:Int}{p q:Rs}{r:R41c}(h:g41c k a b c d e f g i j l m n o p q=some r):E41c a b c d e f g i j l m n o p q r:=qEM (qGg _ _ _ h)
instance {k:Nat} {a:Int} {b:Rs} {c d:Int} {e f:By} {g:Int} {i j l:Rs} {m n o:Int} {p q:Rs}:EvI (g41c k a b c d e f g i j l m n o p q) 41 [pP 0,pP 1,.ag [ic a,.imm b,ic c,ic d,sc e,sc f,ic g]] [[.imm i,.imm j,.imm l,ic m,ic n],[ic o,.own 1 p,.own 3 q]] qvM (qwR o):=⟨λr h=>qFR h⟩
def qjK:R17->ARes
 |(a,b,c,d,e)=>.ret ⟨.tup [true,false,false],[[ic a,.imm b,.imm c],[ic d],[ic e]]⟩
noncomputable def qjR (k:Nat)(rec:S17->Option R17):S17->Option R17
 |.e a b c d e f g i=>
  (tg 16 (g37 k a b)).bind λj=>
  bif tg 18 (j != 0)then
   rec (tg 10 (rg [3,2] [(⟨⟨.loc 4,[]⟩,0,1⟩,none),(⟨⟨.loc 4,[]⟩,0,2⟩,none)] (.h0 0 j 0 [] [])))
  else
   (tg 23 (g38 k c d e f g i)).bind λl=>
   tup2 l λ_ m=>
   bif tg 27 (m != 0)then
    rec (tg 17 (rg [3,2] [(⟨⟨.loc 4,[]⟩,0,1⟩,none),(⟨⟨.loc 4,[]⟩,0,2⟩,none)] (.h1 0 m 0 [] [])))
   else
    rec (tg 25 (rg [2] [(⟨⟨.loc 11,[]⟩,0,2⟩,some 3),(⟨⟨.loc 32,[]⟩,0,2⟩,some 6)] (.h2 c (c.length:Int) 0 e [] a b [] 0 0 0 c d e f g i)))
 |.h0 a b c d e=>some (c,d,e,a,b)
 |.h1 a b c d e=>some (c,d,e,a,b)
 |.h2 a b c d e f g i j l m n o p q t u=>
  bif tg 40 (decide (c<b))then
   ixR a (tg 42 c) λv=>
   un_m v λw=>
   rec (tg 10 (.h3 c w a b c d e f g i j l m n o p q t u))
  else
   rec (tg 7 (.h4 d e f g i j l m n o p q t u))
 |.h3 a b c d e f g i j l m n o p q t u v w=>
  (tg 51 (g39b k a b u i j l m n)).bind λx=>
  tup8 x λy z h r c1 s A B=>
  gd (tg 53 (apOk 40 3 g [[ic y,ic z,.own 4 h]])) <|
  rec (tg 3 (.h2 c d (wZ (e+1)) f (g++[[ic y,ic z,.own 4 h]]) r c1 s A B o p q t u v w))
 |.h4 a b c d e f g i j l m n o p=>
  (tg 58 (g40b k j l m n o p c d e f g)).bind λq=>
  altC q (λt=>
    tup6 t λu v w x y z=>
    rec (tg 6 (rg [] [(⟨⟨.loc 32,[]⟩,0,2⟩,none)] (.h5 (l.length:Int) 0 a u b v w (qG x) y z i j l m n o p)))) (λt=>
    tup6 t λu v w x y z=>
    rec (tg 6 (.h5 (l.length:Int) 0 a u b v w x y z i j l m n o p)))
 |.h5 a b c d e f g i j l m n o p q t u=>
  bif tg 64 (decide (b<a))then
   rec (tg 10 (.h6 b a b c d e f g i j l m n o p q t u))
  else
   bif tg 78 (j != 0)then
    rec (tg 12 (rg [11,32,3] [(⟨⟨.loc 4,[]⟩,0,1⟩,none),(⟨⟨.loc 4,[]⟩,0,2⟩,none)] (.h7 l j 0 [] [])))
   else
    rec (tg 13 (rg [11,32,3] [] (.h8 0 0 c (qG d) (qG e))))
 |.h6 a b c d e f g i j l m n o p q t u v=>
  ixR p (tg 70 a) λw=>
  qE w λx y z h r c1 s=>
  (tg 72 (g41c k x y z h r c1 s g i j l m d e f)).bind λA=>
  tup7 A λB C D E F G H=>
  rec (tg 3 (.h5 b (wZ (c+1)) d G H B C D E F n o p q t u v))
 |.h7 a b c d e=>some (c,d,e,a,b)
 |.h8 a b c d e=>some (c,d,e,a,b)
noncomputable def g17 (k:Nat)(a b c d:Rs)(e f:Int)(g:By)(i:Int):Option R17:=itS qjR k (.e a b c d e f g i)
def P17:S17->R17->Prop
 |.e a b c d e f g i=>Fe Y17 qjK nB [.ag [.imm a,.imm b],.ag [.imm c,.imm d,ic e,ic f,sc g,ic i]] []
 |.h0 a b c d e=>Fk Y17 qjK nB [1,0,1,1,0,1,2] (rd 4++[pL 4,cic a,cic b]++rd 82) [(.loc 4,[ic c,.imm d,.imm e])]
 |.h1 a b c d e=>Fk Y17 qjK nB [1,1,0,1,1,0,1,2] (rd 4++[pL 4,cic a,cic b]++rd 82) [(.loc 4,[ic c,.imm d,.imm e])]
 |.h2 a b c d e f g i j l m n o p q t u=>Fk Y17 qjK nB [1,1,1,1,1,0,1,0,4] (rd 3++[pL 3,pL 4]++rd 5++[pL 32,pL 11]++rd 25++[cm a,cic b,cic c]++rd 49) [(.loc 11,[ic d,.nil,.own 3 e]),(.loc 32,[.imm f,.imm g,.own 6 i,ic j,ic l]),(.loc 4,[ic m,.nil,.nil]),(.loc 3,[.imm n,.imm o,ic p,ic q,sc t,ic u])]
 |.h3 a b c d e f g i j l m n o p q t u v w=>Fk Y17 qjK nB [1,1,1,1,1,0,1,0,0,1,1,0,0,1,2] (rd 3++[pL 3,pL 4]++rd 5++[pL 32,pL 11,cic a,cm b]++rd 23++[cm c,cic d,cic e]++rd 49) [(.loc 11,[ic f,.nil,.own 3 g]),(.loc 32,[.imm i,.imm j,.own 6 l,ic m,ic n]),(.loc 4,[ic o,.nil,.nil]),(.loc 3,[.imm p,.imm q,ic t,ic u,sc v,ic w])]
 |.h4 a b c d e f g i j l m n o p=>Fk Y17 qjK nB [1,1,1,1,1,1,0,2] (rd 3++[pL 3,pL 4]++rd 5++[pL 32,pL 11]++rd 77) [(.loc 11,[ic a,.nil,.own 3 b]),(.loc 32,[.imm c,.imm d,.own 6 e,ic f,ic g]),(.loc 4,[ic i,.nil,.nil]),(.loc 3,[.imm j,.imm l,ic m,ic n,sc o,ic p])]
 |.h5 a b c d e f g i j l m n o p q t u=>Fk Y17 qjK nB [1,1,1,1,1,1,1,0,1,0,4] (rd 3++[pL 3,pL 4]++rd 5++[pL 32,pL 11]++rd 50++[cic a,cic b]++rd 25) [(.loc 11,[ic c,.own 1 d,.own 3 e]),(.loc 32,[.imm f,.imm g,.imm i,ic j,ic l]),(.loc 4,[ic m,.nil,.nil]),(.loc 3,[.imm n,.imm o,ic p,ic q,sc t,ic u])]
 |.h6 a b c d e f g i j l m n o p q t u v=>Fk Y17 qjK nB [1,1,1,1,1,1,1,0,1,0,0,1,1,0,0,1,2] (rd 3++[pL 3,pL 4]++rd 5++[pL 32,pL 11,.deadv,.deadv,cic a]++rd 47++[cic b,cic c]++rd 25) [(.loc 11,[ic d,.own 1 e,.own 3 f]),(.loc 32,[.imm g,.imm i,.imm j,ic l,ic m]),(.loc 4,[ic n,.nil,.nil]),(.loc 3,[.imm o,.imm p,ic q,ic t,sc u,ic v])]
 |.h7 a b c d e=>Fk Y17 qjK nB [1,1,1,1,1,1,1,1,0,1,0,1,2] (rd 4++[pL 4,cic a,cic b]++rd 82) [(.loc 4,[ic c,.imm d,.imm e])]
 |.h8 a b c d e=>Fk Y17 qjK nB [1,1,1,1,1,1,1,1,1,1,2] (rd 4++[pL 4,cic a,cic b]++rd 82) [(.loc 4,[ic c,.imm d,.imm e])]
theorem ok17:∀ k s r,itS qjR k s=some r->P17 s r:=okU (And.intro @qu4 (And.intro @qAq trivial))
instance {k:Nat} {a b c d:Rs} {e f:Int} {g:By} {i:Int}:EvI (g17 k a b c d e f g i) 17 [.ag [.imm a,.imm b],.ag [.imm c,.imm d,ic e,ic f,sc g,ic i]] [] qjK nB:=eI ok17
noncomputable def qd3 (k:Nat)(rec:S42->Option R42):S42->Option R42
 |.e a b=>
  bif tg 12 ((a.length:Int)!=(b.length:Int))then
   some false
  else
   rec (tg 12 (.h0 b a (a.length:Int) 0))
 |.h0 a b c d=>
  bif tg 16 (decide (d<c))then
   ixR b (tg 18 d) λe=>
   qvr e λf g i j l m n=>
   ixR a (tg 22 d) λo=>
   qvr o λp q t u v w x=>
   bif tg 28 (f != p)then
    rec (tg 14 (rg [7,6] [] (.h1 a b c d true)))
   else
    bif tg 34 (g != q)then
     rec (tg 14 (rg [7,6] [] (.h1 a b c d true)))
    else
     bif tg 41 (!(j==u&&(l==v&&true)))then
      rec (tg 14 (rg [7,6] [] (.h1 a b c d true)))
     else
      bif tg 48 (m != w)then
       rec (tg 14 (rg [7,6] [] (.h1 a b c d true)))
      else
       bif tg 55 (n != x)then
        rec (tg 14 (rg [7,6] [] (.h1 a b c d true)))
       else
        (tg 62 (rec (.e i t))).bind λy=>
        rec (tg 14 (rg [7,6] [] (.h1 a b c d (!y))))
  else
   some true
 |.h1 a b c d e=>
  bif e then
   some false
  else
   rec (tg 4 (.h0 a b c (wZ (d+1))))
noncomputable def g42 (k:Nat)(a b:Rs):Option R42:=itS qd3 k (.e a b)
def P42:S42->R42->Prop
 |.e a b=>Fe Y42 qtE nB [cm a,cm b] []
 |.h0 a b c d=>Fk Y42 qtE nB [1,1,0,1,0,4] ([.deadv,cm a]++rd 11++[cm b,cic c,cic d]++rd 50) []
 |.h1 a b c d e=>Fk Y42 qtE nB [1,1,0,1,0,0,1,1,0,0,1,1,1,2] ([.deadv,cm a]++rd 11++[cm b,cic c,cic d]++rd 48++[cbc e,.deadv]) []
instance {a b:Rs}:EvS P42 id (.e a b) 42 [cm a,cm b] [] qtE nB:=⟨λo h v e=>evF (h v e)⟩
theorem ok42:∀ k s r,itS qd3 k s=some r->P42 s r:=okU (And.intro @qv9 trivial)
instance {k:Nat} {a b:Rs}:EvI (g42 k a b) 42 [cm a,cm b] [] qtE nB:=eI ok42
noncomputable def qj2 (k:Nat)(rec:S18->Option R18):S18->Option R18
 |.e a b c d e f=>
  bif tg 16 (a != d)then
   rec (tg 5 (.h0 true d e f a b c))
  else
   bif tg 24 ((b.length:Int)!=(e.length:Int))then
    rec (tg 5 (.h0 true d e f a b c))
   else
    rec (tg 5 (.h0 ((c.length:Int)!=(f.length:Int)) d e f a b c))
 |.h0 a b c d e f g=>
  bif a then
   some false
  else
   rec (tg 7 (.h1 (f.length:Int) 0 b c d e f g))
 |.h1 a b c d e f g i=>
  bif tg 39 (decide (b<a))then
   ixR g (tg 44 b) λj=>
   un_i j λl=>
   ixR d (tg 49 b) λm=>
   un_i m λn=>
   bif tg 51 (l != n)then
    some false
   else
    rec (tg 16 (.h1 a (wZ (b+1)) c d e f g i))
  else
   rec (tg 11 (rg [2] [] (.h2 i (i.length:Int) 0 c d e)))
 |.h2 a b c d e f=>
  bif tg 57 (decide (c<b))then
   ixR a (tg 59 c) λg=>
   qwz g λi j l=>
   ixR f (tg 64 c) λm=>
   qwz m λn o p=>
   bif tg 70 (i != n)then
    rec (tg 15 (.h3 a b c true n o p i j l d e f))
   else
    bif tg 76 (j != o)then
     rec (tg 15 (.h3 a b c true n o p i j l d e f))
    else
     rec (tg 15 (.h3 a b c ((l.length:Int)!=(p.length:Int)) n o p i j l d e f))
  else
   some true
 |.h3 a b c d e f g _ _ i j l m=>
  bif d then
   some false
  else
   rec (tg 6 (rg [7] [] (.h4 a b c i (i.length:Int) 0 e f g j l m)))
 |.h4 a b c d e f g i j l m n=>
  bif tg 91 (decide (f<e))then
   ixR d (tg 93 f) λo=>
   qvQ o λp q t u=>
   ixR j (tg 98 f) λv=>
   qvQ v λw x y z=>
   bif tg 104 (p != w)then
    rec (tg 14 (rg [11,10] [] (.h5 a b c d e f true g i j l m n)))
   else
    bif tg 110 (q != x)then
     rec (tg 14 (rg [11,10] [] (.h5 a b c d e f true g i j l m n)))
    else
     (tg 117 (g42 k t y)).bind λh=>
     bif tg 118 (!h)then
      rec (tg 14 (rg [11,10] [] (.h5 a b c d e f true g i j l m n)))
     else
      (tg 125 (g42 k u z)).bind λr=>
      rec (tg 14 (rg [11,10] [] (.h5 a b c d e f (!r) g i j l m n)))
  else
   rec (tg 8 (rg [8] [] (.h2 a b (wZ (c+1)) l m n)))
 |.h5 a b c d e f g i j l m n o=>
  bif g then
   some false
  else
   rec (tg 4 (.h4 a b c d e (wZ (f+1)) i j l m n o))
noncomputable def g18 (k:Nat)(a:Int)(b c:Rs)(d:Int)(e f:Rs):Option R18:=itS qj2 k (.e a b c d e f)
def P18:S18->R18->Prop
 |.e a b c d e f=>Fe Y18 qtE nB [.ag [ic a,.imm b,.imm c],.ag [ic d,.imm e,.imm f]] []
 |.h0 a b c d e f g=>Fk Y18 qtE nB [1,0,1,2] ([.deadv,.deadv,pL 2,pL 3]++rd 30++[cbc a]++rd 95) [(.loc 3,[ic b,.imm c,.imm d]),(.loc 2,[ic e,.imm f,.imm g])]
 |.h1 a b c d e f g i=>Fk Y18 qtE nB [1,1,0,1,0,4] ([.deadv,.deadv,pL 2,pL 3]++rd 33++[cic a,cic b]++rd 91) [(.loc 3,[ic c,.imm d,.imm e]),(.loc 2,[ic f,.imm g,.imm i])]
 |.h2 a b c d e f=>Fk Y18 qtE nB [1,1,1,0,1,0,4] (rd 3++[pL 3]++rd 50++[cm a,cic b,cic c]++rd 73) [(.loc 3,[ic d,.imm e,.imm f])]
 |.h3 a b c d e f g i j l m n o=>Fk Y18 qtE nB [1,1,1,0,1,0,0,1,1,0,0,1,1,0,1,2] (rd 3++[pL 3]++rd 3++[pL 7,pL 8]++rd 45++[cm a,cic b,cic c]++rd 29++[cbc d]++rd 43) [(.loc 8,[ic e,ic f,.imm g]),(.loc 7,[ic i,ic j,.imm l]),(.loc 3,[ic m,.imm n,.imm o])]
 |.h4 a b c d e f g i j l m n=>Fk Y18 qtE nB [1,1,1,0,1,0,0,1,1,0,0,1,1,1,1,0,4] (rd 3++[pL 3]++rd 4++[pL 8]++rd 45++[cm a,cic b,cic c]++rd 31++[cm d,cic e,cic f]++rd 39) [(.loc 8,[ic g,ic i,.imm j]),(.loc 3,[ic l,.imm m,.imm n])]
 |.h5 a b c d e f g i j l m n o=>Fk Y18 qtE nB [1,1,1,0,1,0,0,1,1,0,0,1,1,1,1,0,0,1,1,0,0,1,1,1,2] (rd 3++[pL 3]++rd 4++[pL 8]++rd 45++[cm a,cic b,cic c]++rd 31++[cm d,cic e,cic f]++rd 36++[cbc g,.deadv,.deadv]) [(.loc 8,[ic i,ic j,.imm l]),(.loc 3,[ic m,.imm n,.imm o])]
theorem ok18:∀ k s r,itS qj2 k s=some r->P18 s r:=okU (And.intro @qCA (And.intro @qzy (And.intro @qyC trivial)))
instance {k:Nat} {a:Int} {b c:Rs} {d:Int} {e f:Rs}:EvI (g18 k a b c d e f) 18 [.ag [ic a,.imm b,.imm c],.ag [ic d,.imm e,.imm f]] [] qtE nB:=eI ok18
noncomputable def qoR (k:Nat)(rec:S36->Option R36):S36->Option R36
 |.e a b=>
  bif tg 12 ((a.length:Int)!=(b.length:Int))then
   some false
  else
   rec (tg 12 (.h0 a b (a.length:Int) 0))
 |.h0 a b c d=>
  bif tg 16 (decide (d<c))then
   ixR a (tg 20 d) λe=>
   qvr e λf g i j l m n=>
   ixR b (tg 24 d) λo=>
   qvr o λp q t u v w x=>
   bif tg 30 (f != p)then
    rec (tg 14 (rg [7,6] [] (.h1 a b c d true)))
   else
    bif tg 36 (g != q)then
     rec (tg 14 (rg [7,6] [] (.h1 a b c d true)))
    else
     bif tg 43 (!(j==u&&(l==v&&true)))then
      rec (tg 14 (rg [7,6] [] (.h1 a b c d true)))
     else
      bif tg 50 (m != w)then
       rec (tg 14 (rg [7,6] [] (.h1 a b c d true)))
      else
       bif tg 57 (n != x)then
        rec (tg 14 (rg [7,6] [] (.h1 a b c d true)))
       else
        (tg 64 (rec (.e i t))).bind λy=>
        rec (tg 14 (rg [7,6] [] (.h1 a b c d (!y))))
  else
   some true
 |.h1 a b c d e=>
  bif e then
   some false
  else
   rec (tg 4 (.h0 a b c (wZ (d+1))))
noncomputable def g36 (k:Nat)(a b:Rs):Option R36:=itS qoR k (.e a b)
def P36:S36->R36->Prop
 |.e a b=>Fe Y36 qtE nB [cm a,cm b] []
 |.h0 a b c d=>Fk Y36 qtE nB [1,1,0,1,0,4] ([cm a,cm b]++rd 12++[cic c,cic d]++rd 52) []
 |.h1 a b c d e=>Fk Y36 qtE nB [1,1,0,1,0,0,1,1,0,0,1,1,1,2] ([cm a,cm b]++rd 12++[cic c,cic d]++rd 50++[cbc e,.deadv]) []
instance {a b:Rs}:EvS P36 id (.e a b) 36 [cm a,cm b] [] qtE nB:=⟨λo h v e=>evF (h v e)⟩
theorem ok36:∀ k s r,itS qoR k s=some r->P36 s r:=okU (And.intro @qv9 trivial)
instance {k:Nat} {a b:Rs}:EvI (g36 k a b) 36 [cm a,cm b] [] qtE nB:=eI ok36
noncomputable def Zu (k:Nat)(rec:S15->Option R15):S15->Option R15
 |.e a b c d e f=>
  bif tg 14 (a != d)then
   rec (tg 5 (.h0 true d e f a b c))
  else
   bif tg 22 ((b.length:Int)!=(e.length:Int))then
    rec (tg 5 (.h0 true d e f a b c))
   else
    rec (tg 5 (.h0 ((c.length:Int)!=(f.length:Int)) d e f a b c))
 |.h0 a b c d e f g=>
  bif a then
   some false
  else
   rec (tg 7 (.h1 (f.length:Int) 0 b c d e f g))
 |.h1 a b c d e f g i=>
  bif tg 37 (decide (b<a))then
   ixR g (tg 42 b) λj=>
   un_i j λl=>
   ixR d (tg 47 b) λm=>
   un_i m λn=>
   bif tg 49 (l != n)then
    some false
   else
    rec (tg 16 (.h1 a (wZ (b+1)) c d e f g i))
  else
   rec (tg 11 (.h2 (i.length:Int) 0 c d e f g i))
 |.h2 a b c d e f g i=>
  bif tg 55 (decide (b<a))then
   ixR i (tg 60 b) λj=>
   qwz j λl m n=>
   ixR e (tg 65 b) λo=>
   qwz o λp q t=>
   bif tg 71 (l != p)then
    rec (tg 15 (.h3 a b true p q t l m n c d e f g i))
   else
    bif tg 77 (m != q)then
     rec (tg 15 (.h3 a b true p q t l m n c d e f g i))
    else
     rec (tg 15 (.h3 a b ((n.length:Int)!=(t.length:Int)) p q t l m n c d e f g i))
  else
   some true
 |.h3 a b c d e f g i j l m n o p q=>
  bif c then
   some false
  else
   rec (tg 6 (.h4 a b (j.length:Int) 0 d e f g i j l m n o p q))
 |.h4 a b c d e f g i j l m n o p q t=>
  bif tg 92 (decide (d<c))then
   ixR l (tg 97 d) λu=>
   qvQ u λv w x y=>
   ixR g (tg 103 d) λz=>
   qvQ z λh r c1 s=>
   bif tg 106 (v != h)then
    rec (tg 12 (.h5 a b c d true e f g i j l m n o p q t))
   else
    ag 2 111 <|
    ag 2 117 <|
    bif tg 120 (w != r)then
     rec (tg 12 (.h5 a b c d true e f g i j l m n o p q t))
    else
     ag 5 126 <|
     ag 5 132 <|
     (tg 135 (g36 k x c1)).bind λA=>
     bif tg 136 (!A)then
      rec (tg 12 (.h5 a b c d true e f g i j l m n o p q t))
     else
      ag 9 142 <|
      ag 9 148 <|
      (tg 151 (g36 k y s)).bind λB=>
      rec (tg 12 (.h5 a b c d (!B) e f g i j l m n o p q t))
  else
   rec (tg 8 (rg [8,7] [] (.h2 a (wZ (b+1)) m n o p q t)))
 |.h5 a b c d e f g i j l m n o p q t u=>
  bif e then
   some false
  else
   rec (tg 4 (.h4 a b c (wZ (d+1)) f g i j l m n o p q t u))
noncomputable def g15 (k:Nat)(a:Int)(b c:Rs)(d:Int)(e f:Rs):Option R15:=itS Zu k (.e a b c d e f)
def P15:S15->R15->Prop
 |.e a b c d e f=>Fe Y15 qtE nB [.ag [ic a,.imm b,.imm c],.ag [ic d,.imm e,.imm f]] []
 |.h0 a b c d e f g=>Fk Y15 qtE nB [1,0,1,2] ([.deadv,.deadv,pL 2,pL 3]++rd 28++[cbc a]++rd 123) [(.loc 3,[ic b,.imm c,.imm d]),(.loc 2,[ic e,.imm f,.imm g])]
 |.h1 a b c d e f g i=>Fk Y15 qtE nB [1,1,0,1,0,4] ([.deadv,.deadv,pL 2,pL 3]++rd 31++[cic a,cic b]++rd 119) [(.loc 3,[ic c,.imm d,.imm e]),(.loc 2,[ic f,.imm g,.imm i])]
 |.h2 a b c d e f g i=>Fk Y15 qtE nB [1,1,1,0,1,0,4] ([.deadv,.deadv,pL 2,pL 3]++rd 49++[cic a,cic b]++rd 101) [(.loc 3,[ic c,.imm d,.imm e]),(.loc 2,[ic f,.imm g,.imm i])]
 |.h3 a b c d e f g i j l m n o p q=>Fk Y15 qtE nB [1,1,1,0,1,0,0,1,1,0,0,1,1,0,1,2] ([.deadv,.deadv,pL 2,pL 3]++rd 3++[pL 7,pL 8]++rd 44++[cic a,cic b]++rd 32++[cbc c]++rd 68) [(.loc 8,[ic d,ic e,.imm f]),(.loc 7,[ic g,ic i,.imm j]),(.loc 3,[ic l,.imm m,.imm n]),(.loc 2,[ic o,.imm p,.imm q])]
 |.h4 a b c d e f g i j l m n o p q t=>Fk Y15 qtE nB [1,1,1,0,1,0,0,1,1,0,0,1,1,1,1,0,4] ([.deadv,.deadv,pL 2,pL 3]++rd 3++[pL 7,pL 8]++rd 44++[cic a,cic b]++rd 35++[cic c,cic d]++rd 64) [(.loc 8,[ic e,ic f,.imm g]),(.loc 7,[ic i,ic j,.imm l]),(.loc 3,[ic m,.imm n,.imm o]),(.loc 2,[ic p,.imm q,.imm t])]
 |.h5 a b c d e f g i j l m n o p q t u=>Fk Y15 qtE nB [1,1,1,0,1,0,0,1,1,0,0,1,1,1,1,0,0,1,1,0,0,1,1,2] ([.deadv,.deadv,pL 2,pL 3]++rd 3++[pL 7,pL 8]++rd 44++[cic a,cic b]++rd 35++[cic c,cic d]++rd 61++[cbc e,.deadv,.deadv]) [(.loc 8,[ic f,ic g,.imm i]),(.loc 7,[ic j,ic l,.imm m]),(.loc 3,[ic n,.imm o,.imm p]),(.loc 2,[ic q,.imm t,.imm u])]
theorem ok15:∀ k s r,itS Zu k s=some r->P15 s r:=okU (And.intro @qCA (And.intro @qzy (And.intro @qyC trivial)))
instance {k:Nat} {a:Int} {b c:Rs} {d:Int} {e f:Rs}:EvI (g15 k a b c d e f) 15 [.ag [ic a,.imm b,.imm c],.ag [ic d,.imm e,.imm f]] [] qtE nB:=eI ok15
noncomputable def Zo (k:Nat)(rec:S43->Option R43):S43->Option R43
 |.e a=>rec (tg 9 (rg [] [(⟨⟨.slot 3,[]⟩,0,0⟩,some 7)] (.h0 a [] (a.length:Int) 0)))
 |.h0 a b c d=>
  bif tg 9 (decide (d<c))then
   ixR a (tg 13 d) λe=>
   qvr e λf g i j l m n=>
   (tg 17 (rec (.e i))).bind λo=>
   gd (tg 22 (apOk 72 7 b [[ic f,ic g,.imm (qG o),ic j,.val (.int .u64 l),ic m,ic n]])) <|
   rec (tg 17 (rg [5] [] (.h0 a (b++[[ic f,ic g,.imm (qG o),ic j,.val (.int .u64 l),ic m,ic n]]) c (wZ (d+1)))))
  else
   some b
noncomputable def g43 (k:Nat)(a:Rs):Option R43:=itS Zo k (.e a)
def P43:S43->R43->Prop
 |.e a=>Fe Y43 qtG nB [cm a] []
 |.h0 a b c d=>Fk Y43 qtG nB [1,1,0,1,0,4] ([cm a,.deadv,.deadv,.c (.own 7 b)]++rd 3++[cic c,cic d]++rd 16) []
instance {a:Rs}:EvS P43 id (.e a) 43 [cm a] [] qtG nB:=⟨λo h v e=>evF (h v e)⟩
theorem ok43:∀ k s r,itS Zo k s=some r->P43 s r:=okU (And.intro @qv9 trivial)
instance {k:Nat} {a:Rs}:EvI (g43 k a) 43 [cm a] [] qtG nB:=eI ok43
def qCd:R19->ARes
 |(a,b,c)=>.ret (.ag [ic a,.imm b,.imm c])
noncomputable def qw5 (k:Nat)(rec:S19->Option R19):S19->Option R19
 |.e a b c=>
  bif b.isEmpty then
   gd (apOk 8 1 [] b) <|
   rec (.h0 c (c.length:Int) 0 a [] [] 0)
  else
   gd (apOk 8 1 [] b) <|
   rec (.h0 c (c.length:Int) 0 a (([]:Rs)++b) [] 0)
 |.h0 a b c d e f g=>
  bif decide (c<b)then
   ixR a c λi=>
   qwz i λj l m=>
   rec (.h1 [] a b c m (m.length:Int) 0 j l m d e f g)
  else
   some (d,qG e,qG f)
 |.h1 a b c d e f g i j l m n o p=>
  bif decide (g<f)then
   ixR e g λq=>
   qvQ q λt u v w=>
   (g43 k v).bind λx=>
   (g43 k w).bind λy=>
   gd (apOk 64 4 a [[ic t,ic u,.imm (qG x),.imm (qG y)]]) <|
   rec (.h1 (a++[[ic t,ic u,.imm (qG x),.imm (qG y)]]) b c d e f (wZ (g+1)) i j l m n o p)
  else
   gd (apOk 40 3 o [[ic i,ic j,.imm (qG a)]]) <|
   rec (.h0 b c (wZ (d+1)) m n (o++[[ic i,ic j,.imm (qG a)]]) p)
noncomputable def g19 (k:Nat)(a:Int)(b c:Rs):Option R19:=itS qw5 k (.e a b c)
def P19:S19->R19->Prop
 |.e a b c=>Fe Y19 qCd nB [.ag [ic a,.imm b,.imm c]] []
 |.h0 a b c d e f g=>Fk Y19 qCd nB [1,1,0,1,0,4] ([.deadv,.deadv,pL 2,pL 3]++rd 12++[cm a,cic b,cic c]++rd 33) [(.loc 3,[ic d,.own 1 e,.own 3 f]),(.loc 2,[ic g,.nil,.nil])]
 |.h1 a b c d e f g i j l m n o p=>Fk Y19 qCd nB [1,1,0,1,0,0,1,1,0,0,1,1,0,1,0,4] ([.deadv,.deadv,pL 2,pL 3,.deadv,pL 5,.c (.own 4 a)]++rd 9++[cm b,cic c,cic d]++rd 4++[cm e,cic f,cic g]++rd 26) [(.loc 5,[ic i,ic j,.imm l]),(.loc 3,[ic m,.own 1 n,.own 3 o]),(.loc 2,[ic p,.nil,.nil])]
abbrev E19 (a:Int)(b c:Rs)(r:R19):Prop:=Ev Tryz.prog noHand 19 [.ag [ic a,.imm b,.imm c]] [] (qCd r) (nB r)
theorem qFS {a:Int}{b c:Rs}{r:R19}(h:P19 (.e a b c) r):E19 a b c r:=evF h
theorem ok19:∀ k s r,itS qw5 k s=some r->P19 s r:=qF λk rec p s r h=>match s,h with
 |.e ..,h=>by
  replace h:=qa h;rcases h with⟨a,h⟩|⟨a,h⟩
  . replace h:=zo h;obtain⟨b,h⟩:=h;exact mG 0 (p _ _ h) 9 [⟨(some 13,.okE true),[_],⟨okT b a,trivial⟩⟩] 52 4503599626911731 [1] [(⟨⟨.loc 3,[]⟩,0,1⟩,some 1),(⟨⟨.loc 3,[]⟩,0,2⟩,some 3)]
  . replace h:=zo h;obtain⟨b,h⟩:=h;exact mG 0 (p _ _ h) 9 [⟨(some 13,.okE false),[_],⟨okT b a,trivial⟩⟩] 52 4503599626911731 [1] [(⟨⟨.loc 3,[]⟩,0,2⟩,some 3)]
 |.h0 ..,h=>by
  replace h:=qa h;rcases h with⟨a,h⟩|⟨a,h⟩
  . replace h:=YJ h;obtain⟨_,b,h⟩:=h;replace h:=qCB h;obtain⟨_,_,_,rfl,h⟩:=h;exact mG 0 (p _ _ h) 17 [tT 19 a,rA 20 b] 52 4503599568191379 [] [(⟨⟨.slot 6,[]⟩,0,0⟩,some 4)]
  . cases h;exact mF 0 [tF 19 a]
 |.h1 a _ _ _ _ _ _ b c ..,h=>by
  replace h:=qa h;rcases h with⟨d,h⟩|⟨d,h⟩
  . replace h:=YJ h;obtain⟨_,e,h⟩:=h;replace h:=qBi h;obtain⟨f,g,_,_,rfl,h⟩:=h;replace h:=qh h;obtain⟨i,j,h⟩:=h;replace h:=qh h;obtain⟨l,m,h⟩:=h;replace h:=zo h;obtain⟨n,h⟩:=h;exact mG 0 (p _ _ h) 15 [tT 26 d,rA 27 e,cA 31 (evI j),cA 34 (evI m),⟨(some 40,.okE false),[_],⟨okF [[ic f,ic g,.imm (qG i),.imm (qG l)]] n,trivial⟩⟩] 52 4503599568191379 [8] []
  . replace h:=zo h;obtain⟨o,h⟩:=h;exact mG 0 (p _ _ h) 11 [tF 26 d,⟨(some 48,.okE false),[_],⟨okF [[ic b,ic c,.imm (qG a)]] o,trivial⟩⟩] 52 4503599626911731 [5] []
theorem ev19 {k:Nat}{a:Int}{b c:Rs}{r:R19}(h:g19 k a b c=some r):E19 a b c r:=qFS (ok19 _ _ _ h)
instance {k:Nat} {a:Int} {b c:Rs}:EvI (g19 k a b c) 19 [.ag [ic a,.imm b,.imm c]] [] qCd nB:=⟨λr h=>ev19 h⟩
noncomputable def qm4 (k:Nat)(rec:S7->Option R7):S7->Option R7
 |.e a b c d=>
  (g8 k c).bind λe=>
  tup8 e λf g i j l m _ _=>
  (g8 k d).bind λn=>
  tup8 n λo p q t u v _ _=>
  (g17 k a b f g i j l m).bind λw=>
  tup5 w λx y z _ _=>
  (g17 k a b o p q t u v).bind λs=>
  tup5 s λh c1 r _ _=>
  (g18 k x y z h c1 r).bind λA=>
  (g15 k x y z h c1 r).bind λB=>
  bif A==B then
   (g19 k x y z).bind λC=>
   tup3 C λD E F=>
   (g18 k x y z D E F).bind λG=>
   some G
  else
   some false
noncomputable def g7 (k:Nat)(a b:Rs)(c d:By):Option R7:=itS qm4 k (.e a b c d)
def P7:S7->R7->Prop
 |.e a b c d=>Fe Y7 qtE nB [.ag [.imm a,.imm b],.ag [sc c,sc d]] []
abbrev E7 (a b:Rs)(c d:By)(r:R7):Prop:=Ev Tryz.prog noHand 7 [.ag [.imm a,.imm b],.ag [sc c,sc d]] [] (qtE r) (nB r)
theorem evr7 {a b:Rs}{c d:By}{r:R7}(h:P7 (.e a b c d) r):E7 a b c d r:=evF h
theorem ok7:∀ k s r,itS qm4 k s=some r->P7 s r:=qF λk rec l s r h=>match s,h with
 |.e ..,h=>by
  obtain⟨_,a,h⟩:=b8 h;obtain⟨_,b,h⟩:=b8 h;obtain⟨_,c,h⟩:=b5 h;obtain⟨_,d,h⟩:=b5 h;replace h:=qh h;obtain⟨_,e,h⟩:=h;replace h:=qh h;obtain⟨_,f,h⟩:=h;replace h:=qa h;rcases h with⟨g,h⟩|⟨g,h⟩
  . obtain⟨_,i,h⟩:=b3 h;replace h:=qh h;obtain⟨_,j,h⟩:=h;cases h;exact mF 0 [cA 20 (evI a),cA 27 (evI b),cA 34 (evI c),cA 41 (evI d),cA 45 clAw,cA 49 (evI e),cA 52 (evI f),tT 53 g,cA 58 (evI i),cA 59 (evI j)]
  . cases h;exact mF 0 [cA 20 (evI a),cA 27 (evI b),cA 34 (evI c),cA 41 (evI d),cA 45 clAw,cA 49 (evI e),cA 52 (evI f),tF 53 g]
theorem ev7 {k:Nat}{a b:Rs}{c d:By}{r:R7}(h:g7 k a b c d=some r):E7 a b c d r:=evr7 (ok7 _ _ _ h)
instance {k:Nat} {a b:Rs} {c d:By}:EvI (g7 k a b c d) 7 [.ag [.imm a,.imm b],.ag [sc c,sc d]] [] qtE nB:=⟨λr h=>ev7 h⟩
end
end Ab
end Go.Proofs.YtnnhdcidgfjfpaaGreatDoor
