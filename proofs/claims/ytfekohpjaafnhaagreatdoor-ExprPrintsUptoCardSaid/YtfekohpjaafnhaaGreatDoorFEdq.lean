/-
  Functions' ways, printed by a program: what each computes, and that this is what the interpreter computes.
-/
import Derived.Test.YtfekohpjaafnhaaGreatDoorFEcq
import Derived.KernelRfl
set_option linter.all false
set_option maxRecDepth 10000
namespace Go.Proofs.YtfekohpjaafnhaaGreatDoor
namespace Ab
variable [vo]
inductive S25 where
 |e_25 (a:Int)(b:Rs)(c d e f:Int)
 |h0_25 (a:Int)(b:Bool)(c d e:Int)(f g:By)(i:Int)(j:Rs)(l m n o:Int)
 |h1_25 (a b:Int)(c:Rs)(d e:Int)(f g:By)(i j l m:Int)(n o:By)(p:Int)(q:Rs)(t u v w:Int)
 |h2_25 (a b:Int)(c:Rs)(d e:Int)(f g:By)(i j l m:Int)(n o:By)(p:Int)(q:Rs)(t u v w:Int)
 |h3_25 (a:Int)(b:Rs)(c d e f g:Int)(i:Rs)(j l:Int)(m n:By)(o p q t:Int)(u v:By)(w:Int)(x:Rs)(y z a1 b1:Int)
 |h4_25 (a:Int)(b:Rs)(c d e f g:Int)(i:Rs)(j l:Int)(m n:By)(o p q t:Int)(u v:By)(w:Int)(x:Rs)(y z a1 b1:Int)
 |h5_25 (a:Int)(b:Rs)(c d e f g:Int)(i:Rs)(j l:Int)(m n:By)(o p q t:Int)(u v:By)(w:Int)(x:Rs)(y z a1 b1:Int)
 |h6_25 (a:Int)(b:Bool)(c:Int)(d:Rs)(e f:Int)(g i:By)(j l m n:Int)(o p:By)(q:Int)(t:Rs)(u v w x:Int)
 |h7_25 (a:Int)(b:Rs)(c d e f g:Int)(i:Rs)(j l:Int)(m n:By)(o p q t:Int)(u v:By)(w:Int)(x:Rs)(y z a1 b1:Int)
 |e_46 (a:Int)(b:Rs)(c d e f:Int)
 |h0_46 (a:Int)(b:By)(c d e f:Int)(g i:By)(j:Int)(l:Rs)(m n o p:Int)
 |h1_46 (a:Int)(b:Rs)(c d:Int)(e f:By)(g:Int)(i:Rs)(j l m n:Int)
 |h2_46 (a:Int)(b:Rs)(c d:Int)(e f:By)(g:Int)(i:Rs)(j l m n:Int)
 |h3_46 (a:Int)(b:Rs)(c d:Int)(e f:By)(g:Int)(i:Rs)(j l m n:Int)
 |e_47 (a:Rs)(b c d e:Int)
 |h0_47 (a:Int)(b:Rs)(c d:Int)(e f:By)(g i j l:Int)(m n:By)(o:Int)(p:Rs)(q t u v:Int)
 |h1_47 (a:Int)(b:Rs)(c d:Int)(e f:By)(g i j l:Int)(m n:By)(o:Int)(p:Rs)(q t u v:Int)
 |h2_47 (a:Bool)(b c d:Int)(e f:By)(g i j l:Int)(m n:By)(o:Int)(p:Rs)(q t u v:Int)
 |h3_47 (a b c:Int)(d e:By)(f g i j:Int)(l m:By)(n:Int)(o:Rs)(p q t u:Int)
 |h4_47 (a:Bool)(b c d:Int)(e f:By)(g i j l:Int)(m n:By)(o:Int)(p:Rs)(q t u v:Int)
 |h5_47 (a b c:Int)(d e:By)(f g i j:Int)(l m:By)(n:Int)(o:Rs)(p q t u:Int)
 |h6_47 (a:Int)(b:Rs)(c d:Int)(e f:By)(g i j l:Int)(m n:By)(o:Int)(p:Rs)(q t u v:Int)
abbrev qpk:=(Int×Int×Int×By×By×Int×Rs×Int×Int×Int×Int)⊕(Int×Rs×Int×Int×By×By×Int×Rs×Int×Int×Int×Int)⊕(Int×Rs×Int×Int×By×By×Int×Rs×Int×Int×Int×Int)
abbrev qpw:=(Int×Rs×Int×Int×By×By×Int×Rs×Int×Int×Int×Int)⊕(Int×Rs×Int×Int×By×By×Int×Rs×Int×Int×Int×Int)
abbrev qpl:=Int×Rs×Int×Int×By×By×Int×Rs×Int×Int×Int×Int
abbrev R25:=qpk⊕qpw⊕qpl
def qoJ (o:Option R25):Option qpk:=o.bind fun|(.inl x)=>some x|_=>none
def qrA (o:Option R25):Option qpw:=o.bind fun|(.inr (.inl x))=>some x|_=>none
def qrY (o:Option R25):Option qpl:=o.bind fun|(.inr (.inr x))=>some x|_=>none
noncomputable def qjZ (k:Nat)(rec:S25→Option R25):S25→Option R25
 |.e_25 a b c d e f=>
  bif e != 0 then
   some (.inl (.inl (0,0,0,strB [],strB [],0,b,c,d,e,f)))
  else
   bif a==3 then
    rec (.h0_25 a true 0 0 0 (strB []) (strB []) 0 b c d e f)
   else
    rec (.h0_25 a (a==7) 0 0 0 (strB []) (strB []) 0 b c d e f)
 |.h0_25 a b c d e f g i j l m n o=>
  bif b then
   (qrA (rec (.e_46 a j l m n o))).bind fun p=>
   altC p (fun q=>
     zu q fun t u v w x y z a1 b1 c1 d1 e1=>
     some (.inl (.inr (.inl (t,u,v,w,x,y,z,a1,b1,c1,d1,e1))))) (fun q=>
     zu q fun t u v w x y z a1 b1 c1 d1 e1=>
     some (.inl (.inr (.inr (t,u,v,w,x,y,z,a1,b1,c1,d1,e1)))))
  else
   bif a==8 then
    (qrY (rec (.e_47 j l m n o))).bind fun f1=>
    zu f1 fun t u v w x y z a1 b1 c1 d1 e1=>
    some (.inl (.inr (.inr (t,u,v,w,x,y,z,a1,b1,c1,d1,e1))))
   else
    (qoJ (rec (.e_25 (IntKind.i64.wrap (a+1)) j l m n o))).bind fun f1=>
    altC f1 (fun g1=>
      qoG g1 fun i1 j1 l1 m1 n1 o1 p1 q1 t1 u1 v1=>
      rec (.h1_25 a i1 [] j1 l1 m1 n1 o1 c d e f g i p1 q1 t1 u1 v1)) (fun w1=>altC w1 (fun g1=>
      zu g1 fun i1 x1 j1 l1 m1 n1 o1 p1 q1 t1 u1 v1=>
      rec (.h1_25 a i1 x1 j1 l1 m1 n1 o1 c d e f g i p1 q1 t1 u1 v1)) (fun g1=>
      zu g1 fun i1 x1 j1 l1 m1 n1 o1 p1 q1 t1 u1 v1=>
      rec (.h2_25 a i1 x1 j1 l1 m1 n1 o1 c d e f g i p1 q1 t1 u1 v1)))
 |.h1_25 a b c d e f g i j l m n o p q t u v w=>
  bif v==0 then
   (g48 k a).bind fun x=>
   tup2 x fun y z=>
   rec (.h3_25 a y z 0 (y.length:Int) 0 b c d e f g i j l m n o p q t u v w)
  else
   some (.inl (.inr (.inr (b,qG c,d,e,f,g,i,q,t,u,v,w))))
 |.h2_25 a b c d e f g i j l m n o p q t u v w=>
  bif v==0 then
   (g48 k a).bind fun x=>
   tup2 x fun y z=>
   rec (.h4_25 a y z 0 (y.length:Int) 0 b c d e f g i j l m n o p q t u v w)
  else
   some (.inl (.inr (.inr (b,c,d,e,f,g,i,q,t,u,v,w))))
 |.h3_25 a b c d e f g i j l m n o p q t u v w x y z a1 b1=>
  bif decide (f<e)then
   ixR b f fun c1=>
   un_s c1 fun d1=>
   (g49 k d1 x y z a1 b1).bind fun e1=>
   tup2 e1 fun f1 g1=>
   bif f1 then
    rec (.h5_25 a b c (IntKind.i64.wrap (c+f)) e f g i j l m n o p q t u v w g1 y z a1 b1)
   else
    rec (.h5_25 a b c d e f g i j l m n o p q t u v w g1 y z a1 b1)
  else
   bif d==0 then
    some (.inl (.inr (.inr (g,qG i,j,l,m,n,o,x,y,z,a1,b1))))
   else
    (g50 k x y z a1 b1).bind fun i1=>
    tup6 i1 fun _ _ _ _ j1 l1=>
    (qoJ (rec (.e_25 (IntKind.i64.wrap (a+1)) l1 (IntKind.i64.wrap (y+1)) z a1 b1))).bind fun m1=>
    altC m1 (fun n1=>
      qoG n1 fun o1 p1 q1 t1 u1 v1 w1 x1 y1 z1 a2=>
      rec (.h6_25 a (a==4) d [[ic g,.imm (qG i),ic j,ic l,sc m,sc n,ic o],[ic o1,.nil,ic p1,ic q1,sc t1,sc u1,ic v1]] 0 0 (strB []) (strB []) j1 p q t u v w w1 x1 y1 z1 a2)) (fun b2=>altC b2 (fun n1=>
      zu n1 fun o1 c2 p1 q1 t1 u1 v1 w1 x1 y1 z1 a2=>
      rec (.h6_25 a (a==4) d [[ic g,.imm (qG i),ic j,ic l,sc m,sc n,ic o],[ic o1,.own 7 c2,ic p1,ic q1,sc t1,sc u1,ic v1]] 0 0 (strB []) (strB []) j1 p q t u v w w1 x1 y1 z1 a2)) (fun n1=>
      zu n1 fun o1 c2 p1 q1 t1 u1 v1 w1 x1 y1 z1 a2=>
      rec (.h6_25 a (a==4) d [[ic g,.imm (qG i),ic j,ic l,sc m,sc n,ic o],[ic o1,.imm c2,ic p1,ic q1,sc t1,sc u1,ic v1]] 0 0 (strB []) (strB []) j1 p q t u v w w1 x1 y1 z1 a2)))
 |.h4_25 a b c d e f g i j l m n o p q t u v w x y z a1 b1=>
  bif decide (f<e)then
   ixR b f fun c1=>
   un_s c1 fun d1=>
   (g49 k d1 x y z a1 b1).bind fun e1=>
   tup2 e1 fun f1 g1=>
   bif f1 then
    rec (.h7_25 a b c (IntKind.i64.wrap (c+f)) e f g i j l m n o p q t u v w g1 y z a1 b1)
   else
    rec (.h7_25 a b c d e f g i j l m n o p q t u v w g1 y z a1 b1)
  else
   bif d==0 then
    some (.inl (.inr (.inr (g,i,j,l,m,n,o,x,y,z,a1,b1))))
   else
    (g50 k x y z a1 b1).bind fun i1=>
    tup6 i1 fun _ _ _ _ j1 l1=>
    (qoJ (rec (.e_25 (IntKind.i64.wrap (a+1)) l1 (IntKind.i64.wrap (y+1)) z a1 b1))).bind fun m1=>
    altC m1 (fun n1=>
      qoG n1 fun o1 p1 q1 t1 u1 v1 w1 x1 y1 z1 a2=>
      rec (.h6_25 a (a==4) d [[ic g,.imm i,ic j,ic l,sc m,sc n,ic o],[ic o1,.nil,ic p1,ic q1,sc t1,sc u1,ic v1]] 0 0 (strB []) (strB []) j1 p q t u v w w1 x1 y1 z1 a2)) (fun b2=>altC b2 (fun n1=>
      zu n1 fun o1 c2 p1 q1 t1 u1 v1 w1 x1 y1 z1 a2=>
      rec (.h6_25 a (a==4) d [[ic g,.imm i,ic j,ic l,sc m,sc n,ic o],[ic o1,.own 7 c2,ic p1,ic q1,sc t1,sc u1,ic v1]] 0 0 (strB []) (strB []) j1 p q t u v w w1 x1 y1 z1 a2)) (fun n1=>
      zu n1 fun o1 c2 p1 q1 t1 u1 v1 w1 x1 y1 z1 a2=>
      rec (.h6_25 a (a==4) d [[ic g,.imm i,ic j,ic l,sc m,sc n,ic o],[ic o1,.imm c2,ic p1,ic q1,sc t1,sc u1,ic v1]] 0 0 (strB []) (strB []) j1 p q t u v w w1 x1 y1 z1 a2)))
 |.h5_25 a b c d e f g i j l m n o p q t u v w x y z a1 b1=>rec (.h3_25 a b c d e (IntKind.i64.wrap (f+1)) g i j l m n o p q t u v w x y z a1 b1)
 |.h6_25 a b c d e f g i j l m n o p q t u v w x=>
  bif b then
   some (.inl (.inr (.inr (c,qG d,e,f,g,i,j,t,u,v,w,x))))
  else
   rec (.h1_25 a c d e f g i j l m n o p q t u v w x)
 |.h7_25 a b c d e f g i j l m n o p q t u v w x y z a1 b1=>rec (.h4_25 a b c d e (IntKind.i64.wrap (f+1)) g i j l m n o p q t u v w x y z a1 b1)
 |.e_46 a b c d e f=>
  bif a==7 then
   rec (.h0_46 a (strB [45]) 6 0 0 0 (strB []) (strB []) 0 b c d e f)
  else
   rec (.h0_46 a (strB [78,79,84]) 15 0 0 0 (strB []) (strB []) 0 b c d e f)
 |.h0_46 a b c _ _ _ _ _ _ d e f g i=>
  (g49 k b d e f g i).bind fun j=>
  tup2 j fun l m=>
  bif !l then
   (qoJ (rec (.e_25 (IntKind.i64.wrap (a+1)) m e f g i))).bind fun n=>
   altC n (fun o=>
     qoG o fun p q t u v w x y z a1 b1=>
     rec (.h1_46 p [] q t u v w x y z a1 b1)) (fun c1=>altC c1 (fun o=>
     zu o fun p d1 q t u v w x y z a1 b1=>
     rec (.h1_46 p d1 q t u v w x y z a1 b1)) (fun o=>
     zu o fun p d1 q t u v w x y z a1 b1=>
     rec (.h2_46 p d1 q t u v w x y z a1 b1)))
  else
   (g69 k m e f g i).bind fun n=>
   tup6 n fun e1 f1 g1 i1 j1 l1=>
   (qoJ (rec (.e_25 a f1 g1 i1 j1 l1))).bind fun m1=>
   altC m1 (fun n1=>
     qoG n1 fun o1 p1 q1 t1 u1 v1 w1 x1 y1 z1 a2=>
     rec (.h3_46 c [[ic o1,.nil,ic p1,ic q1,sc t1,sc u1,ic v1]] 0 0 (strB []) (strB []) e1 w1 x1 (IntKind.i64.wrap (y1-1)) z1 a2)) (fun b2=>altC b2 (fun n1=>
     zu n1 fun o1 c2 p1 q1 t1 u1 v1 w1 x1 y1 z1 a2=>
     rec (.h3_46 c [[ic o1,.imm (qG c2),ic p1,ic q1,sc t1,sc u1,ic v1]] 0 0 (strB []) (strB []) e1 w1 x1 (IntKind.i64.wrap (y1-1)) z1 a2)) (fun n1=>
     zu n1 fun o1 c2 p1 q1 t1 u1 v1 w1 x1 y1 z1 a2=>
     rec (.h3_46 c [[ic o1,.imm c2,ic p1,ic q1,sc t1,sc u1,ic v1]] 0 0 (strB []) (strB []) e1 w1 x1 (IntKind.i64.wrap (y1-1)) z1 a2)))
 |.h1_46 a b c d e f g i j l m n=>some (.inr (.inl (.inl (a,b,c,d,e,f,g,i,j,l,m,n))))
 |.h2_46 a b c d e f g i j l m n=>some (.inr (.inl (.inr (a,b,c,d,e,f,g,i,j,l,m,n))))
 |.h3_46 a b c d e f g i j l m n=>some (.inr (.inl (.inl (a,b,c,d,e,f,g,i,j,l,m,n))))
 |.e_47 a b c d e=>
  (g50 k a b c d e).bind fun f=>
  tup6 f fun g i j l m n=>
  bif g==3 then
   rec (.h0_47 20 [] j 0 (strB []) (strB []) m 0 0 0 (strB []) (strB []) 0 n (IntKind.i64.wrap (b+1)) c d e)
  else
   bif g==4 then
    rec (.h0_47 21 [] j l (strB []) (strB []) m 0 0 0 (strB []) (strB []) 0 n (IntKind.i64.wrap (b+1)) c d e)
   else
    bif g==5 then
     rec (.h0_47 23 [] 0 0 i (strB []) m 0 0 0 (strB []) (strB []) 0 n (IntKind.i64.wrap (b+1)) c d e)
    else
     bif g==2 then
      (g70 k n b c d e).bind fun o=>
      tup6 o fun p q t u v w=>
      rec (.h0_47 24 [] 0 0 p q m 0 0 0 (strB []) (strB []) 0 t u c v w)
     else
      (g49 k (strB [40]) n b c d e).bind fun o=>
      tup2 o fun x t=>
      bif x then
       (g69 k t b c d e).bind fun y=>
       tup6 y fun z a1 b1 c1 d1 e1=>
       (qoJ (rec (.e_25 1 a1 b1 c1 d1 e1))).bind fun f1=>
       altC f1 (fun g1=>
         qoG g1 fun i1 j1 l1 m1 n1 o1 p1 q1 t1 u1 v1=>
         (g71 k (strB [41]) p1 q1 t1 u1 v1).bind fun w1=>
         tup4 w1 fun x1 y1 z1 a2=>
         rec (.h0_47 i1 [] j1 l1 m1 n1 o1 0 0 0 (strB []) (strB []) 0 x1 y1 (IntKind.i64.wrap (t1-1)) z1 a2)) (fun b2=>altC b2 (fun g1=>
         zu g1 fun i1 c2 j1 l1 m1 n1 o1 p1 q1 t1 u1 v1=>
         (g71 k (strB [41]) p1 q1 t1 u1 v1).bind fun w1=>
         tup4 w1 fun x1 y1 z1 a2=>
         rec (.h0_47 i1 c2 j1 l1 m1 n1 o1 0 0 0 (strB []) (strB []) 0 x1 y1 (IntKind.i64.wrap (t1-1)) z1 a2)) (fun g1=>
         zu g1 fun i1 c2 j1 l1 m1 n1 o1 p1 q1 t1 u1 v1=>
         (g71 k (strB [41]) p1 q1 t1 u1 v1).bind fun w1=>
         tup4 w1 fun x1 y1 z1 a2=>
         rec (.h1_47 i1 c2 j1 l1 m1 n1 o1 0 0 0 (strB []) (strB []) 0 x1 y1 (IntKind.i64.wrap (t1-1)) z1 a2)))
      else
       (g49 k (strB [84,82,85,69]) t b c d e).bind fun y=>
       tup2 y fun z a1=>
       bif z then
        rec (.h2_47 true 0 0 0 (strB []) (strB []) m 0 0 0 (strB []) (strB []) 0 a1 b c d e)
       else
        (g49 k (strB [70,65,76,83,69]) a1 b c d e).bind fun f1=>
        tup2 f1 fun d2 e2=>
        rec (.h2_47 d2 0 0 0 (strB []) (strB []) m 0 0 0 (strB []) (strB []) 0 e2 b c d e)
 |.h0_47 a b c d e f g _ _ _ _ _ _ i j l m n=>some (.inr (.inr (a,qG b,c,d,e,f,g,i,j,l,m,n)))
 |.h1_47 a b c d e f g _ _ _ _ _ _ i j l m n=>some (.inr (.inr (a,b,c,d,e,f,g,i,j,l,m,n)))
 |.h2_47 a b c d e f g i j l m n o p q t u v=>
  bif a then
   (g49 k (strB [84,82,85,69]) p q t u v).bind fun w=>
   tup2 w fun x y=>
   bif x then
    rec (.h3_47 22 1 d e f g i j l m n o y q t u v)
   else
    rec (.h3_47 22 c d e f g i j l m n o y q t u v)
  else
   (g49 k (strB [82,69,65,76]) p q t u v).bind fun w=>
   tup2 w fun x y=>
   bif x then
    rec (.h4_47 true b c d e f g i j l m n o y q t u v)
   else
    (g49 k (strB [73,83,78,65,78]) y q t u v).bind fun z=>
    tup2 z fun a1 b1=>
    rec (.h4_47 a1 b c d e f g i j l m n o b1 q t u v)
 |.h3_47 a b c d e f g i j l m n o p q t u=>rec (.h0_47 a [] b c d e f g i j l m n o (IntKind.i64.wrap (p+1)) q t u)
 |.h4_47 a b c d e f g i j l m n o p q t u v=>
  bif a then
   (g49 k (strB [73,83,78,65,78]) p q t u v).bind fun w=>
   tup2 w fun x y=>
   bif x then
    rec (.h5_47 17 c d e f g i j l m n o y q t u v)
   else
    rec (.h5_47 16 c d e f g i j l m n o y q t u v)
  else
   rec (.h6_47 b [] c d e f g i j l m n o p q t u v)
 |.h5_47 a b c d e f g i j l m n o p q t u=>
  (g69 k o p q t u).bind fun v=>
  tup6 v fun _ w x y z a1=>
  (g71 k (strB [40]) w x y z a1).bind fun b1=>
  tup4 b1 fun c1 d1 e1 f1=>
  (qoJ (rec (.e_25 1 c1 d1 y e1 f1))).bind fun g1=>
  altC g1 (fun i1=>
    qoG i1 fun j1 l1 m1 n1 o1 p1 q1 t1 u1 v1 w1=>
    (g71 k (strB [41]) q1 t1 u1 v1 w1).bind fun x1=>
    tup4 x1 fun y1 z1 a2 b2=>
    rec (.h0_47 a [[ic j1,.nil,ic l1,ic m1,sc n1,sc o1,ic p1]] b c d e f g i j l m n y1 z1 (IntKind.i64.wrap (u1-1)) a2 b2)) (fun c2=>altC c2 (fun i1=>
    zu i1 fun j1 d2 l1 m1 n1 o1 p1 q1 t1 u1 v1 w1=>
    (g71 k (strB [41]) q1 t1 u1 v1 w1).bind fun x1=>
    tup4 x1 fun y1 z1 a2 b2=>
    rec (.h0_47 a [[ic j1,.own 7 d2,ic l1,ic m1,sc n1,sc o1,ic p1]] b c d e f g i j l m n y1 z1 (IntKind.i64.wrap (u1-1)) a2 b2)) (fun i1=>
    zu i1 fun j1 d2 l1 m1 n1 o1 p1 q1 t1 u1 v1 w1=>
    (g71 k (strB [41]) q1 t1 u1 v1 w1).bind fun x1=>
    tup4 x1 fun y1 z1 a2 b2=>
    rec (.h0_47 a [[ic j1,.imm d2,ic l1,ic m1,sc n1,sc o1,ic p1]] b c d e f g i j l m n y1 z1 (IntKind.i64.wrap (u1-1)) a2 b2)))
 |.h6_47 a b c d e f g i j l m n o p q t u v=>
  (g72b k p q t u v a b c d e f g).bind fun w=>
  tup8 w fun x y z a1 b1 c1 d1 e1=>
  rec (.h0_47 b1 c1 c d d1 e1 g i j l m n o x y t z a1)
noncomputable def g25 (k:Nat)(a:Int)(b:Rs)(c d e f:Int):Option qpk:=qoJ (itS qjZ k (.e_25 a b c d e f))
inductive S13 where
 |e (a:Rs)(b:Int)
 |h0 (a:Rs)(b:Int)(c:Bool)(d e f:Int)(g i:By)(j:Int)
 |h1 (a b c d:Int)(e:Rs)(f g:Int)(i j:By)(l:Int)
 |h2 (a:Bool)(b:Int)(c:Rs)(d e:Int)(f g:By)(i:Int)(j:Rs)(l m n o p q t:Int)(u v:By)(w:Int)
 |h3 (a:Bool)(b:Int)(c:Rs)(d e:Int)(f g:By)(i:Int)(j:Rs)(l m n o p q t:Int)(u v:By)(w:Int)
 |h4 (a b c d:Int)(e:Rs)(f g:Int)(i j:By)(l:Int)
 |h5 (a b c d:Int)(e:Rs)(f g:Int)(i j:By)(l:Int)
abbrev R13:=Int×Rs×Int×Int×By×By×Int×Int×Int×Int
noncomputable def zx (k:Nat)(rec:S13→Option R13):S13→Option R13
 |.e a b=>
  bif decide (b<0)then
   rec (.h0 a b true 0 0 0 (strB []) (strB []) 0)
  else
   rec (.h0 a b (decide (b≥(a.length:Int))) 0 0 0 (strB []) (strB []) 0)
 |.h0 a b c d e f g i j=>
  bif c then
   rec (.h1 0 0 1 0 [] 0 0 (strB []) (strB []) 0)
  else
   (g25 k 1 a b 0 0 0).bind fun l=>
   altC l (fun m=>
     qoG m fun n o p q t u v w x y z=>
     rec (.h2 (y != 0) n [] o p q t u v w x y z d e f g i j)) (fun a1=>altC a1 (fun m=>
     zu m fun n b1 o p q t u v w x y z=>
     rec (.h2 (y != 0) n b1 o p q t u v w x y z d e f g i j)) (fun m=>
     zu m fun n b1 o p q t u v w x y z=>
     rec (.h3 (y != 0) n b1 o p q t u v w x y z d e f g i j)))
 |.h1 a b c d e f g i j l=>some (d,e,f,g,i,j,l,a,b,c)
 |.h2 a b c d e f g i _ j _ l m ..=>
  bif a then
   rec (.h4 0 m l 0 [] 0 0 (strB []) (strB []) 0)
  else
   rec (.h5 j 0 0 b (qG c) d e f g i)
 |.h3 a b c d e f g i _ j _ l m ..=>
  bif a then
   rec (.h4 0 m l 0 [] 0 0 (strB []) (strB []) 0)
  else
   rec (.h5 j 0 0 b c d e f g i)
 |.h4 a b c d e f g i j l=>some (d,e,f,g,i,j,l,a,b,c)
 |.h5 a b c d e f g i j l=>some (d,e,f,g,i,j,l,a,b,c)
noncomputable def g13 (k:Nat)(a:Rs)(b:Int):Option R13:=itS zx k (.e a b)
inductive S18 where
 |e (a:Int)(b:Rs)(c d:Int)(e f:By)(g:Int)
 |h0 (a b c d:Int)(e:Rs)(f g:Int)(i j:By)(l:Int)
abbrev R18:=Int
def qlw:R18→ARes
 |r=>.ret (.c (ic r))
def bx18:R18→List (List Cell)
 |_=>[]
noncomputable def qj2 (k:Nat)(rec:S18→Option R18):S18→Option R18
 |.e a b c d e f g=>rec (.h0 1 (b.length:Int) 0 a b c d e f g)
 |.h0 a b c d e f g i j l=>
  bif decide (c<b)then
   ixR e c fun m=>
   qE m fun n o p q t u v=>
   (rec (.e n o p q t u v)).bind fun w=>
   rec (.h0 (IntKind.i64.wrap (a+w)) b (IntKind.i64.wrap (c+1)) d e f g i j l)
  else
   some a
noncomputable def g18 (k:Nat)(a:Int)(b:Rs)(c d:Int)(e f:By)(g:Int):Option R18:=itS qj2 k (.e a b c d e f g)
noncomputable def P18:S18→R18→Prop
 |.e a b c d e f g,r=>Fin cx18 Tryz.f18 [.code qne] (fr0 Tryz.f18 [.ag [ic a,.imm b,ic c,ic d,sc e,sc f,ic g]] []) (qlw r) (bx18 r)
 |.h0 a b c d e f g i j l,r=>Fin cx18 Tryz.f18 (kAt qne [1,1,0,1,0,4] []) ⟨[.deadv,pL 1,.deadv,.c (ic a)]++rep 3 .deadv++[.c (ic b),.c (ic c)]++rep 12 .deadv,[(.loc 1,[ic d,.imm e,ic f,ic g,sc i,sc j,ic l])]⟩ (qlw r) (bx18 r)
abbrev E18 (a:Int)(b:Rs)(c d:Int)(e f:By)(g:Int)(r:R18):Prop:=Ev Tryz.prog noHand 18 [.ag [ic a,.imm b,ic c,ic d,sc e,sc f,ic g]] [] (qlw r) (bx18 r)
theorem qlt {a:Int}{b:Rs}{c d:Int}{e f:By}{g:Int}{r:R18}(h:P18 (.e a b c d e f g) r):E18 a b c d e f g r:=evF h
theorem ok18:∀ k s r,itS qj2 k s=some r→P18 s r:=qF fun k rec ih s r h=>match s,h with
 |.e ..,h=>by exact mA 0 (ih _ _ h) 9 [] 21 2096757
 |.h0 ..,h=>by
  rcases qa h with⟨a,h⟩|⟨a,h⟩
  · obtain⟨_,b,h⟩:=YJ h;replace h:=zB h;obtain⟨_,_,_,_,_,_,_,rfl,h⟩:=h;obtain⟨_,c,h⟩:=qh h;exact mA 0 (ih _ _ h) 13 [tT 9 a,rA 15 b,cA 17 (qlt (ih _ _ c))] 21 2096757
  · cases h;exact mF 0 [tF 9 a]
theorem ev18 {k:Nat}{a:Int}{b:Rs}{c d:Int}{e f:By}{g:Int}{r:R18}(h:g18 k a b c d e f g=some r):E18 a b c d e f g r:=qlt (ok18 _ _ _ h)
inductive S7 where
 |e (a:By)
 |h0 (a b c:Int)(d:Rs)(e f:Int)(g i:By)(j:Int)
 |h1 (a b c:Int)(d:Rs)(e f:Int)(g i:By)(j:Int)
 |h2 (a b c:Int)(d:Rs)(e f:Int)(g i:By)(j:Int)
 |h3 (a b c:Int)(d:Rs)(e f:Int)(g i:By)(j:Int)
 |h4 (a b c:Int)(d:Rs)(e f:Int)(g i:By)(j:Int)
abbrev R7:=Int×Rs×Int×Int×By×By×Int×Int×Int
noncomputable def qm4 (k:Nat)(rec:S7→Option R7):S7→Option R7
 |.e a=>
  (g11 k a).bind fun b=>
  tup3 b fun c d e=>
  bif e != 0 then
   rec (.h0 d e 0 [] 0 0 (strB []) (strB []) 0)
  else
   (g13 k (qG c) 0).bind fun f=>
   ql f fun g i j l m n o p q t=>
   bif t != 0 then
    rec (.h1 q t 0 [] 0 0 (strB []) (strB []) 0)
   else
    ixR (qG c) p fun u=>
    qaM u fun v _ _ _ w=>
    bif v != 0 then
     rec (.h2 w 13 0 [] 0 0 (strB []) (strB []) 0)
    else
     (g18 k g i j l m n o).bind fun x=>
     bif decide (x>200)then
      rec (.h3 0 2 0 [] 0 0 (strB []) (strB []) 0)
     else
      rec (.h4 0 0 g i j l m n o)
 |.h0 a b c d e f g i j=>some (c,d,e,f,g,i,j,a,b)
 |.h1 a b c d e f g i j=>some (c,d,e,f,g,i,j,a,b)
 |.h2 a b c d e f g i j=>some (c,d,e,f,g,i,j,a,b)
 |.h3 a b c d e f g i j=>some (c,d,e,f,g,i,j,a,b)
 |.h4 a b c d e f g i j=>some (c,d,e,f,g,i,j,a,b)
noncomputable def g7 (k:Nat)(a:By):Option R7:=itS qm4 k (.e a)
inductive S51 where
 |e (a:Int)
 |h0 (a:Int)(b:Bool)
 |h1 (a:Int)(b:Bool)
 |h2 (a:Bool)
abbrev R51:=Int
def qmz:R51→ARes
 |r=>.ret (.c (ic r))
def bx51:R51→List (List Cell)
 |_=>[]
noncomputable def qss (k:Nat)(rec:S51→Option R51):S51→Option R51
 |.e a=>
  bif a==6 then
   rec (.h0 a true)
  else
   bif a==15 then
    rec (.h0 a true)
   else
    bif a==16 then
     rec (.h0 a true)
    else
     rec (.h0 a (a==17))
 |.h0 a b=>
  bif b then
   some 1
  else
   bif decide (a≥1)then
    rec (.h1 a (decide (a≤14)))
   else
    rec (.h1 a false)
 |.h1 a b=>
  bif b then
   some 2
  else
   bif decide (a≥20)then
    rec (.h2 (decide (a≤31)))
   else
    rec (.h2 false)
 |.h2 a=>
  bif a then
   some 0
  else
   some (-1)
noncomputable def g51 (k:Nat)(a:Int):Option R51:=itS qss k (.e a)
noncomputable def P51:S51→R51→Prop
 |.e a,r=>Fin cx51 Tryz.f51 [.code qhR] (fr0 Tryz.f51 [.c (ic a)] []) (qmz r) (bx51 r)
 |.h0 a b,r=>Fin cx51 Tryz.f51 (kAt qhR [1,0,0,1,2] []) ⟨[.c (ic a),.deadv,.deadv,.c (bc b)]++rep 28 .deadv,[]⟩ (qmz r) (bx51 r)
 |.h1 a b,r=>Fin cx51 Tryz.f51 (kAt qhR [1,0,0,1,1,1,2] []) ⟨[.c (ic a)]++rep 17 .deadv++[.c (bc b)]++rep 13 .deadv,[]⟩ (qmz r) (bx51 r)
 |.h2 a,r=>Fin cx51 Tryz.f51 (kAt qhR [1,0,0,1,1,1,1,1,2] []) ⟨rep 25 .deadv++[.c (bc a)]++rep 6 .deadv,[]⟩ (qmz r) (bx51 r)
abbrev E51 (a:Int)(r:R51):Prop:=Ev Tryz.prog noHand 51 [.c (ic a)] [] (qmz r) (bx51 r)
theorem qmK {a:Int}{r:R51}(h:P51 (.e a) r):E51 a r:=evF h
theorem ok51:∀ k s r,itS qss k s=some r→P51 s r:=qF fun k rec ih s r h=>match s,h with
 |.e ..,h=>by
  rcases qa h with⟨a,h⟩|⟨a,h⟩
  · exact mA 0 (ih _ _ h) 6 [tT 5 a] 32 4294967286
  ·
   rcases qa h with⟨b,h⟩|⟨b,h⟩
   · exact mA 0 (ih _ _ h) 6 [tF 5 a,tT 8 b] 32 4294967286
   · rcases qa h with⟨c,h⟩|⟨c,h⟩
     · exact mA 0 (ih _ _ h) 6 [tF 5 a,tF 8 b,tT 12 c] 32 4294967286
     · exact mA 0 (ih _ _ h) 6 [tF 5 a,tF 8 b,tF 12 c] 32 4294967286
 |.h0 ..,h=>by
  replace h:=qa h;rcases h with⟨rfl,h⟩|⟨rfl,h⟩
  · cases h;exact mF 0 []
  · rcases qa h with⟨a,h⟩|⟨a,h⟩
    · exact mA 0 (ih _ _ h) 3 [tT 20 a] 32 4294705150
    · exact mA 0 (ih _ _ h) 3 [tF 20 a] 32 4294705150
 |.h1 ..,h=>by
  replace h:=qa h;rcases h with⟨rfl,h⟩|⟨rfl,h⟩
  · cases h;exact mF 0 []
  · rcases qa h with⟨a,h⟩|⟨a,h⟩
    · exact mA 0 (ih _ _ h) 3 [tT 27 a] 32 4261412863
    · exact mA 0 (ih _ _ h) 3 [tF 27 a] 32 4261412863
 |.h2 ..,h=>by
  replace h:=qa h;rcases h with⟨rfl,h⟩|⟨rfl,h⟩
  · cases h;exact mF 0 []
  · cases h;exact mF 0 []
theorem ev51 {k:Nat}{a:Int}{r:R51}(h:g51 k a=some r):E51 a r:=qmK (ok51 _ _ _ h)
inductive S73 where
 |e (a:Int)(b:By)(c d e:Int)
 |h0 (a:By)(b:Int)(c:By)(d e f:Int)
 |h1 (a:By)(b:Bool)(c:Int)(d:By)(e f g:Int)
abbrev R73:=By
def qrV:R73→ARes
 |r=>.ret (.c (sc r))
def bx73:R73→List (List Cell)
 |_=>[]
noncomputable def qsw (k:Nat)(rec:S73→Option R73):S73→Option R73
 |.e a b c d e=>
  bif a==3 then
   (fmtX c).bind fun f=>
   some f
  else
   bif a==4 then
    (fmtX c).bind fun g=>
    rec (.h0 g a b c d e)
   else
    bif a==5 then
     gd (decide ((strB [39]).size+b.size≤1000000000)) <|
     gd (decide (((strB [39])++b).size+(strB [39]).size≤1000000000)) <|
     some (((strB [39])++b)++(strB [39]))
    else
     some b
 |.h0 a b c d e f=>
  bif decide ((a.size:Int)≤e)then
   gd (decide ((strB [48]).size+a.size≤1000000000)) <|
   rec (.h0 ((strB [48])++a) b c d e f)
  else
   bif decide (e<0)then
    rec (.h1 a true b c d e f)
   else
    rec (.h1 a (decide ((a.size:Int)<e)) b c d e f)
 |.h1 a b _ _ _ c ..=>
  bif b then
   some (strB [])
  else
   gd (decide (0≤(0:Int)∧(0:Int)≤(IntKind.i64.wrap ((a.size:Int)-c))∧(IntKind.i64.wrap ((a.size:Int)-c))≤(a.size:Int))) <|
   gd (decide ((a.extract (Int.toNat (0:Int)) (Int.toNat (IntKind.i64.wrap ((a.size:Int)-c)))).size+(strB [46]).size≤1000000000)) <|
   gd (decide (0≤(IntKind.i64.wrap ((a.size:Int)-c))∧(IntKind.i64.wrap ((a.size:Int)-c))≤(a.size:Int)∧(a.size:Int)≤(a.size:Int))) <|
   gd (decide (((a.extract (Int.toNat (0:Int)) (Int.toNat (IntKind.i64.wrap ((a.size:Int)-c))))++(strB [46])).size+(a.extract (Int.toNat (IntKind.i64.wrap ((a.size:Int)-c))) (Int.toNat (a.size:Int))).size≤1000000000)) <|
   some (((a.extract (Int.toNat (0:Int)) (Int.toNat (IntKind.i64.wrap ((a.size:Int)-c))))++(strB [46]))++(a.extract (Int.toNat (IntKind.i64.wrap ((a.size:Int)-c))) (Int.toNat (a.size:Int))))
noncomputable def g73 (k:Nat)(a:Int)(b:By)(c d e:Int):Option R73:=itS qsw k (.e a b c d e)
noncomputable def P73:S73→R73→Prop
 |.e a b c d e,r=>Fin cx73 Tryz.f73 [.code qrf] (fr0 Tryz.f73 [.ag [ic a,sc b,ic c,ic d,ic e]] []) (qrV r) (bx73 r)
 |.h0 a b c d e f,r=>Fin cx73 Tryz.f73 (kAt qrf [1,0,1,0,1,1,1,0,1,0,0,4] []) ⟨[.deadv,pL 1,.deadv,.c (sc a)]++rep 53 .deadv,[(.loc 1,[ic b,sc c,ic d,ic e,ic f])]⟩ (qrV r) (bx73 r)
 |.h1 a b c d e f g,r=>Fin cx73 Tryz.f73 (kAt qrf [1,0,1,0,1,1,1,0,1,1,0,1,2] []) ⟨[.deadv,pL 1,.deadv,.c (sc a)]++rep 28 .deadv++[.c (bc b)]++rep 24 .deadv,[(.loc 1,[ic c,sc d,ic e,ic f,ic g])]⟩ (qrV r) (bx73 r)
abbrev E73 (a:Int)(b:By)(c d e:Int)(r:R73):Prop:=Ev Tryz.prog noHand 73 [.ag [ic a,sc b,ic c,ic d,ic e]] [] (qrV r) (bx73 r)
theorem qux {a:Int}{b:By}{c d e:Int}{r:R73}(h:P73 (.e a b c d e) r):E73 a b c d e r:=evF h
theorem ok73:∀ k s r,itS qsw k s=some r→P73 s r:=qF fun k rec ih s r h=>match s,h with
 |.e ..,h=>by
  rcases qa h with⟨a,h⟩|⟨a,h⟩
  · obtain⟨_,b,h⟩:=qh h;cases h;exact mF 0 [tT 7 a,cA 10 (qij b)]
  ·
   rcases qa h with⟨c,h⟩|⟨c,h⟩
   · obtain⟨_,d,h⟩:=qh h;exact mA 0 (ih _ _ h) 17 [tF 7 a,tT 12 c,cA 15 (qij d)] 57 144115188075855861
   · rcases qa h with⟨b,h⟩|⟨b,h⟩
     · obtain⟨d,h⟩:=zo h;obtain⟨e,h⟩:=zo h;cases h;exact mF 0 [tF 7 a,tF 12 c,tT 50 b,xC 53 d,xC 54 e]
     · cases h;exact mF 0 [tF 7 a,tF 12 c,tF 50 b]
 |.h0 ..,h=>by
  rcases qa h with⟨a,h⟩|⟨a,h⟩
  · obtain⟨b,h⟩:=zo h;exact mA 0 (ih _ _ h) 9 [tT 20 a,xC 22 b] 57 144115188075855861
  · rcases qa h with⟨b,h⟩|⟨b,h⟩
    · exact mA 0 (ih _ _ h) 9 [tF 20 a,tT 25 b] 57 144115183780888565
    · exact mA 0 (ih _ _ h) 9 [tF 20 a,tF 25 b] 57 144115183780888565
 |.h1 ..,h=>by
  replace h:=qa h;rcases h with⟨rfl,h⟩|⟨rfl,h⟩
  · cases h;exact mF 0 []
  · obtain⟨a,h⟩:=zo h;obtain⟨b,h⟩:=zo h;obtain⟨c,h⟩:=zo h;obtain⟨d,h⟩:=zo h;cases h;exact mF 0 [xS 39 a,xC 40 b,xS 47 c,xC 48 d]
theorem ev73 {k:Nat}{a:Int}{b:By}{c d e:Int}{r:R73}(h:g73 k a b c d e=some r):E73 a b c d e r:=qux (ok73 _ _ _ h)
inductive S52 where
 |e (a:Int)(b:Rs)(c d:Int)(e f:By)(g:Int)
 |h0 (a:Bool)(b:Int)(c:Rs)(d e:Int)(f g:By)(i:Int)
abbrev R52:=Bool
def qlx:R52→ARes
 |r=>.ret (.c (bc r))
def bx52:R52→List (List Cell)
 |_=>[]
noncomputable def qfC (k:Nat)(rec:S52→Option R52):S52→Option R52
 |.e a b c d e f g=>
  bif decide (a≥23)then
   bif decide (a≤31)then
    bif a != 23 then
     (YF e).bind fun i=>
     bif true != i then
      rec (.h0 true a b c d e f g)
     else
      (YF f).bind fun j=>
      bif j then
       bif (a != 25)!=true then
        rec (.h0 true a b c d e f g)
       else
        bif !(a != 25)then
         rec (.h0 (!(f.toList==(strB []).toList)) a b c d e f g)
        else
         rec (.h0 false a b c d e f g)
      else
       bif (a != 25)!=(f.toList==(strB [84,73,77,69]).toList)then
        rec (.h0 true a b c d e f g)
       else
        bif !(a != 25)then
         rec (.h0 (!(f.toList==(strB []).toList)) a b c d e f g)
        else
         rec (.h0 false a b c d e f g)
    else
     (YF e).bind fun i=>
     bif true != i then
      rec (.h0 true a b c d e f g)
     else
      (YF f).bind fun j=>
      bif j then
       rec (.h0 true a b c d e f g)
      else
       bif false != (f.toList==(strB [84,73,77,69]).toList)then
        rec (.h0 true a b c d e f g)
       else
        rec (.h0 (!(f.toList==(strB []).toList)) a b c d e f g)
   else
    (YF e).bind fun l=>
    bif false != l then
     rec (.h0 true a b c d e f g)
    else
     bif !(e.toList==(strB []).toList)then
      rec (.h0 true a b c d e f g)
     else
      (YF f).bind fun j=>
      bif j then
       rec (.h0 true a b c d e f g)
      else
       bif false != (f.toList==(strB [84,73,77,69]).toList)then
        rec (.h0 true a b c d e f g)
       else
        rec (.h0 (!(f.toList==(strB []).toList)) a b c d e f g)
  else
   (YF e).bind fun m=>
   bif false != m then
    rec (.h0 true a b c d e f g)
   else
    bif !(e.toList==(strB []).toList)then
     rec (.h0 true a b c d e f g)
    else
     (YF f).bind fun n=>
     bif n then
      rec (.h0 true a b c d e f g)
     else
      bif false != (f.toList==(strB [84,73,77,69]).toList)then
       rec (.h0 true a b c d e f g)
      else
       rec (.h0 (!(f.toList==(strB []).toList)) a b c d e f g)
 |.h0 a b _ c d ..=>
  bif a then
   some false
  else
   bif b==20 then
    bif decide (c≥0)then
     some (d==0)
    else
     some false
   else
    bif b==22 then
     bif decide (c≥0)then
      bif decide (c≤1)then
       some (d==0)
      else
       some false
     else
      some false
    else
     bif b==21 then
      bif decide (c≥0)then
       bif decide (d≥1)then
        bif decide (d≤14)then
         (g73 k 4 (strB []) c d 0).bind fun e=>
         some (decide ((e.size:Int)≤16))
        else
         some false
       else
        some false
      else
       some false
     else
      bif c==0 then
       some (d==0)
      else
       some false
noncomputable def g52 (k:Nat)(a:Int)(b:Rs)(c d:Int)(e f:By)(g:Int):Option R52:=itS qfC k (.e a b c d e f g)
noncomputable def P52:S52→R52→Prop
 |.e a b c d e f g,r=>Fin cx52 Tryz.f52 [.code qmV] (fr0 Tryz.f52 [.ag [ic a,.imm b,ic c,ic d,sc e,sc f,ic g]] []) (qlx r) (bx52 r)
 |.h0 a b c d e f g i,r=>Fin cx52 Tryz.f52 (kAt qmV [1,1,1,0,1,2] []) ⟨[.deadv,pL 1]++rep 56 .deadv++[.c (bc a)]++rep 60 .deadv,[(.loc 1,[ic b,.imm c,ic d,ic e,sc f,sc g,ic i])]⟩ (qlx r) (bx52 r)
abbrev E52 (a:Int)(b:Rs)(c d:Int)(e f:By)(g:Int)(r:R52):Prop:=Ev Tryz.prog noHand 52 [.ag [ic a,.imm b,ic c,ic d,sc e,sc f,ic g]] [] (qlx r) (bx52 r)
theorem qnn {a:Int}{b:Rs}{c d:Int}{e f:By}{g:Int}{r:R52}(h:P52 (.e a b c d e f g) r):E52 a b c d e f g r:=evF h
theorem ok52:∀ k s r,itS qfC k s=some r→P52 s r:=qF fun k rec ih s r h=>match s,h with
 |.e ..,h=>by
  rcases qa h with⟨a,h⟩|⟨a,h⟩
  ·
   rcases qa h with⟨b,h⟩|⟨b,h⟩
   ·
    rcases qa h with⟨c,h⟩|⟨c,h⟩
    ·
     obtain⟨_,d,h⟩:=qh h;rcases qa h with⟨e,h⟩|⟨e,h⟩
     · exact mA 0 (ih _ _ h) 9 [tT 7 a,tT 11 b,tT 17 c,cA 27 (qi d),tT 28 e] 119 664613997892457936163673153988460541
     ·
      obtain⟨_,f,h⟩:=qh h;replace h:=qa h;rcases h with⟨rfl,h⟩|⟨rfl,h⟩
      · rcases qa h with⟨g,h⟩|⟨g,h⟩
        · exact mA 0 (ih _ _ h) 9 [tT 7 a,tT 11 b,tT 17 c,cA 27 (qi d),tF 28 e,cA 42 (qi f),tT 48 g] 119 664613997892457936163673153988460541
        · rcases qa h with⟨i,h⟩|⟨i,h⟩
          · exact mA 0 (ih _ _ h) 9 [tT 7 a,tT 11 b,tT 17 c,cA 27 (qi d),tF 28 e,cA 42 (qi f),tF 48 g,tT 52 i] 119 664613997892457936163673153988460541
          · exact mA 0 (ih _ _ h) 9 [tT 7 a,tT 11 b,tT 17 c,cA 27 (qi d),tF 28 e,cA 42 (qi f),tF 48 g,tF 52 i] 119 664613997892457936163673153988460541
      · rcases qa h with⟨g,h⟩|⟨g,h⟩
        · exact mA 0 (ih _ _ h) 9 [tT 7 a,tT 11 b,tT 17 c,cA 27 (qi d),tF 28 e,cA 42 (qi f),tT 48 g] 119 664613997892457936163673153988460541
        · rcases qa h with⟨i,h⟩|⟨i,h⟩
          · exact mA 0 (ih _ _ h) 9 [tT 7 a,tT 11 b,tT 17 c,cA 27 (qi d),tF 28 e,cA 42 (qi f),tF 48 g,tT 52 i] 119 664613997892457936163673153988460541
          · exact mA 0 (ih _ _ h) 9 [tT 7 a,tT 11 b,tT 17 c,cA 27 (qi d),tF 28 e,cA 42 (qi f),tF 48 g,tF 52 i] 119 664613997892457936163673153988460541
    ·
     obtain⟨_,d,h⟩:=qh h;rcases qa h with⟨e,h⟩|⟨e,h⟩
     · exact mA 0 (ih _ _ h) 9 [tT 7 a,tT 11 b,tF 17 c,cA 27 (qi d),tT 28 e] 119 664613997892457936163673153988460541
     · obtain⟨_,f,h⟩:=qh h;replace h:=qa h;rcases h with⟨rfl,h⟩|⟨rfl,h⟩
       · exact mA 0 (ih _ _ h) 9 [tT 7 a,tT 11 b,tF 17 c,cA 27 (qi d),tF 28 e,cA 42 (qi f)] 119 664613997892457936163673153988460541
       · rcases qa h with⟨g,h⟩|⟨g,h⟩
         · exact mA 0 (ih _ _ h) 9 [tT 7 a,tT 11 b,tF 17 c,cA 27 (qi d),tF 28 e,cA 42 (qi f),tT 48 g] 119 664613997892457936163673153988460541
         · exact mA 0 (ih _ _ h) 9 [tT 7 a,tT 11 b,tF 17 c,cA 27 (qi d),tF 28 e,cA 42 (qi f),tF 48 g] 119 664613997892457936163673153988460541
   ·
    obtain⟨_,j,h⟩:=qh h;rcases qa h with⟨d,h⟩|⟨d,h⟩
    · exact mA 0 (ih _ _ h) 9 [tT 7 a,tF 11 b,cA 27 (qi j),tT 28 d] 119 664613997892457936163673153988460541
    ·
     rcases qa h with⟨e,h⟩|⟨e,h⟩
     · exact mA 0 (ih _ _ h) 9 [tT 7 a,tF 11 b,cA 27 (qi j),tF 28 d,tT 35 e] 119 664613997892457936163673153988460541
     · obtain⟨_,f,h⟩:=qh h;replace h:=qa h;rcases h with⟨rfl,h⟩|⟨rfl,h⟩
       · exact mA 0 (ih _ _ h) 9 [tT 7 a,tF 11 b,cA 27 (qi j),tF 28 d,tF 35 e,cA 42 (qi f)] 119 664613997892457936163673153988460541
       · rcases qa h with⟨g,h⟩|⟨g,h⟩
         · exact mA 0 (ih _ _ h) 9 [tT 7 a,tF 11 b,cA 27 (qi j),tF 28 d,tF 35 e,cA 42 (qi f),tT 48 g] 119 664613997892457936163673153988460541
         · exact mA 0 (ih _ _ h) 9 [tT 7 a,tF 11 b,cA 27 (qi j),tF 28 d,tF 35 e,cA 42 (qi f),tF 48 g] 119 664613997892457936163673153988460541
  ·
   obtain⟨_,c,h⟩:=qh h;rcases qa h with⟨j,h⟩|⟨j,h⟩
   · exact mA 0 (ih _ _ h) 9 [tF 7 a,cA 27 (qi c),tT 28 j] 119 664613997892457936163673153988460541
   ·
    rcases qa h with⟨d,h⟩|⟨d,h⟩
    · exact mA 0 (ih _ _ h) 9 [tF 7 a,cA 27 (qi c),tF 28 j,tT 35 d] 119 664613997892457936163673153988460541
    ·
     obtain⟨_,l,h⟩:=qh h;replace h:=qa h;rcases h with⟨rfl,h⟩|⟨rfl,h⟩
     · exact mA 0 (ih _ _ h) 9 [tF 7 a,cA 27 (qi c),tF 28 j,tF 35 d,cA 42 (qi l)] 119 664613997892457936163673153988460541
     · rcases qa h with⟨f,h⟩|⟨f,h⟩
       · exact mA 0 (ih _ _ h) 9 [tF 7 a,cA 27 (qi c),tF 28 j,tF 35 d,cA 42 (qi l),tT 48 f] 119 664613997892457936163673153988460541
       · exact mA 0 (ih _ _ h) 9 [tF 7 a,cA 27 (qi c),tF 28 j,tF 35 d,cA 42 (qi l),tF 48 f] 119 664613997892457936163673153988460541
 |.h0 ..,h=>by
  replace h:=qa h;rcases h with⟨rfl,h⟩|⟨rfl,h⟩
  · cases h;exact mF 0 []
  ·
   rcases qa h with⟨a,h⟩|⟨a,h⟩
   · rcases qa h with⟨b,h⟩|⟨b,h⟩
     · cases h;exact mF 0 [tT 62 a,tT 65 b]
     · cases h;exact mF 0 [tT 62 a,tF 65 b]
   ·
    rcases qa h with⟨b,h⟩|⟨b,h⟩
    ·
     rcases qa h with⟨c,h⟩|⟨c,h⟩
     · rcases qa h with⟨d,h⟩|⟨d,h⟩
       · cases h;exact mF 0 [tF 62 a,tT 72 b,tT 75 c,tT 79 d]
       · cases h;exact mF 0 [tF 62 a,tT 72 b,tT 75 c,tF 79 d]
     · cases h;exact mF 0 [tF 62 a,tT 72 b,tF 75 c]
    ·
     rcases qa h with⟨c,h⟩|⟨c,h⟩
     ·
      rcases qa h with⟨d,h⟩|⟨d,h⟩
      · rcases qa h with⟨e,h⟩|⟨e,h⟩
        · rcases qa h with⟨f,h⟩|⟨f,h⟩
          · obtain⟨_,g,h⟩:=qh h;cases h;exact mF 0 [tF 62 a,tF 72 b,tT 87 c,tT 90 d,tT 94 e,tT 99 f,cA 107 (ev73 g)]
          · cases h;exact mF 0 [tF 62 a,tF 72 b,tT 87 c,tT 90 d,tT 94 e,tF 99 f]
        · cases h;exact mF 0 [tF 62 a,tF 72 b,tT 87 c,tT 90 d,tF 94 e]
      · cases h;exact mF 0 [tF 62 a,tF 72 b,tT 87 c,tF 90 d]
     · rcases qa h with⟨d,h⟩|⟨d,h⟩
       · cases h;exact mF 0 [tF 62 a,tF 72 b,tF 87 c,tT 113 d]
       · cases h;exact mF 0 [tF 62 a,tF 72 b,tF 87 c,tF 113 d]
theorem ev52 {k:Nat}{a:Int}{b:Rs}{c d:Int}{e f:By}{g:Int}{r:R52}(h:g52 k a b c d e f g=some r):E52 a b c d e f g r:=qnn (ok52 _ _ _ h)
inductive S26 where
 |e (a:Int)(b:Rs)(c d:Int)(e f:By)(g:Int)
 |h0 (a:Bool)(b:Int)(c:Rs)(d e:Int)(f g:By)(i:Int)
 |h1 (a:Rs)(b c:Int)
abbrev R26:=Bool
def qlX:R26→ARes
 |r=>.ret (.c (bc r))
def bx26:R26→List (List Cell)
 |_=>[]
noncomputable def qsr (k:Nat)(rec:S26→Option R26):S26→Option R26
 |.e a b c d e f g=>
  (g51 k a).bind fun i=>
  bif i != (b.length:Int)then
   rec (.h0 true a b c d e f g)
  else
   (g52 k a b c d e f g).bind fun j=>
   rec (.h0 (!j) a b c d e f g)
 |.h0 a _ b ..=>
  bif a then
   some false
  else
   rec (.h1 b (b.length:Int) 0)
 |.h1 a b c=>
  bif decide (c<b)then
   ixR a c fun d=>
   qE d fun e f g i j l m=>
   (rec (.e e f g i j l m)).bind fun n=>
   bif !n then
    some false
   else
    rec (.h1 a b (IntKind.i64.wrap (c+1)))
  else
   some true
noncomputable def g26 (k:Nat)(a:Int)(b:Rs)(c d:Int)(e f:By)(g:Int):Option R26:=itS qsr k (.e a b c d e f g)
noncomputable def P26:S26→R26→Prop
 |.e a b c d e f g,r=>Fin cx26 Tryz.f26 [.code qlT] (fr0 Tryz.f26 [.ag [ic a,.imm b,ic c,ic d,sc e,sc f,ic g]] []) (qlX r) (bx26 r)
 |.h0 a b c d e f g i,r=>Fin cx26 Tryz.f26 (kAt qlT [1,0,1,2] []) ⟨[.deadv,pL 1]++rep 14 .deadv++[.c (bc a)]++rep 11 .deadv,[(.loc 1,[ic b,.imm c,ic d,ic e,sc f,sc g,ic i])]⟩ (qlX r) (bx26 r)
 |.h1 a b c,r=>Fin cx26 Tryz.f26 (kAt qlT [1,1,0,1,0,4] []) ⟨rep 18 .deadv++[.c (.imm a),.c (ic b),.c (ic c)]++rep 7 .deadv,[]⟩ (qlX r) (bx26 r)
abbrev E26 (a:Int)(b:Rs)(c d:Int)(e f:By)(g:Int)(r:R26):Prop:=Ev Tryz.prog noHand 26 [.ag [ic a,.imm b,ic c,ic d,sc e,sc f,ic g]] [] (qlX r) (bx26 r)
theorem qh0 {a:Int}{b:Rs}{c d:Int}{e f:By}{g:Int}{r:R26}(h:P26 (.e a b c d e f g) r):E26 a b c d e f g r:=evF h
theorem ok26:∀ k s r,itS qsr k s=some r→P26 s r:=qF fun k rec ih s r h=>match s,h with
 |.e ..,h=>by
  obtain⟨_,a,h⟩:=qh h;rcases qa h with⟨b,h⟩|⟨b,h⟩
  · exact mA 0 (ih _ _ h) 5 [cA 7 (ev51 a),tT 11 b] 28 268369917
  · obtain⟨_,c,h⟩:=qh h;exact mA 0 (ih _ _ h) 5 [cA 7 (ev51 a),tF 11 b,cA 14 (ev52 c)] 28 268369917
 |.h0 ..,h=>by
  replace h:=qa h;rcases h with⟨rfl,h⟩|⟨rfl,h⟩
  · cases h;exact mF 0 []
  · exact mG 0 (ih _ _ h) 7 [] 28 266600447 [1] []
 |.h1 ..,h=>by
  rcases qa h with⟨a,h⟩|⟨a,h⟩
  · obtain⟨_,b,h⟩:=YJ h;replace h:=zB h;obtain⟨_,_,_,_,_,_,_,rfl,h⟩:=h;obtain⟨_,c,h⟩:=qh h;rcases qa h with⟨d,h⟩|⟨d,h⟩
    · cases h;exact mF 0 [tT 21 a,rA 22 b,cA 25 (qh0 (ih _ _ c)),tT 26 d]
    · exact mG 0 (ih _ _ h) 16 [tT 21 a,rA 22 b,cA 25 (qh0 (ih _ _ c)),tF 26 d] 28 266600447 [4] []
  · cases h;exact mF 0 [tF 21 a]
theorem ev26 {k:Nat}{a:Int}{b:Rs}{c d:Int}{e f:By}{g:Int}{r:R26}(h:g26 k a b c d e f g=some r):E26 a b c d e f g r:=qh0 (ok26 _ _ _ h)
inductive S53 where
 |e (a:Int)
 |h0 (a:Int)(b:Bool)
 |h1 (a:Int)(b:Bool)
 |h2 (a:Int)(b:Bool)
abbrev R53:=Int×Int×Int
def qrz:R53→ARes
 |(a,b,c)=>.ret ⟨.tup [false,false,false],[[ic a],[ic b],[ic c]]⟩
def bx53:R53→List (List Cell)
 |(_,_,_)=>[]
noncomputable def qst (k:Nat)(rec:S53→Option R53):S53→Option R53
 |.e a=>
  bif a==14 then
   some (1,1,2)
  else
   bif a==13 then
    some (2,2,3)
   else
    bif a==15 then
     some (3,3,3)
    else
     bif decide (a≥7)then
      rec (.h0 a (decide (a≤12)))
     else
      rec (.h0 a false)
 |.h0 a b=>
  bif b then
   some (4,5,5)
  else
   bif a==1 then
    rec (.h1 a true)
   else
    rec (.h1 a (a==2))
 |.h1 a b=>
  bif b then
   some (5,5,6)
  else
   bif decide (a≥3)then
    rec (.h2 a (decide (a≤5)))
   else
    rec (.h2 a false)
 |.h2 a b=>
  bif b then
   some (6,6,7)
  else
   bif a==6 then
    some (7,7,7)
   else
    some (8,1,1)
noncomputable def g53 (k:Nat)(a:Int):Option R53:=itS qst k (.e a)
noncomputable def P53:S53→R53→Prop
 |.e a,r=>Fin cx53 Tryz.f53 [.code qkg] (fr0 Tryz.f53 [.c (ic a)] []) (qrz r) (bx53 r)
 |.h0 a b,r=>Fin cx53 Tryz.f53 (kAt qkg [1,0,0,1,1,1,1,1,1,1,2] []) ⟨[.c (ic a)]++rep 13 .deadv++[.c (bc b)]++rep 23 .deadv,[]⟩ (qrz r) (bx53 r)
 |.h1 a b,r=>Fin cx53 Tryz.f53 (kAt qkg [1,0,0,1,1,1,1,1,1,1,1,1,2] []) ⟨[.c (ic a)]++rep 20 .deadv++[.c (bc b)]++rep 16 .deadv,[]⟩ (qrz r) (bx53 r)
 |.h2 a b,r=>Fin cx53 Tryz.f53 (kAt qkg [1,0,0,1,1,1,1,1,1,1,1,1,1,1,2] []) ⟨[.c (ic a)]++rep 27 .deadv++[.c (bc b)]++rep 9 .deadv,[]⟩ (qrz r) (bx53 r)
abbrev E53 (a:Int)(r:R53):Prop:=Ev Tryz.prog noHand 53 [.c (ic a)] [] (qrz r) (bx53 r)
theorem qum {a:Int}{r:R53}(h:P53 (.e a) r):E53 a r:=evF h
theorem ok53:∀ k s r,itS qst k s=some r→P53 s r:=qF fun k rec ih s r h=>match s,h with
 |.e ..,h=>by
  rcases qa h with⟨a,h⟩|⟨a,h⟩
  · cases h;exact mF 0 [tT 7 a]
  ·
   rcases qa h with⟨b,h⟩|⟨b,h⟩
   · cases h;exact mF 0 [tF 7 a,tT 10 b]
   ·
    rcases qa h with⟨c,h⟩|⟨c,h⟩
    · cases h;exact mF 0 [tF 7 a,tF 10 b,tT 13 c]
    · rcases qa h with⟨d,h⟩|⟨d,h⟩
      · exact mA 0 (ih _ _ h) 15 [tF 7 a,tF 10 b,tF 13 c,tT 16 d] 38 274877890558
      · exact mA 0 (ih _ _ h) 15 [tF 7 a,tF 10 b,tF 13 c,tF 16 d] 38 274877890558
 |.h0 ..,h=>by
  replace h:=qa h;rcases h with⟨rfl,h⟩|⟨rfl,h⟩
  · cases h;exact mF 0 []
  · rcases qa h with⟨a,h⟩|⟨a,h⟩
    · exact mA 0 (ih _ _ h) 3 [tT 23 a] 38 274875809790
    · exact mA 0 (ih _ _ h) 3 [tF 23 a] 38 274875809790
 |.h1 ..,h=>by
  replace h:=qa h;rcases h with⟨rfl,h⟩|⟨rfl,h⟩
  · cases h;exact mF 0 []
  · rcases qa h with⟨a,h⟩|⟨a,h⟩
    · exact mA 0 (ih _ _ h) 3 [tT 30 a] 38 274609471486
    · exact mA 0 (ih _ _ h) 3 [tF 30 a] 38 274609471486
 |.h2 ..,h=>by
  replace h:=qa h;rcases h with⟨rfl,h⟩|⟨rfl,h⟩
  · cases h;exact mF 0 []
  · rcases qa h with⟨a,h⟩|⟨a,h⟩
    · cases h;exact mF 0 [tT 37 a]
    · cases h;exact mF 0 [tF 37 a]
theorem ev53 {k:Nat}{a:Int}{r:R53}(h:g53 k a=some r):E53 a r:=qum (ok53 _ _ _ h)
inductive S56 where
 |e (a:Int)(b:Rs)(c d:Int)(e f:By)(g:Int)
abbrev R56:=By
def qtK:R56→ARes
 |r=>.ret (.c (sc r))
def bx56:R56→List (List Cell)
 |_=>[]
noncomputable def qsv (k:Nat)(rec:S56→Option R56):S56→Option R56
 |.e a _ b c d e ..=>
  bif a==20 then
   (g73 k 3 (strB []) b 0 0).bind fun f=>
   some f
  else
   bif a==21 then
    (g73 k 4 (strB []) b c 0).bind fun g=>
    some g
   else
    bif a==22 then
     aixS [strB [70,65,76,83,69],strB [84,82,85,69]] b fun i=>
     some i
    else
     bif a==23 then
      gd (decide ((strB [39]).size+d.size≤1000000000)) <|
      gd (decide (((strB [39])++d).size+(strB [39]).size≤1000000000)) <|
      some (((strB [39])++d)++(strB [39]))
     else
      bif a==24 then
       gd (decide (d.size+(strB [46]).size≤1000000000)) <|
       gd (decide ((d++(strB [46])).size+e.size≤1000000000)) <|
       some ((d++(strB [46]))++e)
      else
       bif a==25 then
        gd (decide ((strB [67,79,85,78,84,40]).size+d.size≤1000000000)) <|
        gd (decide (((strB [67,79,85,78,84,40])++d).size+(strB [41]).size≤1000000000)) <|
        some (((strB [67,79,85,78,84,40])++d)++(strB [41]))
       else
        aixS [strB [70,73,82,83,84],strB [76,65,83,84],strB [83,85,77],strB [77,73,78],strB [77,65,88],strB [77,69,65,78]] (IntKind.i64.wrap (a-26)) fun j=>
        gd (decide (j.size+(strB [40]).size≤1000000000)) <|
        gd (decide ((j++(strB [40])).size+d.size≤1000000000)) <|
        gd (decide (((j++(strB [40]))++d).size+(strB [46]).size≤1000000000)) <|
        gd (decide ((((j++(strB [40]))++d)++(strB [46])).size+e.size≤1000000000)) <|
        gd (decide (((((j++(strB [40]))++d)++(strB [46]))++e).size+(strB [41]).size≤1000000000)) <|
        some (((((j++(strB [40]))++d)++(strB [46]))++e)++(strB [41]))
noncomputable def g56 (k:Nat)(a:Int)(b:Rs)(c d:Int)(e f:By)(g:Int):Option R56:=itS qsv k (.e a b c d e f g)
noncomputable def P56:S56→R56→Prop
 |.e a b c d e f g,r=>Fin cx56 Tryz.f56 [.code qsV] (fr0 Tryz.f56 [.ag [ic a,.imm b,ic c,ic d,sc e,sc f,ic g]] []) (qtK r) (bx56 r)
abbrev E56 (a:Int)(b:Rs)(c d:Int)(e f:By)(g:Int)(r:R56):Prop:=Ev Tryz.prog noHand 56 [.ag [ic a,.imm b,ic c,ic d,sc e,sc f,ic g]] [] (qtK r) (bx56 r)
theorem qup {a:Int}{b:Rs}{c d:Int}{e f:By}{g:Int}{r:R56}(h:P56 (.e a b c d e f g) r):E56 a b c d e f g r:=evF h
theorem ok56:∀ k s r,itS qsv k s=some r→P56 s r:=qF fun k rec ih s r h=>match s,h with
 |.e ..,h=>by
  rcases qa h with⟨a,h⟩|⟨a,h⟩
  · obtain⟨_,b,h⟩:=qh h;cases h;exact mF 0 [tT 6 a,cA 10 (ev73 b)]
  ·
   rcases qa h with⟨c,h⟩|⟨c,h⟩
   · obtain⟨_,d,h⟩:=qh h;cases h;exact mF 0 [tF 6 a,tT 12 c,cA 18 (ev73 d)]
   ·
    rcases qa h with⟨b,h⟩|⟨b,h⟩
    · obtain⟨_,e,h⟩:=qcW h;cases h;exact mF 0 [tF 6 a,tF 12 c,tT 20 b,aA 24 e]
    ·
     rcases qa h with⟨d,h⟩|⟨d,h⟩
     · obtain⟨e,h⟩:=zo h;obtain⟨f,h⟩:=zo h;cases h;exact mF 0 [tF 6 a,tF 12 c,tF 20 b,tT 26 d,xC 29 e,xC 30 f]
     · rcases qa h with⟨e,h⟩|⟨e,h⟩
       · obtain⟨f,h⟩:=zo h;obtain⟨g,h⟩:=zo h;cases h;exact mF 0 [tF 6 a,tF 12 c,tF 20 b,tF 26 d,tT 32 e,xC 35 f,xC 38 g]
       · rcases qa h with⟨f,h⟩|⟨f,h⟩
         · obtain⟨g,h⟩:=zo h;obtain⟨i,h⟩:=zo h;cases h;exact mF 0 [tF 6 a,tF 12 c,tF 20 b,tF 26 d,tF 32 e,tT 40 f,xC 43 g,xC 44 i]
         · obtain⟨_,i,h⟩:=qcW h;obtain⟨j,h⟩:=zo h;obtain⟨l,h⟩:=zo h;obtain⟨m,h⟩:=zo h;obtain⟨n,h⟩:=zo h;obtain⟨o,h⟩:=zo h;cases h;exact mF 0 [tF 6 a,tF 12 c,tF 20 b,tF 26 d,tF 32 e,tF 40 f,aA 49 i,xC 50 j,xC 53 l,xC 54 m,xC 57 n,xC 58 o]
theorem ev56 {k:Nat}{a:Int}{b:Rs}{c d:Int}{e f:By}{g:Int}{r:R56}(h:g56 k a b c d e f g=some r):E56 a b c d e f g r:=qup (ok56 _ _ _ h)
inductive S55 where
 |e (a:Int)
abbrev R55:=By
def qtJ:R55→ARes
 |r=>.ret (.c (sc r))
def bx55:R55→List (List Cell)
 |_=>[]
noncomputable def qsu (k:Nat)(rec:S55→Option R55):S55→Option R55
 |.e a=>
  aixS [strB [],strB [43],strB [45],strB [42],strB [47],strB [37],strB [45],strB [61],strB [33,61],strB [60],strB [60,61],strB [62],strB [62,61],strB [65,78,68],strB [79,82],strB [78,79,84,32],strB [82,69,65,76],strB [73,83,78,65,78]] a fun b=>
  some b
noncomputable def g55 (k:Nat)(a:Int):Option R55:=itS qsu k (.e a)
noncomputable def P55:S55→R55→Prop
 |.e a,r=>Fin cx55 Tryz.f55 [.code qsU] (fr0 Tryz.f55 [.c (ic a)] []) (qtJ r) (bx55 r)
abbrev E55 (a:Int)(r:R55):Prop:=Ev Tryz.prog noHand 55 [.c (ic a)] [] (qtJ r) (bx55 r)
theorem qun {a:Int}{r:R55}(h:P55 (.e a) r):E55 a r:=evF h
theorem ok55:∀ k s r,itS qsu k s=some r→P55 s r:=qF fun k rec ih s r h=>match s,h with
 |.e ..,h=>by obtain⟨_,a,h⟩:=qcW h;cases h;exact mF 0 [aA 5 a]
theorem ev55 {k:Nat}{a:Int}{r:R55}(h:g55 k a=some r):E55 a r:=qun (ok55 _ _ _ h)
inductive S27 where
 |e_27 (a:Int)(b:Rs)(c d:Int)(e f:By)(g:Int)
 |e_54 (a:Int)(b:Rs)(c d:Int)(e f:By)(g i:Int)
abbrev R27:=By×Int
def qmO:R27→ARes
 |(a,b)=>.ret ⟨.tup [false,false],[[sc a],[ic b]]⟩
def bx27:R27→List (List Cell)
 |(_,_)=>[]
def qtI:R27→ARes
 |(a,b)=>.ret ⟨.tup [false,false],[[sc a],[ic b]]⟩
def bx54:R27→List (List Cell)
 |(_,_)=>[]
noncomputable def qj8 (k:Nat)(rec:S27→Option R27):S27→Option R27
 |.e_27 a b c d e f g=>
  (g53 k a).bind fun i=>
  tup3 i fun _ j l=>
  bif (b.length:Int)==1 then
   ixR b 0 fun m=>
   qE m fun n o p q t u v=>
   (rec (.e_54 n o p q t u v j)).bind fun w=>
   tup2 w fun x y=>
   bif a==16 then
    gd (decide ((strB [40]).size+x.size≤1000000000)) <|
    gd (decide (((strB [40])++x).size+(strB [41]).size≤1000000000)) <|
    (g55 k a).bind fun z=>
    gd (decide (z.size+(((strB [40])++x)++(strB [41])).size≤1000000000)) <|
    some ((z++(((strB [40])++x)++(strB [41]))),IntKind.i64.wrap (y+1))
   else
    bif a==17 then
     gd (decide ((strB [40]).size+x.size≤1000000000)) <|
     gd (decide (((strB [40])++x).size+(strB [41]).size≤1000000000)) <|
     (g55 k a).bind fun a1=>
     gd (decide (a1.size+(((strB [40])++x)++(strB [41])).size≤1000000000)) <|
     some ((a1++(((strB [40])++x)++(strB [41]))),IntKind.i64.wrap (y+1))
    else
     (g55 k a).bind fun b1=>
     gd (decide (b1.size+x.size≤1000000000)) <|
     some ((b1++x),IntKind.i64.wrap (y+1))
  else
   bif (b.length:Int)==2 then
    ixR b 0 fun c1=>
    qE c1 fun d1 e1 f1 g1 i1 j1 l1=>
    (rec (.e_54 d1 e1 f1 g1 i1 j1 l1 j)).bind fun m1=>
    tup2 m1 fun n1 o1=>
    ixR b 1 fun p1=>
    qE p1 fun q1 t1 u1 v1 w1 x1 y1=>
    (rec (.e_54 q1 t1 u1 v1 w1 x1 y1 l)).bind fun a1=>
    tup2 a1 fun z1 a2=>
    gd (decide (n1.size+(strB [32]).size≤1000000000)) <|
    (g55 k a).bind fun b2=>
    gd (decide ((n1++(strB [32])).size+b2.size≤1000000000)) <|
    gd (decide (((n1++(strB [32]))++b2).size+(strB [32]).size≤1000000000)) <|
    gd (decide ((((n1++(strB [32]))++b2)++(strB [32])).size+z1.size≤1000000000)) <|
    some (((((n1++(strB [32]))++b2)++(strB [32]))++z1),(if (a2:Int)>o1 then a2 else o1))
   else
    (g56 k a b c d e f g).bind fun c2=>
    some (c2,0)
 |.e_54 a b c d e f g i=>
  (rec (.e_27 a b c d e f g)).bind fun j=>
  tup2 j fun l m=>
  (g53 k a).bind fun n=>
  tup3 n fun o _ _=>
  bif decide (o<i)then
   gd (decide ((strB [40]).size+l.size≤1000000000)) <|
   gd (decide (((strB [40])++l).size+(strB [41]).size≤1000000000)) <|
   some ((((strB [40])++l)++(strB [41])),IntKind.i64.wrap (m+1))
  else
   some (l,m)
noncomputable def g27 (k:Nat)(a:Int)(b:Rs)(c d:Int)(e f:By)(g:Int):Option R27:=itS qj8 k (.e_27 a b c d e f g)
noncomputable def P27:S27→R27→Prop
 |.e_27 a b c d e f g,r=>Fin cx27 Tryz.f27 [.code qmh] (fr0 Tryz.f27 [.ag [ic a,.imm b,ic c,ic d,sc e,sc f,ic g]] []) (qmO r) (bx27 r)
 |.e_54 a b c d e f g i,r=>Fin cx54 Tryz.f54 [.code qsT] (fr0 Tryz.f54 [.ag [ic a,.imm b,ic c,ic d,sc e,sc f,ic g],.c (ic i)] []) (qtI r) (bx54 r)
abbrev E27 (a:Int)(b:Rs)(c d:Int)(e f:By)(g:Int)(r:R27):Prop:=Ev Tryz.prog noHand 27 [.ag [ic a,.imm b,ic c,ic d,sc e,sc f,ic g]] [] (qmO r) (bx27 r)
theorem qom {a:Int}{b:Rs}{c d:Int}{e f:By}{g:Int}{r:R27}(h:P27 (.e_27 a b c d e f g) r):E27 a b c d e f g r:=evF h
abbrev E54 (a:Int)(b:Rs)(c d:Int)(e f:By)(g i:Int)(r:R27):Prop:=Ev Tryz.prog noHand 54 [.ag [ic a,.imm b,ic c,ic d,sc e,sc f,ic g],.c (ic i)] [] (qtI r) (bx54 r)
theorem qrn {a:Int}{b:Rs}{c d:Int}{e f:By}{g i:Int}{r:R27}(h:P27 (.e_54 a b c d e f g i) r):E54 a b c d e f g i r:=evF h
theorem ok27:∀ k s r,itS qj8 k s=some r→P27 s r:=qF fun k rec ih s r h=>match s,h with
 |.e_27 ..,h=>by
  obtain⟨_,a,h⟩:=b3 h;rcases qa h with⟨b,h⟩|⟨b,h⟩
  ·
   obtain⟨_,c,h⟩:=YJ h;replace h:=zB h;obtain⟨_,_,_,_,_,_,_,rfl,h⟩:=h;obtain⟨_,d,h⟩:=b2 h;rcases qa h with⟨e,h⟩|⟨e,h⟩
   · obtain⟨f,h⟩:=zo h;obtain⟨g,h⟩:=zo h;obtain⟨_,i,h⟩:=qh h;obtain⟨j,h⟩:=zo h;cases h;exact mF 0 [cA 16 (ev53 a),tT 24 b,rA 28 c,cA 31 (qrn (ih _ _ d)),tT 36 e,xC 43 f,xC 44 g,cA 47 (ev55 i),xC 49 j]
   · rcases qa h with⟨f,h⟩|⟨f,h⟩
     · obtain⟨g,h⟩:=zo h;obtain⟨l,h⟩:=zo h;obtain⟨_,j,h⟩:=qh h;obtain⟨m,h⟩:=zo h;cases h;exact mF 0 [cA 16 (ev53 a),tT 24 b,rA 28 c,cA 31 (qrn (ih _ _ d)),tF 36 e,tT 40 f,xC 43 g,xC 44 l,cA 47 (ev55 j),xC 49 m]
     · obtain⟨_,l,h⟩:=qh h;obtain⟨i,h⟩:=zo h;cases h;exact mF 0 [cA 16 (ev53 a),tT 24 b,rA 28 c,cA 31 (qrn (ih _ _ d)),tF 36 e,tF 40 f,cA 47 (ev55 l),xC 49 i]
  · rcases qa h with⟨n,h⟩|⟨n,h⟩
    · obtain⟨_,o,h⟩:=YJ h;replace h:=zB h;obtain⟨_,_,_,_,_,_,_,rfl,h⟩:=h;obtain⟨_,p,h⟩:=b2 h;obtain⟨_,g,h⟩:=YJ h;replace h:=zB h;obtain⟨_,_,_,_,_,_,_,rfl,h⟩:=h;obtain⟨_,j,h⟩:=b2 h;obtain⟨q,h⟩:=zo h;obtain⟨_,t,h⟩:=qh h;obtain⟨u,h⟩:=zo h;obtain⟨v,h⟩:=zo h;obtain⟨w,h⟩:=zo h;cases h;exact mF 0 [cA 16 (ev53 a),tF 24 b,tT 53 n,rA 57 o,cA 60 (qrn (ih _ _ p)),rA 66 g,cA 69 (qrn (ih _ _ j)),xC 73 q,cA 76 (ev55 t),xC 77 u,xC 78 v,xC 80 w]
    · obtain⟨_,o,h⟩:=qh h;cases h;exact mF 0 [cA 16 (ev53 a),tF 24 b,tF 53 n,cA 85 (ev56 o)]
 |.e_54 ..,h=>by
  obtain⟨_,a,h⟩:=b2 h;obtain⟨_,b,h⟩:=b3 h;rcases qa h with⟨c,h⟩|⟨c,h⟩
  · obtain⟨d,h⟩:=zo h;obtain⟨e,h⟩:=zo h;cases h;exact mF 0 [cA 13 (qom (ih _ _ a)),cA 19 (ev53 b),tT 25 c,xC 27 d,xC 28 e]
  · cases h;exact mF 0 [cA 13 (qom (ih _ _ a)),cA 19 (ev53 b),tF 25 c]
theorem ev27 {k:Nat}{a:Int}{b:Rs}{c d:Int}{e f:By}{g:Int}{r:R27}(h:g27 k a b c d e f g=some r):E27 a b c d e f g r:=qom (ok27 _ _ _ h)
end Ab
end Go.Proofs.YtfekohpjaafnhaaGreatDoor
