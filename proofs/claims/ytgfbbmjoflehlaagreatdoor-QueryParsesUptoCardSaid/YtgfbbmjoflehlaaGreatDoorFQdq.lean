/-
  Functions' ways, printed by a program: what each computes, and that this is what the interpreter computes.
-/
import Derived.Test.YtgfbbmjoflehlaaGreatDoorFQcq
import Derived.KernelRfl
set_option linter.all false
set_option maxRecDepth 10000
set_option maxHeartbeats 8000000
namespace Go.Proofs.YtgfbbmjoflehlaaGreatDoor
namespace Ab
variable [vo]
inductive S103 where
 |e
abbrev R103:=Rs
inductive S81 where
 |e (a:By)
 |h0 (a:By)(b:Rs)(c d:Int)
abbrev R81:=Bool
inductive S82 where
 |e (a:Int)
abbrev R82:=Bool
inductive S63 where
 |e (a:By)
 |h0 (a:By)(b:Bool)
 |h1 (a:By)(b:Int)
 |h2 (a:By)(b:Int)(c:Bool)
abbrev R63:=Bool
inductive S37 where
 |e (a:Int)
 |h0 (a:Int)(b:By)(c:Int)
 |h1 (a:Int)(b:By)(c:Int)
abbrev R37:=By
inductive S95 where
 |e (a b:Int)
 |h0 (a b c d:Int)
 |h1 (a b c:Int)(d:By)
abbrev R95:=By
inductive S64 where
 |e (a:Int)(b:Rs)(c d:Int)(e f:By)(g:Int)
 |h0 (a:Int)(b c d e:Bool)(f:Int)(g:Rs)(i j:Int)(l m:By)(n:Int)
 |h1 (a:Int)(b c d:Bool)(e:Int)(f:Rs)(g i:Int)(j l:By)(m:Int)
 |h2 (a:Int)(b c d e:Bool)(f:Int)(g:Rs)(i j:Int)(l m:By)(n:Int)
 |h3 (a:Bool)(b:Int)(c:Rs)(d e:Int)(f g:By)(i:Int)
 |h4 (a:Int)(b c d:Bool)(e:Int)(f:Rs)(g i:Int)(j l:By)(m:Int)
 |h5 (a b c:Int)(d:Rs)(e f:Int)(g i:By)(j:Int)
 |h6 (a:Int)(b c:Bool)(d:Int)(e:Rs)(f g:Int)(i j:By)(l:Int)
abbrev R64:=Bool
inductive S34 where
 |e (a b:Rs)(c d:Int)(e:By)(f:Int)
 |h0 (a:Bool)(b:Rs)(c d:Int)(e f:Rs)(g i:Int)(j:By)(l:Int)
 |h1 (a:Bool)(b:Rs)(c d:Int)(e:Rs)(f g:Int)(i j:Rs)(l m:Int)(n:By)(o:Int)
 |h2 (a:Bool)(b c:Int)(d e:Rs)(f g:Int)(i:By)(j:Int)
 |h3 (a:Bool)(b:Rs)(c d:Int)(e:Rs)(f g:Int)(i j:Rs)(l m:Int)(n:By)(o:Int)
 |h4 (a:Bool)(b c:Int)(d e:Rs)(f g:Int)(i:By)(j:Int)
abbrev R34:=Bool
inductive S57 where
 |e (a:Int)(b:Rs)(c d:Int)(e f:By)(g:Int)
 |h0 (a b c d:Int)(e:Rs)(f g:Int)(i j:By)(l:Int)
abbrev R57:=Int
inductive S23 where
 |e (a b:Rs)(c d:Int)(e:By)(f:Int)
 |h0 (a b c:Int)(d e:Rs)(f g:Int)(i:By)(j:Int)
 |h1 (a b c:Int)(d e:Rs)(f g:Int)(i:By)(j:Int)
abbrev R23:=Int
inductive S65 where
 |e (a:Int)
 |h0 (a:Int)(b:Bool)
 |h1 (a:Int)(b:Bool)
 |h2 (a:Int)(b:Bool)
abbrev R65:=Int
inductive S66 where
 |e (a:Int)
 |h0 (a:Rs)(b:Int)
 |h1 (a:Rs)(b:Int)
 |h2 (a:Rs)(b:Int)
 |h3 (a:Rs)(b:Int)
 |h4 (a:Rs)(b:Int)
 |h5 (a:Rs)(b:Int)
abbrev R66:=Rs×Int
inductive S96 where
 |e
abbrev R96:=Rs
inductive S67 where
 |e (a:Int)(b:Rs)(c d:Int)(e f:By)(g:Int)
abbrev R67:=By
inductive S36 where
 |e (a:Int)(b:Rs)(c d:Int)(e f:By)(g:Int)
 |h0 (a:Int)(b:Rs)(c d e f:Int)(g:Rs)(i j:Int)(l m:By)(n:Int)
 |h1 (a:Int)(b:Rs)(c d:Int)(e:By)(f g i j l:Int)(m:Rs)(n o:Int)(p q:By)(t:Int)
 |h2 (a:Int)(b:Rs)(c d:Int)(e:By)(f g i j:Int)(l:Bool)(m:Int)(n:Rs)(o p:Int)(q t:By)(u:Int)
 |h3 (a:Int)(b:Rs)(c d:Int)(e:By)(f g i j l:Int)(m:Rs)(n o:Int)(p q:By)(t:Int)
 |h4 (a:Int)(b:Rs)(c:Int)(d:By)(e f g i:Int)(j:Rs)(l m:Int)(n o:By)(p:Int)
abbrev R36:=By×Int
inductive S35 where
 |e (a:Rs)
 |h0 (a:By)(b:Rs)(c d:Int)
 |h1 (a:By)(b:Rs)(c d e:Int)(f g:By)(i:Int)
 |h2 (a:By)(b:Rs)(c d e:Int)(f g:By)(i:Int)
 |h3 (a:By)(b:Rs)(c d e:Int)(f g:By)(i:Int)
abbrev R35:=By
inductive S11 where
 |e (a b:Rs)(c d:Int)(e:By)(f:Int)
 |h0 (a:Bool)(b c:Rs)(d e:Int)(f:By)(g:Int)
 |h1 (a:By)(b:Rs)(c d:Int)(e f:Rs)(g i:Int)(j:By)(l:Int)
 |h2 (a:By)(b c:Rs)(d e:Int)(f g:Rs)(i j:Int)(l:By)(m:Int)
 |h3 (a:By)(b c d:Int)(e f:Rs)(g i:Int)(j:By)(l:Int)
 |h4 (a:By)(b c:Int)(d:By)(e f g:Int)(i:Bool)(j l:Rs)(m n:Int)(o:By)(p:Int)
 |h5 (a:By)(b:Int)
 |h6 (a:By)(b c:Int)(d:By)(e f g:Int)(i j:Rs)(l m:Int)(n:By)(o:Int)
abbrev R11:=By×Int
inductive S24 where
 |e (a:Int)(b:Rs)(c d:Int)(e f:By)(g i:Int)(j:Rs)(l m:Int)(n o:By)(p:Int)(q:Bool)
 |h0 (a b:Bool)(c:Int)(d:Rs)(e f:Int)(g i:By)(j l:Int)(m:Rs)(n o:Int)(p q:By)(t:Int)
 |h1 (a:Bool)(b c d:Int)(e:Rs)(f g:Int)(i j:By)(l m:Int)(n:Rs)(o p:Int)(q t:By)(u:Int)
abbrev R24:=Bool
inductive S8 where
 |e (a b:Rs)(c d:Int)(e:By)(f:Int)(g i:Rs)(j l:Int)(m:By)(n:Int)(o:Bool)
 |h0 (a b:Bool)(c d:Rs)(e f:Int)(g:By)(i:Int)(j l:Rs)(m n:Int)(o:By)(p:Int)
 |h1 (a:Bool)(b c:Int)(d e:Rs)(f g:Int)(i:By)(j:Int)(l m:Rs)(n o:Int)(p:By)(q:Int)
 |h2 (a:Bool)(b c d:Int)(e:Rs)(f g:Int)(i j:Rs)(l m:Int)(n:By)(o:Int)(p q:Rs)(t u:Int)(v:By)(w:Int)
 |h3 (a:Bool)(b c:Int)(d e:Rs)(f g:Int)(i:By)(j:Int)(l m:Rs)(n o:Int)(p:By)(q:Int)
 |h4 (a:Bool)(b c d:Int)(e:Rs)(f g:Int)(i:Bool)(j l:Rs)(m n:Int)(o:By)(p:Int)(q t:Rs)(u v:Int)(w:By)(x:Int)
abbrev R8:=Bool
inductive S4 where
 |e (a b:Rs)(c d:Int)(e:By)(f:Int)
 |h0 (a:By)(b:Int)(c:Bool)(d e:Rs)(f g:Int)(i:By)(j:Int)
abbrev R4:=Bool
inductive S49 where
 |e (a:Int)
abbrev R49:=Bool
inductive S80 where
 |e (a:By)(b:Int)(c:Bool)
 |h0 (a:By)(b:Int)(c:Bool)(d:Int)
 |h1 (a:By)(b:Int)(c:Bool)(d:Int)(e:Bool)
abbrev R80:=Int
inductive S104 where
 |e (a:By)
 |h0 (a b:By)(c:Bool)
 |h1 (a b:By)
 |h2 (a b:By)(c d:Int)
 |h3 (a b:By)(c d:Int)(e:Bool)
 |h4 (a b:By)(c:Int)
abbrev R104:=Int×Bool
inductive S83 where
 |e (a:By)(b:Int)
 |h0 (a:By)(b c:Int)(d:By)(e:Int)(f:Bool)(g:Int)(i:By)(j l m:Int)
 |h1 (a:By)(b c:Int)(d:By)(e f:Int)(g:By)(i j l:Int)
 |h2 (a:By)(b c:Int)(d:By)(e:Int)(f:Bool)(g:Int)(i:By)(j l m:Int)
 |h3 (a b c:Int)(d:Rs)(e f g:Int)(i:By)(j l m:Int)
abbrev R83:=Int×By×Int×Int×Int×Int
inductive S50 where
 |e (a:By)(b:Int)
 |h0 (a:Int)(b:By)(c:Bool)(d:Int)(e:By)(f g i:Int)
 |h1 (a:By)(b:Int)(c:Rs)(d e f:Int)(g:By)(i j l:Int)
 |h2 (a:By)(b:Int)(c:By)(d:Rs)(e f:Int)(g:Bool)(i:Int)(j:By)(l m n:Int)
abbrev R50:=Int×By×Int×Int×Int×Int
inductive S16 where
 |e (a:By)
 |h0 (a:Rs)(b c:Int)
 |h1 (a:By)(b:Rs)(c:Int)
 |h2 (a:By)(b:Rs)(c:Int)
 |h3 (a:By)(b:Rs)(c:Int)(d:Bool)
 |h4 (a:Rs)(b c:Int)
 |h5 (a:Rs)(b c:Int)
abbrev R16:=Rs×Int×Int
inductive S52 where
 |e (a:Rs)(b c d e f g:Int)(i:By)(j:Int)
abbrev R52:=Int×By×Int×Int×Int×Rs
inductive S19 where
 |e (a:By)(b:Rs)(c d e f g i:Int)(j:By)(l:Int)
abbrev R19:=Bool×Rs
inductive S22 where
 |e (a:Int)(b:Rs)(c d e f g i:Int)(j:By)(l:Int)
abbrev R22:=Rs×Int×Int
inductive S17 where
 |e (a:By)(b:Rs)(c d e f g i:Int)(j:By)(l:Int)
abbrev R17:=Rs×Int×Int×Int
inductive S52b where
 |e (a:Rs)(b c d e:Int)(f g:Rs)(i j:Int)(l:By)(m:Int)
abbrev R52b:=Int×By×Int×Int×Int×Rs×Rs×Rs
inductive S22b where
 |e (a:Int)(b:Rs)(c d e f:Int)(g i:Rs)(j l:Int)(m:By)(n:Int)
abbrev R22b:=Rs×Int×Int×Rs×Rs
inductive S55b where
 |e (a:Int)(b:Rs)(c d e f:Int)(g i:Rs)(j l:Int)(m:By)(n:Int)
abbrev R55b:=Rs×Int×Int×Rs×Rs
inductive S19b where
 |e (a:By)(b:Rs)(c d e f:Int)(g i:Rs)(j l:Int)(m:By)(n:Int)
abbrev R19b:=Bool×Rs×Rs×Rs
inductive S56b where
 |e (a:Rs)(b c d e:Int)(f g:Rs)(i j:Int)(l:By)(m:Int)
 |h0 (a:Bool)(b:Rs)(c d e f:Int)(g i:Rs)(j l:Int)(m:By)(n:Int)
abbrev R56b:=By×Rs×Int×Int×Int×Rs×Rs
inductive S17b where
 |e (a:By)(b:Rs)(c d e f:Int)(g i:Rs)(j l:Int)(m:By)(n:Int)
abbrev R17b:=Rs×Int×Int×Int×Rs×Rs
attribute [local irreducible] cond gd ixR sxI aixS Option.bind
noncomputable section
def qBi:R103->ARes
 |r=>.ret (.c (.own 1 r))
def qyo (k:Nat)(rec:S103->Option R103):S103->Option R103
 |.e=>some [[sc (strB [80,65,84,84,69,82,78])],[sc (strB [83,69,81])],[sc (strB [87,72,69,82,69])],[sc (strB [83,84,82,65,84,69,71,89])],[sc (strB [87,73,84,72,73,78])],[sc (strB [80,65,82,84,73,84,73,79,78])],[sc (strB [66,89])],[sc (strB [83,84,82,73,67,84])],[sc (strB [78,69,88,84])],[sc (strB [65,78,89])],[sc (strB [65,78,68])],[sc (strB [79,82])],[sc (strB [78,79,84])],[sc (strB [84,82,85,69])],[sc (strB [70,65,76,83,69])],[sc (strB [84,73,77,69])],[sc (strB [82,69,65,76])],[sc (strB [73,83,78,65,78])],[sc (strB [67,79,85,78,84])],[sc (strB [70,73,82,83,84])],[sc (strB [76,65,83,84])],[sc (strB [83,85,77])],[sc (strB [77,73,78])],[sc (strB [77,65,88])],[sc (strB [77,69,65,78])]]
def g103 (k:Nat):Option R103:=itS qyo k (.e)
def P103:S103->R103->Prop
 |.e=>Fe Y103 qBi nB [] []
theorem qE9:∀ k s r,itS qyo k s=some r->P103 s r:=okU trivial
instance {k:Nat}:EvI (g103 k ) 103 [] [] qBi nB:=eI qE9
def qq6 (k:Nat)(rec:S81->Option R81):S81->Option R81
 |.e a=>
  (tg 5 (g103 k)).bind fun b=>
  rec (tg 7 (.h0 a b (b.length:Int) 0))
 |.h0 a b c d=>
  bif tg 8 (decide (d<c))then
   ixR b (tg 9 (tg 3 d)) fun e=>
   un_s e fun f=>
   bif tg 13 (f.toList==a.toList)then
    some true
   else
    rec (tg 16 (.h0 a b c (IntKind.i64.wrap (d+1))))
  else
   some false
def g81 (k:Nat)(a:By):Option R81:=itS qq6 k (.e a)
def P81:S81->R81->Prop
 |.e a=>Fe Y81 qzQ nB [csc a] []
 |.h0 a b c d=>Fk Y81 qzQ nB [1,0,1,0,4] ([csc a]++rd 4++[.c (.own 1 b),cic c,cic d]++rd 7) []
theorem ok81:∀ k s r,itS qq6 k s=some r->P81 s r:=okU (And.intro @qv2 trivial)
instance {k:Nat} {a:By}:EvI (g81 k a) 81 [csc a] [] qzQ nB:=eI ok81
def qp2 (k:Nat)(rec:S82->Option R82):S82->Option R82
 |.e a=>
  bif tg 4 (decide (a>=48))then
   some (decide (a<=57))
  else
   some false
def g82 (k:Nat)(a:Int):Option R82:=itS qp2 k (.e a)
def P82:S82->R82->Prop
 |.e a=>Fe Y82 qzQ nB [cu a] []
theorem ok82:∀ k s r,itS qp2 k s=some r->P82 s r:=okU trivial
instance {k:Nat} {a:Int}:EvI (g82 k a) 82 [cu a] [] qzQ nB:=eI ok82
def qpc (k:Nat)(rec:S63->Option R63):S63->Option R63
 |.e a=>
  bif tg 6 (decide ((a.size:Int)<1))then
   rec (tg 5 (.h0 a true))
  else
   bif tg 10 (decide ((a.size:Int)>24))then
    rec (tg 5 (.h0 a true))
   else
    sxI a (tg 14 0) fun b=>
    (tg 15 (g79 k b)).bind fun c=>
    bif tg 16 (!c)then
     rec (tg 5 (.h0 a true))
    else
     (tg 20 (g81 k a)).bind fun d=>
     rec (tg 5 (.h0 a d))
 |.h0 a b=>
  bif b then
   some false
  else
   rec (tg 7 (.h1 a 0))
 |.h1 a b=>
  bif tg 25 (decide (b<(a.size:Int)))then
   sxI a (tg 30 b) fun c=>
   (tg 31 (g79 k c)).bind fun d=>
   bif tg 32 (!d)then
    ag 2 36 <|
    (tg 37 (g82 k c)).bind fun e=>
    bif tg 38 (!e)then
     ag 5 43 <|
     rec (tg 10 (.h2 a b (c != 95)))
    else
     rec (tg 10 (.h2 a b false))
   else
    rec (tg 10 (.h2 a b false))
  else
   some true
 |.h2 a b c=>
  bif c then
   some false
  else
   rec (tg 4 (.h1 a (IntKind.i64.wrap (b+1))))
def g63 (k:Nat)(a:By):Option R63:=itS qpc k (.e a)
def P63:S63->R63->Prop
 |.e a=>Fe Y63 qzQ nB [csc a] []
 |.h0 a b=>Fk Y63 qzQ nB [1,0,1,2] ([csc a]++rd 20++[cbc b]++rd 24) []
 |.h1 a b=>Fk Y63 qzQ nB [1,1,0,1,0,4] ([csc a,.deadv,.deadv,cic b]++rd 42) []
 |.h2 a b c=>Fk Y63 qzQ nB [1,1,0,1,0,0,1,0,0,1,2] ([csc a,.deadv,.deadv,cic b]++rd 41++[cbc c]) []
theorem ok63:∀ k s r,itS qpc k s=some r->P63 s r:=okU trivial
instance {k:Nat} {a:By}:EvI (g63 k a) 63 [csc a] [] qzQ nB:=eI ok63
def qfl (k:Nat)(rec:S37->Option R37):S37->Option R37
 |.e a=>
  bif tg 8 (decide (a<0))then
   rec (tg 9 (.h0 a (strB []) (IntKind.u64.wrap ((0:Int)-(IntKind.u64.wrap a)))))
  else
   rec (tg 9 (.h0 a (strB []) (IntKind.u64.wrap a)))
 |.h0 a b c=>rec (tg 3 (.h1 a b c))
 |.h1 a b c=>
  bif tg 12 (decide (c>9))then
   gd (tg 20 (decide ((qhy [IntKind.u8.wrap (IntKind.u64.wrap ((48:Int)+(Int.tmod c 10)))]).size+b.size<=1000000000))) <|
   rec (tg 11 (.h1 a ((qhy [IntKind.u8.wrap (IntKind.u64.wrap ((48:Int)+(Int.tmod c 10)))])++b) (IntKind.u64.wrap (Int.tdiv c 10))))
  else
   gd (tg 29 (decide ((qhy [IntKind.u8.wrap (IntKind.u64.wrap ((48:Int)+c))]).size+b.size<=1000000000))) <|
   bif tg 31 (decide (a<0))then
    gd (tg 33 (decide ((strB [45]).size+((qhy [IntKind.u8.wrap (IntKind.u64.wrap ((48:Int)+c))])++b).size<=1000000000))) <|
    some ((strB [45])++((qhy [IntKind.u8.wrap (IntKind.u64.wrap ((48:Int)+c))])++b))
   else
    some ((qhy [IntKind.u8.wrap (IntKind.u64.wrap ((48:Int)+c))])++b)
def g37 (k:Nat)(a:Int):Option R37:=itS qfl k (.e a)
def P37:S37->R37->Prop
 |.e a=>Fe Y37 qyF nB [cic a] []
 |.h0 a b c=>Fk Y37 qyF nB [1,1,1,2] ([cic a,.deadv,.deadv,csc b,.c (.val (.int .u64 c))]++rd 30) []
 |.h1 a b c=>Fk Y37 qyF nB [1,1,1,0,0,4] ([cic a,.deadv,.deadv,csc b,.c (.val (.int .u64 c))]++rd 30) []
theorem ok37:∀ k s r,itS qfl k s=some r->P37 s r:=okU trivial
instance {k:Nat} {a:Int}:EvI (g37 k a) 37 [cic a] [] qyF nB:=eI ok37
def qBV (k:Nat)(rec:S95->Option R95):S95->Option R95
 |.e a b=>rec (tg 9 (.h0 a b 1 0))
 |.h0 a b c d=>
  bif tg 10 (decide (d<b))then
   rec (tg 11 (.h0 a b (IntKind.i64.wrap (c*10)) (IntKind.i64.wrap (d+1))))
  else
   gd (tg 17 (tg 1 (decide (c≠0)))) <|
   (tg 18 (g37 k (Int.tmod a c))).bind fun e=>
   rec (tg 11 (.h1 a b c e))
 |.h1 a b c d=>
  bif tg 22 (decide ((d.size:Int)<b))then
   gd (tg 24 (decide ((strB [48]).size+d.size<=1000000000))) <|
   rec (tg 9 (.h1 a b c ((strB [48])++d)))
  else
   gd (tg 27 (tg 1 (decide (c≠0)))) <|
   (tg 28 (g37 k (IntKind.i64.wrap (Int.tdiv a c)))).bind fun e=>
   gd (tg 29 (decide (e.size+(strB [46]).size<=1000000000))) <|
   gd (tg 31 (decide ((e++(strB [46])).size+d.size<=1000000000))) <|
   some ((e++(strB [46]))++d)
def g95 (k:Nat)(a b:Int):Option R95:=itS qBV k (.e a b)
def P95:S95->R95->Prop
 |.e a b=>Fe Y95 qyF nB [cic a,cic b] []
 |.h0 a b c d=>Fk Y95 qyF nB [1,1,0,1,0,4] ([cic a,cic b]++rd 3++[cic c,cic d]++rd 25) []
 |.h1 a b c d=>Fk Y95 qyF nB [1,1,1,1,0,0,4] ([cic a,cic b]++rd 3++[cic c,.deadv,csc d]++rd 24) []
theorem ok95:∀ k s r,itS qBV k s=some r->P95 s r:=okU trivial
instance {k:Nat} {a b:Int}:EvI (g95 k a b) 95 [cic a,cic b] [] qyF nB:=eI ok95
def qBR (k:Nat)(rec:S64->Option R64):S64->Option R64
 |.e a b c d e f g=>
  bif tg 16 (c==0)then
   bif tg 25 (a==6)then
    rec (tg 12 (.h0 0 (e.toList==(strB []).toList) (f.toList==(strB []).toList) (d==0) true a b c d e f g))
   else
    bif tg 29 (decide (a>=15))then
     rec (tg 12 (.h0 0 (e.toList==(strB []).toList) (f.toList==(strB []).toList) (d==0) (decide (a<=17)) a b c d e f g))
    else
     rec (tg 12 (.h0 0 (e.toList==(strB []).toList) (f.toList==(strB []).toList) (d==0) false a b c d e f g))
  else
   bif tg 25 (a==6)then
    rec (tg 12 (.h0 0 (e.toList==(strB []).toList) (f.toList==(strB []).toList) false true a b c d e f g))
   else
    bif tg 29 (decide (a>=15))then
     rec (tg 12 (.h0 0 (e.toList==(strB []).toList) (f.toList==(strB []).toList) false (decide (a<=17)) a b c d e f g))
    else
     rec (tg 12 (.h0 0 (e.toList==(strB []).toList) (f.toList==(strB []).toList) false false a b c d e f g))
 |.h0 a b c d e f g i j l m n=>
  bif e then
   rec (tg 3 (.h1 1 b c d f g i j l m n))
  else
   bif tg 39 (decide (f>=1))then
    rec (tg 3 (.h2 a b c d (decide (f<=14)) f g i j l m n))
   else
    rec (tg 3 (.h2 a b c d false f g i j l m n))
 |.h1 a b c d e f g i j l m=>
  bif tg 138 (!b)then
   rec (tg 3 (.h3 true e f g i j l m))
  else
   bif tg 141 (!c)then
    rec (tg 3 (.h3 true e f g i j l m))
   else
    bif tg 145 (!d)then
     rec (tg 3 (.h3 true e f g i j l m))
    else
     rec (tg 3 (.h3 ((f.length:Int)!=a) e f g i j l m))
 |.h2 a b c d e f g i j l m n=>
  bif e then
   rec (tg 3 (.h1 2 b c d f g i j l m n))
  else
   bif tg 48 (f==20)then
    bif tg 51 (decide (i>=0))then
     rec (tg 6 (.h1 a b c (j==0) f g i j l m n))
    else
     rec (tg 6 (.h1 a b c false f g i j l m n))
   else
    bif tg 60 (f==21)then
     bif tg 63 (decide (i>=0))then
      bif tg 67 (decide (j>=1))then
       bif tg 72 (decide (j<=14))then
        (tg 79 (g95 k i j)).bind fun o=>
        rec (tg 9 (.h1 a b c (decide ((o.size:Int)<=16)) f g i j l m n))
       else
        rec (tg 9 (.h1 a b c false f g i j l m n))
      else
       rec (tg 9 (.h1 a b c false f g i j l m n))
     else
      rec (tg 9 (.h1 a b c false f g i j l m n))
    else
     bif tg 86 (f==22)then
      bif tg 89 (i==0)then
       rec (tg 12 (.h1 a b c (j==0) f g i j l m n))
      else
       bif tg 93 (i==1)then
        rec (tg 12 (.h1 a b c (j==0) f g i j l m n))
       else
        rec (tg 12 (.h1 a b c false f g i j l m n))
     else
      bif tg 103 (f==23)then
       rec (tg 12 (.h4 a c d true f g i j l m n))
      else
       rec (tg 12 (.h4 a c d (f==25) f g i j l m n))
 |.h3 a b c d e f g i=>
  bif a then
   some false
  else
   rec (tg 7 (.h5 (c.length:Int) 0 b c d e f g i))
 |.h4 a b c d e f g i j l m=>
  bif d then
   (tg 111 (g63 k j)).bind fun n=>
   rec (tg 3 (.h1 a n b c e f g i j l m))
  else
   bif tg 115 (e==24)then
    rec (tg 3 (.h6 a c true e f g i j l m))
   else
    bif tg 119 (decide (e>=26))then
     rec (tg 3 (.h6 a c (decide (e<=31)) e f g i j l m))
    else
     rec (tg 3 (.h6 a c false e f g i j l m))
 |.h5 a b c d e f g i j=>
  bif tg 158 (decide (b<a))then
   ixR d (tg 163 b) fun l=>
   qE l fun m n o p q t u=>
   (tg 165 (rec (.e m n o p q t u))).bind fun v=>
   bif tg 166 (!v)then
    some false
   else
    rec (tg 16 (.h5 a (IntKind.i64.wrap (b+1)) c d e f g i j))
  else
   some true
 |.h6 a b c d e f g i j l=>
  bif c then
   (tg 128 (g63 k i)).bind fun m=>
   (tg 131 (g63 k j)).bind fun n=>
   bif n then
    rec (tg 3 (.h1 a m true b d e f g i j l))
   else
    rec (tg 3 (.h1 a m (j.toList==(strB [84,73,77,69]).toList) b d e f g i j l))
  else
   some false
def g64 (k:Nat)(a:Int)(b:Rs)(c d:Int)(e f:By)(g:Int):Option R64:=itS qBR k (.e a b c d e f g)
def P64:S64->R64->Prop
 |.e a b c d e f g=>Fe Y64 qzQ nB [.ag [ic a,.imm b,ic c,ic d,sc e,sc f,ic g]] []
 |.h0 a b c d e f g i j l m n=>Fk Y64 qzQ nB [1,1,1,1,0,0,1,2] ([.deadv,pL 1,.deadv,cic a,cbc b,cbc c,cbc d]++rd 15++[cbc e]++rd 145) [(.loc 1,[ic f,.imm g,ic i,ic j,sc l,sc m,ic n])]
 |.h1 a b c d e f g i j l m=>Fk Y64 qzQ nB [1,1,1,1,1,2] ([.deadv,pL 1,.deadv,cic a,cbc b,cbc c,cbc d]++rd 161) [(.loc 1,[ic e,.imm f,ic g,ic i,sc j,sc l,ic m])]
 |.h2 a b c d e f g i j l m n=>Fk Y64 qzQ nB [1,1,1,1,0,0,1,1,1,2] ([.deadv,pL 1,.deadv,cic a,cbc b,cbc c,cbc d]++rd 29++[cbc e]++rd 131) [(.loc 1,[ic f,.imm g,ic i,ic j,sc l,sc m,ic n])]
 |.h3 a b c d e f g i=>Fk Y64 qzQ nB [1,1,1,1,1,0,1,2] ([.deadv,pL 1]++rd 151++[cbc a]++rd 14) [(.loc 1,[ic b,.imm c,ic d,ic e,sc f,sc g,ic i])]
 |.h4 a b c d e f g i j l m=>Fk Y64 qzQ nB [1,1,1,1,0,0,1,1,1,1,1,1,1,1,1,1,1,2] ([.deadv,pL 1,.deadv,cic a,.deadv,cbc b,cbc c]++rd 93++[cbc d]++rd 67) [(.loc 1,[ic e,.imm f,ic g,ic i,sc j,sc l,ic m])]
 |.h5 a b c d e f g i j=>Fk Y64 qzQ nB [1,1,1,1,1,1,0,1,0,4] ([.deadv,pL 1]++rd 154++[cic a,cic b]++rd 10) [(.loc 1,[ic c,.imm d,ic e,ic f,sc g,sc i,ic j])]
 |.h6 a b c d e f g i j l=>Fk Y64 qzQ nB [1,1,1,1,0,0,1,1,1,1,1,1,1,1,1,1,1,1,1,2] ([.deadv,pL 1,.deadv,cic a,.deadv,.deadv,cbc b]++rd 105++[cbc c]++rd 55) [(.loc 1,[ic d,.imm e,ic f,ic g,sc i,sc j,ic l])]
instance {a:Int} {b:Rs} {c d:Int} {e f:By} {g:Int}:EvS P64 id (.e a b c d e f g) 64 [.ag [ic a,.imm b,ic c,ic d,sc e,sc f,ic g]] [] qzQ nB:=⟨fun o h v e=>evF (h v e)⟩
theorem ok64:∀ k s r,itS qBR k s=some r->P64 s r:=okU (And.intro @qu1 trivial)
instance {k:Nat} {a:Int} {b:Rs} {c d:Int} {e f:By} {g:Int}:EvI (g64 k a b c d e f g) 64 [.ag [ic a,.imm b,ic c,ic d,sc e,sc f,ic g]] [] qzQ nB:=eI ok64
def xY (k:Nat)(rec:S34->Option R34):S34->Option R34
 |.e a b c d e f=>
  bif tg 12 (decide ((a.length:Int)>0))then
   bif tg 16 (decide (c>=1))then
    bif tg 21 (decide (c<=3))then
     bif tg 26 (decide (d>=0))then
      bif tg 31 (decide (d<=1152921504606846976))then
       bif tg 36 (e.toList==(strB []).toList)then
        rec (tg 9 (.h0 true a (a.length:Int) 0 a b c d e f))
       else
        (tg 40 (g63 k e)).bind fun g=>
        rec (tg 9 (.h0 g a (a.length:Int) 0 a b c d e f))
      else
       rec (tg 9 (.h0 false a (a.length:Int) 0 a b c d e f))
     else
      rec (tg 9 (.h0 false a (a.length:Int) 0 a b c d e f))
    else
     rec (tg 9 (.h0 false a (a.length:Int) 0 a b c d e f))
   else
    rec (tg 9 (.h0 false a (a.length:Int) 0 a b c d e f))
  else
   rec (tg 9 (.h0 false a (a.length:Int) 0 a b c d e f))
 |.h0 a b c d e f g i j l=>
  bif tg 47 (decide (d<c))then
   ixR b (tg 48 d) fun m=>
   un_m m fun n=>
   bif a then
    rec (tg 16 (.h1 (decide ((n.length:Int)>0)) b c d n (n.length:Int) 0 e f g i j l))
   else
    rec (tg 16 (.h1 false b c d n (n.length:Int) 0 e f g i j l))
  else
   rec (tg 11 (.h2 a (f.length:Int) 0 e f g i j l))
 |.h1 a b c d e f g i j l m n o=>
  bif tg 59 (decide (g<f))then
   ixR e (tg 60 g) fun p=>
   qvQ p fun q t u _=>
   bif a then
    bif tg 66 (decide (q>=1))then
     bif tg 71 (decide (q<=3))then
      (tg 76 (g63 k t)).bind fun v=>
      bif v then
       (tg 81 (g63 k u)).bind fun w=>
       rec (tg 12 (rg [7] [] (.h3 w b c d e f g i j l m n o)))
      else
       rec (tg 12 (rg [7] [] (.h3 false b c d e f g i j l m n o)))
     else
      rec (tg 12 (rg [7] [] (.h3 false b c d e f g i j l m n o)))
    else
     rec (tg 12 (rg [7] [] (.h3 false b c d e f g i j l m n o)))
   else
    rec (tg 12 (rg [7] [] (.h3 false b c d e f g i j l m n o)))
  else
   rec (tg 8 (.h0 a b c (IntKind.i64.wrap (d+1)) i j l m n o))
 |.h2 a b c d e f g i j=>
  bif tg 89 (decide (c<b))then
   bif a then
    ixR e (tg 96 c) fun l=>
    qE l fun m n o p q t u=>
    bif tg 99 (m != 13)then
     ag 1 105 <|
     (tg 107 (g64 k m n o p q t u)).bind fun v=>
     rec (tg 12 (.h4 v b c d e f g i j))
    else
     rec (tg 12 (.h4 false b c d e f g i j))
   else
    rec (tg 12 (.h4 false b c d e f g i j))
  else
   some a
 |.h3 a b c d e f g i j l m n o=>rec (tg 1 (.h1 a b c d e f (IntKind.i64.wrap (g+1)) i j l m n o))
 |.h4 a b c d e f g i j=>rec (tg 1 (.h2 a b (IntKind.i64.wrap (c+1)) d e f g i j))
def g34 (k:Nat)(a b:Rs)(c d:Int)(e:By)(f:Int):Option R34:=itS xY k (.e a b c d e f)
def P34:S34->R34->Prop
 |.e a b c d e f=>Fe Y34 qzQ nB [.ag [.imm a,.imm b,ic c,ic d,sc e,ic f]] []
 |.h0 a b c d e f g i j l=>Fk Y34 qzQ nB [1,1,0,1,0,4] ([.deadv,pL 1,.deadv,cbc a]++rd 40++[cm b,cic c,cic d]++rd 64) [(.loc 1,[.imm e,.imm f,ic g,ic i,sc j,ic l])]
 |.h1 a b c d e f g i j l m n o=>Fk Y34 qzQ nB [1,1,0,1,0,0,1,1,0,0,1,1,1,0,4] ([.deadv,pL 1,.deadv,cbc a]++rd 40++[cm b,cic c,cic d]++rd 9++[cm e,cic f,cic g]++rd 52) [(.loc 1,[.imm i,.imm j,ic l,ic m,sc n,ic o])]
 |.h2 a b c d e f g i j=>Fk Y34 qzQ nB [1,1,1,0,1,0,4] ([.deadv,pL 1,.deadv,cbc a]++rd 83++[cic b,cic c]++rd 22) [(.loc 1,[.imm d,.imm e,ic f,ic g,sc i,ic j])]
 |.h3 a b c d e f g i j l m n o=>Fk Y34 qzQ nB [1,1,0,1,0,0,1,1,0,0,1,1,1,0,0,1,1,1,2] ([.deadv,pL 1,.deadv,cbc a]++rd 40++[cm b,cic c,cic d]++rd 9++[cm e,cic f,cic g]++rd 52) [(.loc 1,[.imm i,.imm j,ic l,ic m,sc n,ic o])]
 |.h4 a b c d e f g i j=>Fk Y34 qzQ nB [1,1,1,0,1,0,0,1,1,1,2] ([.deadv,pL 1,.deadv,cbc a]++rd 83++[cic b,cic c]++rd 22) [(.loc 1,[.imm d,.imm e,ic f,ic g,sc i,ic j])]
theorem ok34:∀ k s r,itS xY k s=some r->P34 s r:=okU (And.intro @qu1 (And.intro @qvK (And.intro @qwI trivial)))
instance {k:Nat} {a b:Rs} {c d:Int} {e:By} {f:Int}:EvI (g34 k a b c d e f) 34 [.ag [.imm a,.imm b,ic c,ic d,sc e,ic f]] [] qzQ nB:=eI ok34
def qxb (k:Nat)(rec:S57->Option R57):S57->Option R57
 |.e a b c d e f g=>rec (tg 9 (.h0 1 (b.length:Int) 0 a b c d e f g))
 |.h0 a b c d e f g i j l=>
  bif tg 9 (decide (c<b))then
   ixR e (tg 15 c) fun m=>
   qE m fun n o p q t u v=>
   (tg 17 (rec (.e n o p q t u v))).bind fun w=>
   rec (tg 13 (.h0 (IntKind.i64.wrap (a+w)) b (IntKind.i64.wrap (c+1)) d e f g i j l))
  else
   some a
def g57 (k:Nat)(a:Int)(b:Rs)(c d:Int)(e f:By)(g:Int):Option R57:=itS qxb k (.e a b c d e f g)
def P57:S57->R57->Prop
 |.e a b c d e f g=>Fe Y57 qx1 nB [.ag [ic a,.imm b,ic c,ic d,sc e,sc f,ic g]] []
 |.h0 a b c d e f g i j l=>Fk Y57 qx1 nB [1,1,0,1,0,4] ([.deadv,pL 1,.deadv,cic a]++rd 3++[cic b,cic c]++rd 12) [(.loc 1,[ic d,.imm e,ic f,ic g,sc i,sc j,ic l])]
instance {a:Int} {b:Rs} {c d:Int} {e f:By} {g:Int}:EvS P57 id (.e a b c d e f g) 57 [.ag [ic a,.imm b,ic c,ic d,sc e,sc f,ic g]] [] qx1 nB:=⟨fun o h v e=>evF (h v e)⟩
theorem ok57:∀ k s r,itS qxb k s=some r->P57 s r:=okU (And.intro @qu1 trivial)
instance {k:Nat} {a:Int} {b:Rs} {c d:Int} {e f:By} {g:Int}:EvI (g57 k a b c d e f g) 57 [.ag [ic a,.imm b,ic c,ic d,sc e,sc f,ic g]] [] qx1 nB:=eI ok57
def qkj (k:Nat)(rec:S23->Option R23):S23->Option R23
 |.e a b c d e f=>rec (tg 9 (.h0 0 (b.length:Int) 0 a b c d e f))
 |.h0 a b c d e f g i j=>
  bif tg 9 (decide (c<b))then
   ixR e (tg 15 c) fun l=>
   qE l fun m n o p q t u=>
   (tg 17 (g57 k m n o p q t u)).bind fun v=>
   bif tg 20 (decide (c>0))then
    rec (tg 17 (.h1 (IntKind.i64.wrap ((IntKind.i64.wrap (a+v))+1)) b c d e f g i j))
   else
    rec (tg 17 (.h1 (IntKind.i64.wrap (a+v)) b c d e f g i j))
  else
   some a
 |.h1 a b c d e f g i j=>rec (tg 1 (.h0 a b (IntKind.i64.wrap (c+1)) d e f g i j))
def g23 (k:Nat)(a b:Rs)(c d:Int)(e:By)(f:Int):Option R23:=itS qkj k (.e a b c d e f)
def P23:S23->R23->Prop
 |.e a b c d e f=>Fe Y23 qx1 nB [.ag [.imm a,.imm b,ic c,ic d,sc e,ic f]] []
 |.h0 a b c d e f g i j=>Fk Y23 qx1 nB [1,1,0,1,0,4] ([.deadv,pL 1,.deadv,cic a]++rd 3++[cic b,cic c]++rd 16) [(.loc 1,[.imm d,.imm e,ic f,ic g,sc i,ic j])]
 |.h1 a b c d e f g i j=>Fk Y23 qx1 nB [1,1,0,1,0,0,1,1,1,2] ([.deadv,pL 1,.deadv,cic a]++rd 3++[cic b,cic c]++rd 16) [(.loc 1,[.imm d,.imm e,ic f,ic g,sc i,ic j])]
theorem ok23:∀ k s r,itS qkj k s=some r->P23 s r:=okU (And.intro @qu1 trivial)
instance {k:Nat} {a b:Rs} {c d:Int} {e:By} {f:Int}:EvI (g23 k a b c d e f) 23 [.ag [.imm a,.imm b,ic c,ic d,sc e,ic f]] [] qx1 nB:=eI ok23
def qrB (k:Nat)(rec:S65->Option R65):S65->Option R65
 |.e a=>
  bif tg 5 (a==14)then
   some 1
  else
   bif tg 8 (a==13)then
    some 2
   else
    bif tg 11 (a==15)then
     some 3
    else
     bif tg 14 (decide (a>=7))then
      rec (tg 15 (.h0 a (decide (a<=12))))
     else
      rec (tg 15 (.h0 a false))
 |.h0 a b=>
  bif b then
   some 4
  else
   bif tg 21 (a==1)then
    rec (tg 3 (.h1 a true))
   else
    rec (tg 3 (.h1 a (a==2)))
 |.h1 a b=>
  bif b then
   some 5
  else
   bif tg 28 (decide (a>=3))then
    rec (tg 3 (.h2 a (decide (a<=5))))
   else
    rec (tg 3 (.h2 a false))
 |.h2 a b=>
  bif b then
   some 6
  else
   bif tg 35 (a==6)then
    some 7
   else
    some 8
def g65 (k:Nat)(a:Int):Option R65:=itS qrB k (.e a)
def P65:S65->R65->Prop
 |.e a=>Fe Y65 qx1 nB [cic a] []
 |.h0 a b=>Fk Y65 qx1 nB [1,0,0,1,1,1,1,1,1,1,2] ([cic a]++rd 11++[cbc b]++rd 23) []
 |.h1 a b=>Fk Y65 qx1 nB [1,0,0,1,1,1,1,1,1,1,1,1,2] ([cic a]++rd 18++[cbc b]++rd 16) []
 |.h2 a b=>Fk Y65 qx1 nB [1,0,0,1,1,1,1,1,1,1,1,1,1,1,2] ([cic a]++rd 25++[cbc b]++rd 9) []
theorem ok65:∀ k s r,itS qrB k s=some r->P65 s r:=okU trivial
instance {k:Nat} {a:Int}:EvI (g65 k a) 65 [cic a] [] qx1 nB:=eI ok65
def qqB:R66->ARes
 |(a,b)=>.ret ⟨.tup [false,false],[[.own 1 a],[ic b]]⟩
def qo4 (k:Nat)(rec:S66->Option R66):S66->Option R66
 |.e a=>
  bif tg 6 (a==1)then
   rec (tg 11 (.h0 [[sc (strB [79,82])]] 14))
  else
   bif tg 9 (a==2)then
    rec (tg 14 (.h1 [[sc (strB [65,78,68])]] 13))
   else
    bif tg 12 (a==4)then
     rec (tg 17 (.h2 [[sc (strB [61])],[sc (strB [33,61])],[sc (strB [60])],[sc (strB [60,61])],[sc (strB [62])],[sc (strB [62,61])]] 7))
    else
     bif tg 15 (a==5)then
      rec (tg 20 (.h3 [[sc (strB [43])],[sc (strB [45])]] 1))
     else
      bif tg 18 (a==6)then
       rec (tg 23 (.h4 [[sc (strB [42])],[sc (strB [47])],[sc (strB [37])]] 3))
      else
       rec (tg 25 (rg [] [(⟨⟨.slot 2,[]⟩,0,0⟩,some 1)] (.h5 [] 0)))
 |.h0 a b=>some (a,b)
 |.h1 a b=>some (a,b)
 |.h2 a b=>some (a,b)
 |.h3 a b=>some (a,b)
 |.h4 a b=>some (a,b)
 |.h5 a b=>some (a,b)
def g66 (k:Nat)(a:Int):Option R66:=itS qo4 k (.e a)
def P66:S66->R66->Prop
 |.e a=>Fe Y66 qqB nB [cic a] []
 |.h0 a b=>Fk Y66 qqB nB [1,0,1,0,1,0,1,2] ([.deadv,.deadv,.c (.own 1 a),cic b]++rd 16) []
 |.h1 a b=>Fk Y66 qqB nB [1,0,1,0,1,1,1,0,1,2] ([.deadv,.deadv,.c (.own 1 a),cic b]++rd 16) []
 |.h2 a b=>Fk Y66 qqB nB [1,0,1,0,1,1,1,1,1,0,1,2] ([.deadv,.deadv,.c (.own 1 a),cic b]++rd 16) []
 |.h3 a b=>Fk Y66 qqB nB [1,0,1,0,1,1,1,1,1,1,1,0,1,2] ([.deadv,.deadv,.c (.own 1 a),cic b]++rd 16) []
 |.h4 a b=>Fk Y66 qqB nB [1,0,1,0,1,1,1,1,1,1,1,1,1,0,1,2] ([.deadv,.deadv,.c (.own 1 a),cic b]++rd 16) []
 |.h5 a b=>Fk Y66 qqB nB [1,1,1,2] ([.deadv,.deadv,.c (.own 1 a),cic b]++rd 16) []
theorem ok66:∀ k s r,itS qo4 k s=some r->P66 s r:=okU trivial
instance {k:Nat} {a:Int}:EvI (g66 k a) 66 [cic a] [] qqB nB:=eI ok66
def qAe (k:Nat)(rec:S96->Option R96):S96->Option R96
 |.e=>some [[sc (strB [67,79,85,78,84])],[sc (strB [70,73,82,83,84])],[sc (strB [76,65,83,84])],[sc (strB [83,85,77])],[sc (strB [77,73,78])],[sc (strB [77,65,88])],[sc (strB [77,69,65,78])]]
def g96 (k:Nat):Option R96:=itS qAe k (.e)
def P96:S96->R96->Prop
 |.e=>Fe Y96 qBi nB [] []
theorem ok96:∀ k s r,itS qAe k s=some r->P96 s r:=okU trivial
instance {k:Nat}:EvI (g96 k ) 96 [] [] qBi nB:=eI ok96
def qBS (k:Nat)(rec:S67->Option R67):S67->Option R67
 |.e a _ b c d e ..=>
  bif tg 6 (a==20)then
   (tg 9 (g37 k b)).bind fun f=>
   some f
  else
   bif tg 11 (a==21)then
    (tg 16 (g95 k b c)).bind fun g=>
    some g
   else
    bif tg 18 (a==22)then
     bif tg 21 (b==1)then
      some (strB [84,82,85,69])
     else
      some (strB [70,65,76,83,69])
    else
     bif tg 23 (a==23)then
      gd (tg 26 (decide ((strB [39]).size+d.size<=1000000000))) <|
      gd (tg 27 (decide (((strB [39])++d).size+(strB [39]).size<=1000000000))) <|
      some (((strB [39])++d)++(strB [39]))
     else
      bif tg 29 (a==24)then
       gd (tg 32 (decide (d.size+(strB [46]).size<=1000000000))) <|
       gd (tg 35 (decide ((d++(strB [46])).size+e.size<=1000000000))) <|
       some ((d++(strB [46]))++e)
      else
       bif tg 37 (a==25)then
        gd (tg 40 (decide ((strB [67,79,85,78,84,40]).size+d.size<=1000000000))) <|
        gd (tg 41 (decide (((strB [67,79,85,78,84,40])++d).size+(strB [41]).size<=1000000000))) <|
        some (((strB [67,79,85,78,84,40])++d)++(strB [41]))
       else
        (tg 42 (g96 k)).bind fun i=>
        ixR i (tg 46 (tg 3 (IntKind.i64.wrap (a-25)))) fun j=>
        un_s j fun l=>
        gd (tg 48 (decide (l.size+(strB [40]).size<=1000000000))) <|
        gd (tg 51 (decide ((l++(strB [40])).size+d.size<=1000000000))) <|
        gd (tg 52 (decide (((l++(strB [40]))++d).size+(strB [46]).size<=1000000000))) <|
        gd (tg 55 (decide ((((l++(strB [40]))++d)++(strB [46])).size+e.size<=1000000000))) <|
        gd (tg 56 (decide (((((l++(strB [40]))++d)++(strB [46]))++e).size+(strB [41]).size<=1000000000))) <|
        some (((((l++(strB [40]))++d)++(strB [46]))++e)++(strB [41]))
def g67 (k:Nat)(a:Int)(b:Rs)(c d:Int)(e f:By)(g:Int):Option R67:=itS qBS k (.e a b c d e f g)
def P67:S67->R67->Prop
 |.e a b c d e f g=>Fe Y67 qyF nB [.ag [ic a,.imm b,ic c,ic d,sc e,sc f,ic g]] []
theorem ok67:∀ k s r,itS qBS k s=some r->P67 s r:=okU (And.intro @qv2 trivial)
instance {k:Nat} {a:Int} {b:Rs} {c d:Int} {e f:By} {g:Int}:EvI (g67 k a b c d e f g) 67 [.ag [ic a,.imm b,ic c,ic d,sc e,sc f,ic g]] [] qyF nB:=eI ok67
def qoR (k:Nat)(rec:S36->Option R36):S36->Option R36
 |.e a b c d e f g=>
  (tg 15 (g65 k a)).bind fun i=>
  rec (tg 13 (rg [] [(⟨⟨.slot 5,[]⟩,0,0⟩,some 1)] (.h0 i [] 0 (b.length:Int) 0 a b c d e f g)))
 |.h0 a b c d e f g i j l m n=>
  bif tg 20 (decide (e<d))then
   ixR g (tg 26 e) fun o=>
   qE o fun p q t u v w x=>
   (tg 28 (rec (.e p q t u v w x))).bind fun y=>
   tup2 y fun z a1=>
   bif tg 33 (a==8)then
    rec (tg 19 (.h1 a b c e z a1 1 d e f g i j l m n))
   else
    rec (tg 19 (.h1 a b c e z a1 a d e f g i j l m n))
  else
   bif tg 67 ((b.length:Int)==2)then
    (tg 70 (g66 k a)).bind fun b1=>
    tup2 b1 fun c1 d1=>
    ixR b (tg 74 (tg 3 0)) fun e1=>
    un_s e1 fun f1=>
    gd (tg 76 (decide (f1.size+(strB [32]).size<=1000000000))) <|
    ixR c1 (tg 82 (tg 3 (IntKind.i64.wrap (f-d1)))) fun g1=>
    un_s g1 fun i1=>
    gd (tg 84 (decide ((f1++(strB [32])).size+i1.size<=1000000000))) <|
    gd (tg 85 (decide (((f1++(strB [32]))++i1).size+(strB [32]).size<=1000000000))) <|
    ixR b (tg 87 (tg 3 1)) fun j1=>
    un_s j1 fun l1=>
    gd (tg 89 (decide ((((f1++(strB [32]))++i1)++(strB [32])).size+l1.size<=1000000000))) <|
    some (((((f1++(strB [32]))++i1)++(strB [32]))++l1),c)
   else
    bif tg 94 (f==6)then
     ixR b (tg 96 (tg 3 0)) fun m1=>
     un_s m1 fun n1=>
     gd (tg 98 (decide ((strB [45]).size+n1.size<=1000000000))) <|
     some (((strB [45])++n1),IntKind.i64.wrap (c+1))
    else
     bif tg 104 (f==15)then
      ixR b (tg 106 (tg 3 0)) fun o1=>
      un_s o1 fun p1=>
      gd (tg 108 (decide ((strB [78,79,84,32]).size+p1.size<=1000000000))) <|
      some (((strB [78,79,84,32])++p1),IntKind.i64.wrap (c+1))
     else
      bif tg 114 (f==16)then
       ixR b (tg 116 (tg 3 0)) fun e1=>
       un_s e1 fun f1=>
       gd (tg 118 (decide ((strB [82,69,65,76,40]).size+f1.size<=1000000000))) <|
       gd (tg 119 (decide (((strB [82,69,65,76,40])++f1).size+(strB [41]).size<=1000000000))) <|
       some ((((strB [82,69,65,76,40])++f1)++(strB [41])),IntKind.i64.wrap (c+1))
      else
       bif tg 125 (f==17)then
        ixR b (tg 127 (tg 3 0)) fun q1=>
        un_s q1 fun t1=>
        gd (tg 129 (decide ((strB [73,83,78,65,78,40]).size+t1.size<=1000000000))) <|
        gd (tg 130 (decide (((strB [73,83,78,65,78,40])++t1).size+(strB [41]).size<=1000000000))) <|
        some ((((strB [73,83,78,65,78,40])++t1)++(strB [41])),IntKind.i64.wrap (c+1))
       else
        (tg 134 (g67 k f g i j l m n)).bind fun u1=>
        some (u1,0)
 |.h1 a b c d e f g i j l m n o p q t=>
  bif tg 35 (a==4)then
   rec (tg 3 (.h2 a b c d e f g i j true l m n o p q t))
  else
   rec (tg 3 (.h2 a b c d e f g i j (d==1) l m n o p q t))
 |.h2 a b c d e f g i j l m n o p q t u=>
  bif l then
   rec (tg 2 (.h3 a b c d e f (IntKind.i64.wrap (a+1)) i j m n o p q t u))
  else
   rec (tg 2 (.h3 a b c d e f g i j m n o p q t u))
 |.h3 a b c d e f g i j l m n o p q t=>
  ixR m (tg 45 d) fun u=>
  qE u fun v _ _ _ _ _ _=>
  (tg 48 (g65 k v)).bind fun w=>
  bif tg 50 (decide (w<g))then
   gd (tg 52 (decide ((strB [40]).size+e.size<=1000000000))) <|
   gd (tg 53 (decide (((strB [40])++e).size+(strB [41]).size<=1000000000))) <|
   rec (tg 5 (.h4 a b c (((strB [40])++e)++(strB [41])) (IntKind.i64.wrap (f+1)) i j l m n o p q t))
  else
   rec (tg 5 (.h4 a b c e f i j l m n o p q t))
 |.h4 a b c d e f g i j l m n o p=>
  gd (tg 59 (apOk 16 1 b [[sc d]])) <|
  rec (tg 5 (.h0 a (b++[[sc d]]) (if (e:Int)>c then e else c) f (IntKind.i64.wrap (g+1)) i j l m n o p))
def g36 (k:Nat)(a:Int)(b:Rs)(c d:Int)(e f:By)(g:Int):Option R36:=itS qoR k (.e a b c d e f g)
def P36:S36->R36->Prop
 |.e a b c d e f g=>Fe Y36 qCB nB [.ag [ic a,.imm b,ic c,ic d,sc e,sc f,ic g]] []
 |.h0 a b c d e f g i j l m n=>Fk Y36 qCB nB [1,1,1,1,0,1,0,4] ([.deadv,pL 1,.deadv,.deadv,cic a,.c (.own 1 b),cic c]++rd 11++[cic d,cic e]++rd 115) [(.loc 1,[ic f,.imm g,ic i,ic j,sc l,sc m,ic n])]
 |.h1 a b c d e f g i j l m n o p q t=>Fk Y36 qCB nB [1,1,1,1,0,1,0,0,1,1,0,0,1,1,1,1,2] ([.deadv,pL 1,.deadv,.deadv,cic a,.c (.own 1 b),cic c,cic d,csc e,cic f,cic g]++rd 7++[cic i,cic j]++rd 115) [(.loc 1,[ic l,.imm m,ic n,ic o,sc p,sc q,ic t])]
 |.h2 a b c d e f g i j l m n o p q t u=>Fk Y36 qCB nB [1,1,1,1,0,1,0,0,1,1,0,0,1,1,1,1,0,1,2] ([.deadv,pL 1,.deadv,.deadv,cic a,.c (.own 1 b),cic c,cic d,csc e,cic f,cic g]++rd 7++[cic i,cic j]++rd 19++[cbc l]++rd 95) [(.loc 1,[ic m,.imm n,ic o,ic p,sc q,sc t,ic u])]
 |.h3 a b c d e f g i j l m n o p q t=>Fk Y36 qCB nB [1,1,1,1,0,1,0,0,1,1,0,0,1,1,1,1,1,2] ([.deadv,pL 1,.deadv,.deadv,cic a,.c (.own 1 b),cic c,cic d,csc e,cic f,cic g]++rd 7++[cic i,cic j]++rd 115) [(.loc 1,[ic l,.imm m,ic n,ic o,sc p,sc q,ic t])]
 |.h4 a b c d e f g i j l m n o p=>Fk Y36 qCB nB [1,1,1,1,0,1,0,0,1,1,0,0,1,1,1,1,1,1,2] ([.deadv,pL 1,.deadv,.deadv,cic a,.c (.own 1 b),cic c,.deadv,csc d,cic e]++rd 8++[cic f,cic g]++rd 115) [(.loc 1,[ic i,.imm j,ic l,ic m,sc n,sc o,ic p])]
instance {a:Int} {b:Rs} {c d:Int} {e f:By} {g:Int}:EvS P36 id (.e a b c d e f g) 36 [.ag [ic a,.imm b,ic c,ic d,sc e,sc f,ic g]] [] qCB nB:=⟨fun o h v e=>evF (h v e)⟩
theorem ok36:∀ k s r,itS qoR k s=some r->P36 s r:=okU (And.intro @qu1 (And.intro @qv2 trivial))
instance {k:Nat} {a:Int} {b:Rs} {c d:Int} {e f:By} {g:Int}:EvI (g36 k a b c d e f g) 36 [.ag [ic a,.imm b,ic c,ic d,sc e,sc f,ic g]] [] qCB nB:=eI ok36
def yf (k:Nat)(rec:S35->Option R35):S35->Option R35
 |.e a=>rec (tg 9 (.h0 (strB [83,69,81,40]) a (a.length:Int) 0))
 |.h0 a b c d=>
  bif tg 9 (decide (d<c))then
   ixR b (tg 11 d) fun e=>
   qvQ e fun f g i j=>
   bif tg 14 (decide (d>0))then
    gd (tg 16 (decide (a.size+(strB [44,32]).size<=1000000000))) <|
    rec (tg 15 (.h1 (a++(strB [44,32])) b c d f g i j))
   else
    rec (tg 15 (.h1 a b c d f g i j))
  else
   gd (tg 38 (decide (a.size+(strB [41]).size<=1000000000))) <|
   some (a++(strB [41]))
 |.h1 a b c d e f g i=>
  bif tg 19 (e==3)then
   gd (tg 21 (decide (a.size+(strB [33]).size<=1000000000))) <|
   rec (tg 5 (.h2 (a++(strB [33])) b c d e f g i))
  else
   rec (tg 5 (.h2 a b c d e f g i))
 |.h2 a b c d e f g i=>
  gd (tg 25 (decide (a.size+f.size<=1000000000))) <|
  bif tg 28 (e==2)then
   gd (tg 30 (decide ((a++f).size+(strB [43]).size<=1000000000))) <|
   rec (tg 7 (.h3 ((a++f)++(strB [43])) b c d e f g i))
  else
   rec (tg 7 (.h3 (a++f) b c d e f g i))
 |.h3 a b c d _ _ e ..=>
  gd (tg 34 (decide ((strB [32]).size+e.size<=1000000000))) <|
  gd (tg 35 (decide (a.size+((strB [32])++e).size<=1000000000))) <|
  rec (tg 3 (rg [5] [] (.h0 (a++((strB [32])++e)) b c (IntKind.i64.wrap (d+1)))))
def g35 (k:Nat)(a:Rs):Option R35:=itS yf k (.e a)
def P35:S35->R35->Prop
 |.e a=>Fe Y35 qyF nB [cm a] []
 |.h0 a b c d=>Fk Y35 qyF nB [1,1,0,1,0,4] (rd 3++[csc a,.deadv,.deadv,cm b,cic c,cic d]++rd 30) []
 |.h1 a b c d e f g i=>Fk Y35 qyF nB [1,1,0,1,0,0,1,1,0,0,1,1,2] (rd 3++[csc a,.deadv,pL 5,cm b,cic c,cic d]++rd 30) [(.loc 5,[ic e,sc f,sc g,ic i])]
 |.h2 a b c d e f g i=>Fk Y35 qyF nB [1,1,0,1,0,0,1,1,0,0,1,1,1,2] (rd 3++[csc a,.deadv,pL 5,cm b,cic c,cic d]++rd 30) [(.loc 5,[ic e,sc f,sc g,ic i])]
 |.h3 a b c d e f g i=>Fk Y35 qyF nB [1,1,0,1,0,0,1,1,0,0,1,1,1,1,1,2] (rd 3++[csc a,.deadv,pL 5,cm b,cic c,cic d]++rd 30) [(.loc 5,[ic e,sc f,sc g,ic i])]
theorem ok35:∀ k s r,itS yf k s=some r->P35 s r:=okU (And.intro @qvK trivial)
instance {k:Nat} {a:Rs}:EvI (g35 k a) 35 [cm a] [] qyF nB:=eI ok35
def ql7 (k:Nat)(rec:S11->Option R11):S11->Option R11
 |.e a b c d e f=>
  (tg 12 (g34 k a b c d e f)).bind fun g=>
  bif tg 13 (!g)then
   some (strB [],3)
  else
   bif tg 17 (decide ((a.length:Int)>4))then
    rec (tg 10 (.h0 true a b c d e f))
   else
    (tg 20 (g23 k a b c d e f)).bind fun i=>
    rec (tg 10 (.h0 (decide (i>200)) a b c d e f))
 |.h0 a b c d e f g=>
  bif a then
   some (strB [],2)
  else
   rec (tg 9 (.h1 (strB [80,65,84,84,69,82,78,32]) b (b.length:Int) 0 b c d e f g))
 |.h1 a b c d e f g i j l=>
  bif tg 27 (decide (d<c))then
   ixR b (tg 29 d) fun m=>
   un_m m fun n=>
   bif tg 33 (decide ((n.length:Int)>8))then
    some (strB [],2)
   else
    bif tg 35 (decide (d>0))then
     gd (tg 37 (decide (a.size+(strB [32,124,32]).size<=1000000000))) <|
     rec (tg 20 (.h2 (a++(strB [32,124,32])) n b c d e f g i j l))
    else
     rec (tg 20 (.h2 a n b c d e f g i j l))
  else
   rec (tg 13 (.h3 a 0 (f.length:Int) 0 e f g i j l))
 |.h2 a b c d e f g i j l m=>
  (tg 40 (g35 k b)).bind fun n=>
  gd (tg 41 (decide (a.size+n.size<=1000000000))) <|
  rec (tg 3 (.h1 (a++n) c d (IntKind.i64.wrap (e+1)) f g i j l m))
 |.h3 a b c d e f g i j l=>
  bif tg 47 (decide (d<c))then
   ixR f (tg 53 d) fun m=>
   qE m fun n o p q t u v=>
   (tg 55 (g36 k n o p q t u v)).bind fun w=>
   tup2 w fun x y=>
   bif tg 61 (decide ((f.length:Int)>1))then
    ag 2 66 <|
    rec (tg 15 (.h4 a b d x y c d (n==14) e f g i j l))
   else
    rec (tg 15 (.h4 a b d x y c d false e f g i j l))
  else
   ixR [[sc (strB [83,84,82,73,67,84])],[sc (strB [78,69,88,84])],[sc (strB [65,78,89])]] (tg 94 (tg 3 (IntKind.i64.wrap (g-1)))) fun m=>
   un_s m fun z=>
   gd (tg 96 (decide ((strB [32,83,84,82,65,84,69,71,89,32]).size+z.size<=1000000000))) <|
   gd (tg 97 (decide (((strB [32,83,84,82,65,84,69,71,89,32])++z).size+(strB [32,87,73,84,72,73,78,32]).size<=1000000000))) <|
   (tg 100 (g37 k i)).bind fun a1=>
   gd (tg 101 (decide ((((strB [32,83,84,82,65,84,69,71,89,32])++z)++(strB [32,87,73,84,72,73,78,32])).size+a1.size<=1000000000))) <|
   gd (tg 102 (decide (a.size+((((strB [32,83,84,82,65,84,69,71,89,32])++z)++(strB [32,87,73,84,72,73,78,32]))++a1).size<=1000000000))) <|
   bif tg 105 (!(j.toList==(strB []).toList))then
    gd (tg 109 (decide ((strB [32,80,65,82,84,73,84,73,79,78,32,66,89,32]).size+j.size<=1000000000))) <|
    gd (tg 110 (decide ((a++((((strB [32,83,84,82,65,84,69,71,89,32])++z)++(strB [32,87,73,84,72,73,78,32]))++a1)).size+((strB [32,80,65,82,84,73,84,73,79,78,32,66,89,32])++j).size<=1000000000))) <|
    rec (tg 13 (rg [1] [] (.h5 ((a++((((strB [32,83,84,82,65,84,69,71,89,32])++z)++(strB [32,87,73,84,72,73,78,32]))++a1))++((strB [32,80,65,82,84,73,84,73,79,78,32,66,89,32])++j)) b)))
   else
    rec (tg 13 (rg [1] [] (.h5 (a++((((strB [32,83,84,82,65,84,69,71,89,32])++z)++(strB [32,87,73,84,72,73,78,32]))++a1)) b)))
 |.h4 a b c d e f g i j l m n o p=>
  bif i then
   gd (tg 72 (decide ((strB [40]).size+d.size<=1000000000))) <|
   gd (tg 73 (decide (((strB [40])++d).size+(strB [41]).size<=1000000000))) <|
   rec (tg 2 (.h6 a b c (((strB [40])++d)++(strB [41])) (IntKind.i64.wrap (e+1)) f g j l m n o p))
  else
   rec (tg 2 (.h6 a b c d e f g j l m n o p))
 |.h5 a b=>
  bif tg 113 (decide ((a.size:Int)>4000))then
   some (strB [],2)
  else
   bif tg 115 (decide (b>30))then
    some (strB [],14)
   else
    some (a,0)
 |.h6 a b c d e f g i j l m n o=>
  ixR [[sc (strB [32,87,72,69,82,69,32])],[sc (strB [32,65,78,68,32])]] (tg 80 (tg 3 (if (1:Int)<c then 1 else c))) fun p=>
  un_s p fun q=>
  gd (tg 83 (decide (q.size+d.size<=1000000000))) <|
  gd (tg 84 (decide (a.size+(q++d).size<=1000000000))) <|
  rec (tg 5 (.h3 (a++(q++d)) (if (e:Int)>b then e else b) f (IntKind.i64.wrap (g+1)) i j l m n o))
def g11 (k:Nat)(a b:Rs)(c d:Int)(e:By)(f:Int):Option R11:=itS ql7 k (.e a b c d e f)
def P11:S11->R11->Prop
 |.e a b c d e f=>Fe Y11 qCB nB [.ag [.imm a,.imm b,ic c,ic d,sc e,ic f]] []
 |.h0 a b c d e f g=>Fk Y11 qCB nB [1,1,0,1,2] ([.deadv,pL 1]++rd 20++[cbc a]++rd 94) [(.loc 1,[.imm b,.imm c,ic d,ic e,sc f,ic g])]
 |.h1 a b c d e f g i j l=>Fk Y11 qCB nB [1,1,1,1,0,1,0,4] ([.deadv,pL 1,.deadv,.deadv,csc a]++rd 19++[cm b,cic c,cic d]++rd 90) [(.loc 1,[.imm e,.imm f,ic g,ic i,sc j,ic l])]
 |.h2 a b c d e f g i j l m=>Fk Y11 qCB nB [1,1,1,1,0,1,0,0,1,1,0,0,1,1,1,2] ([.deadv,pL 1,.deadv,.deadv,csc a,.deadv,cm b]++rd 17++[cm c,cic d,cic e]++rd 90) [(.loc 1,[.imm f,.imm g,ic i,ic j,sc l,ic m])]
 |.h3 a b c d e f g i j l=>Fk Y11 qCB nB [1,1,1,1,1,1,0,1,0,4] ([.deadv,pL 1,.deadv,.deadv,csc a,.deadv,.deadv,cic b]++rd 37++[cic c,cic d]++rd 70) [(.loc 1,[.imm e,.imm f,ic g,ic i,sc j,ic l])]
 |.h4 a b c d e f g i j l m n o p=>Fk Y11 qCB nB [1,1,1,1,1,1,0,1,0,0,1,1,0,0,1,1,0,1,2] ([.deadv,pL 1,.deadv,.deadv,csc a,.deadv,.deadv,cic b,cic c,csc d,cic e]++rd 34++[cic f,cic g]++rd 23++[cbc i]++rd 46) [(.loc 1,[.imm j,.imm l,ic m,ic n,sc o,ic p])]
 |.h5 a b=>Fk Y11 qCB nB [1,1,1,1,1,1,1,1,1,2] (rd 4++[csc a,.deadv,.deadv,cic b]++rd 109) []
 |.h6 a b c d e f g i j l m n o=>Fk Y11 qCB nB [1,1,1,1,1,1,0,1,0,0,1,1,0,0,1,1,1,2] ([.deadv,pL 1,.deadv,.deadv,csc a,.deadv,.deadv,cic b,cic c,csc d,cic e]++rd 34++[cic f,cic g]++rd 70) [(.loc 1,[.imm i,.imm j,ic l,ic m,sc n,ic o])]
theorem ok11:∀ k s r,itS ql7 k s=some r->P11 s r:=okU (And.intro @qu1 (And.intro @qwI (And.intro @qv2 trivial)))
instance {k:Nat} {a b:Rs} {c d:Int} {e:By} {f:Int}:EvI (g11 k a b c d e f) 11 [.ag [.imm a,.imm b,ic c,ic d,sc e,ic f]] [] qCB nB:=eI ok11
def qj6 (k:Nat)(rec:S24->Option R24):S24->Option R24
 |.e a b c d e f g i j l m n o p q=>
  bif tg 12 (a != i)then
   rec (tg 5 (.h0 q true i j l m n o p a b c d e f g))
  else
   bif tg 18 (c != l)then
    rec (tg 5 (.h0 q true i j l m n o p a b c d e f g))
   else
    bif tg 25 (d != m)then
     rec (tg 5 (.h0 q true i j l m n o p a b c d e f g))
    else
     bif tg 32 (!(e.toList==n.toList))then
      rec (tg 5 (.h0 q true i j l m n o p a b c d e f g))
     else
      bif tg 39 (!(f.toList==o.toList))then
       rec (tg 5 (.h0 q true i j l m n o p a b c d e f g))
      else
       bif tg 48 ((b.length:Int)!=(j.length:Int))then
        rec (tg 5 (.h0 q true i j l m n o p a b c d e f g))
       else
        bif q then
         rec (tg 5 (.h0 q (g != p) i j l m n o p a b c d e f g))
        else
         rec (tg 5 (.h0 q false i j l m n o p a b c d e f g))
 |.h0 a b c d e f g i j l m n o p q t=>
  bif b then
   some false
  else
   rec (tg 7 (.h1 a (m.length:Int) 0 c d e f g i j l m n o p q t))
 |.h1 a b c d e f g i j l m n o p q t u=>
  bif tg 64 (decide (c<b))then
   ixR n (tg 69 c) fun v=>
   qE v fun w x y z a1 b1 c1=>
   ixR e (tg 74 c) fun d1=>
   qE d1 fun e1 f1 g1 i1 j1 l1 m1=>
   (tg 77 (rec (.e w x y z a1 b1 c1 e1 f1 g1 i1 j1 l1 m1 a))).bind fun n1=>
   bif tg 78 (!n1)then
    some false
   else
    rec (tg 16 (.h1 a b (IntKind.i64.wrap (c+1)) d e f g i j l m n o p q t u))
  else
   some true
def g24 (k:Nat)(a:Int)(b:Rs)(c d:Int)(e f:By)(g i:Int)(j:Rs)(l m:Int)(n o:By)(p:Int)(q:Bool):Option R24:=itS qj6 k (.e a b c d e f g i j l m n o p q)
def P24:S24->R24->Prop
 |.e a b c d e f g i j l m n o p q=>Fe Y24 qzQ nB [.ag [ic a,.imm b,ic c,ic d,sc e,sc f,ic g],.ag [ic i,.imm j,ic l,ic m,sc n,sc o,ic p],cbc q] []
 |.h0 a b c d e f g i j l m n o p q t=>Fk Y24 qzQ nB [1,0,1,2] ([.deadv,.deadv,cbc a,pL 3,pL 4]++rd 54++[cbc b]++rd 20) [(.loc 4,[ic c,.imm d,ic e,ic f,sc g,sc i,ic j]),(.loc 3,[ic l,.imm m,ic n,ic o,sc p,sc q,ic t])]
 |.h1 a b c d e f g i j l m n o p q t u=>Fk Y24 qzQ nB [1,1,0,1,0,4] ([.deadv,.deadv,cbc a,pL 3,pL 4]++rd 57++[cic b,cic c]++rd 16) [(.loc 4,[ic d,.imm e,ic f,ic g,sc i,sc j,ic l]),(.loc 3,[ic m,.imm n,ic o,ic p,sc q,sc t,ic u])]
instance {a:Int} {b:Rs} {c d:Int} {e f:By} {g i:Int} {j:Rs} {l m:Int} {n o:By} {p:Int} {q:Bool}:EvS P24 id (.e a b c d e f g i j l m n o p q) 24 [.ag [ic a,.imm b,ic c,ic d,sc e,sc f,ic g],.ag [ic i,.imm j,ic l,ic m,sc n,sc o,ic p],cbc q] [] qzQ nB:=⟨fun o h v e=>evF (h v e)⟩
theorem ok24:∀ k s r,itS qj6 k s=some r->P24 s r:=okU (And.intro @qu1 trivial)
instance {k:Nat} {a:Int} {b:Rs} {c d:Int} {e f:By} {g i:Int} {j:Rs} {l m:Int} {n o:By} {p:Int} {q:Bool}:EvI (g24 k a b c d e f g i j l m n o p q) 24 [.ag [ic a,.imm b,ic c,ic d,sc e,sc f,ic g],.ag [ic i,.imm j,ic l,ic m,sc n,sc o,ic p],cbc q] [] qzQ nB:=eI ok24
def qbD (k:Nat)(rec:S8->Option R8):S8->Option R8
 |.e a b c d e f g i j l m n o=>
  bif tg 16 (c != j)then
   rec (tg 5 (.h0 o true g i j l m n a b c d e f))
  else
   bif tg 22 (d != l)then
    rec (tg 5 (.h0 o true g i j l m n a b c d e f))
   else
    bif tg 29 (!(e.toList==m.toList))then
     rec (tg 5 (.h0 o true g i j l m n a b c d e f))
    else
     bif tg 38 ((a.length:Int)!=(g.length:Int))then
      rec (tg 5 (.h0 o true g i j l m n a b c d e f))
     else
      bif tg 47 ((b.length:Int)!=(i.length:Int))then
       rec (tg 5 (.h0 o true g i j l m n a b c d e f))
      else
       bif o then
        rec (tg 5 (.h0 o (f != n) g i j l m n a b c d e f))
       else
        rec (tg 5 (.h0 o false g i j l m n a b c d e f))
 |.h0 a b c d e f g i j l m n o p=>
  bif b then
   some false
  else
   rec (tg 7 (.h1 a (j.length:Int) 0 c d e f g i j l m n o p))
 |.h1 a b c d e f g i j l m n o p q=>
  bif tg 63 (decide (c<b))then
   ixR l (tg 68 c) fun t=>
   un_m t fun u=>
   ixR d (tg 74 c) fun v=>
   un_m v fun w=>
   bif tg 77 ((u.length:Int)!=(w.length:Int))then
    some false
   else
    ag 2 81 <|
    rec (tg 19 (.h2 a c b c u (u.length:Int) 0 d e f g i j l m n o p q))
  else
   rec (tg 11 (.h3 a (m.length:Int) 0 d e f g i j l m n o p q))
 |.h2 a b c d e f g i j l m n o p q t u v w=>
  bif tg 85 (decide (g<f))then
   ixR e (tg 87 g) fun x=>
   qvQ x fun y z a1 b1=>
   ixR i (tg 92 b) fun c1=>
   un_m c1 fun d1=>
   ixR d1 (tg 95 g) fun e1=>
   qvQ e1 fun f1 g1 i1 j1=>
   bif tg 101 (y != f1)then
    rec (tg 14 (rg [10,9] [] (.h4 a b c d e f g true i j l m n o p q t u v w)))
   else
    bif tg 107 (!(z.toList==g1.toList))then
     rec (tg 14 (rg [10,9] [] (.h4 a b c d e f g true i j l m n o p q t u v w)))
    else
     bif tg 114 (!(a1.toList==i1.toList))then
      rec (tg 14 (rg [10,9] [] (.h4 a b c d e f g true i j l m n o p q t u v w)))
     else
      bif a then
       rec (tg 14 (rg [10,9] [] (.h4 a b c d e f g (b1 != j1) i j l m n o p q t u v w)))
      else
       rec (tg 14 (rg [10,9] [] (.h4 a b c d e f g false i j l m n o p q t u v w)))
  else
   rec (tg 8 (.h1 a c (IntKind.i64.wrap (d+1)) i j l m n o p q t u v w))
 |.h3 a b c d e f g i j l m n o p q=>
  bif tg 132 (decide (c<b))then
   ixR m (tg 137 c) fun t=>
   qE t fun u v w x y z a1=>
   ixR e (tg 142 c) fun b1=>
   qE b1 fun c1 d1 e1 f1 g1 i1 j1=>
   (tg 145 (g24 k u v w x y z a1 c1 d1 e1 f1 g1 i1 j1 a)).bind fun l1=>
   bif tg 146 (!l1)then
    some false
   else
    rec (tg 16 (.h3 a b (IntKind.i64.wrap (c+1)) d e f g i j l m n o p q))
  else
   some true
 |.h4 a b c d e f g i j l m n o p q t u v w x=>
  bif i then
   some false
  else
   rec (tg 4 (.h2 a b c d e f (IntKind.i64.wrap (g+1)) j l m n o p q t u v w x))
def g8 (k:Nat)(a b:Rs)(c d:Int)(e:By)(f:Int)(g i:Rs)(j l:Int)(m:By)(n:Int)(o:Bool):Option R8:=itS qbD k (.e a b c d e f g i j l m n o)
def P8:S8->R8->Prop
 |.e a b c d e f g i j l m n o=>Fe Y8 qzQ nB [.ag [.imm a,.imm b,ic c,ic d,sc e,ic f],.ag [.imm g,.imm i,ic j,ic l,sc m,ic n],cbc o] []
 |.h0 a b c d e f g i j l m n o p=>Fk Y8 qzQ nB [1,0,1,2] ([.deadv,.deadv,cbc a,pL 3,pL 4]++rd 53++[cbc b]++rd 89) [(.loc 4,[.imm c,.imm d,ic e,ic f,sc g,ic i]),(.loc 3,[.imm j,.imm l,ic m,ic n,sc o,ic p])]
 |.h1 a b c d e f g i j l m n o p q=>Fk Y8 qzQ nB [1,1,0,1,0,4] ([.deadv,.deadv,cbc a,pL 3,pL 4]++rd 56++[cic b,cic c]++rd 85) [(.loc 4,[.imm d,.imm e,ic f,ic g,sc i,ic j]),(.loc 3,[.imm l,.imm m,ic n,ic o,sc p,ic q])]
 |.h2 a b c d e f g i j l m n o p q t u v w=>Fk Y8 qzQ nB [1,1,0,1,0,0,1,1,0,0,1,1,1,0,4] ([.deadv,.deadv,cbc a,pL 3,pL 4,.deadv,.deadv,cic b]++rd 53++[cic c,cic d]++rd 19++[cm e,cic f,cic g]++rd 63) [(.loc 4,[.imm i,.imm j,ic l,ic m,sc n,ic o]),(.loc 3,[.imm p,.imm q,ic t,ic u,sc v,ic w])]
 |.h3 a b c d e f g i j l m n o p q=>Fk Y8 qzQ nB [1,1,1,0,1,0,4] ([.deadv,.deadv,cbc a,pL 3,pL 4]++rd 125++[cic b,cic c]++rd 16) [(.loc 4,[.imm d,.imm e,ic f,ic g,sc i,ic j]),(.loc 3,[.imm l,.imm m,ic n,ic o,sc p,ic q])]
 |.h4 a b c d e f g i j l m n o p q t u v w x=>Fk Y8 qzQ nB [1,1,0,1,0,0,1,1,0,0,1,1,1,0,0,1,1,0,0,1,1,1,2] ([.deadv,.deadv,cbc a,pL 3,pL 4,.deadv,.deadv,cic b]++rd 53++[cic c,cic d]++rd 19++[cm e,cic f,cic g]++rd 40++[cbc i]++rd 22) [(.loc 4,[.imm j,.imm l,ic m,ic n,sc o,ic p]),(.loc 3,[.imm q,.imm t,ic u,ic v,sc w,ic x])]
theorem ok8:∀ k s r,itS qbD k s=some r->P8 s r:=okU (And.intro @qu1 (And.intro @qvK (And.intro @qwI trivial)))
instance {k:Nat} {a b:Rs} {c d:Int} {e:By} {f:Int} {g i:Rs} {j l:Int} {m:By} {n:Int} {o:Bool}:EvI (g8 k a b c d e f g i j l m n o) 8 [.ag [.imm a,.imm b,ic c,ic d,sc e,ic f],.ag [.imm g,.imm i,ic j,ic l,sc m,ic n],cbc o] [] qzQ nB:=eI ok8
def qnB (k:Nat)(rec:S4->Option R4):S4->Option R4
 |.e a b c d e f=>
  (tg 12 (g9 k a b c d e f)).bind fun g=>
  tup6 g fun i j l m n o=>
  (tg 15 (qw5 k i j l m n o)).bind fun p=>
  tup2 p fun q t=>
  (tg 20 (g11 k a b c d e f)).bind fun u=>
  tup2 u fun v w=>
  (tg 23 (g7 k)).bind fun x=>
  bif tg 24 (!x)then
   rec (tg 11 (rg [3] [] (.h0 q w true a b c d e f)))
  else
   bif tg 28 (!(q.toList==v.toList))then
    rec (tg 11 (rg [3] [] (.h0 q w true a b c d e f)))
   else
    bif tg 33 (t != w)then
     rec (tg 11 (rg [3] [] (.h0 q w true a b c d e f)))
    else
     (tg 38 (g8 k i j l m n o a b c d e f true)).bind fun y=>
     rec (tg 11 (rg [3] [] (.h0 q w (!y) a b c d e f)))
 |.h0 a b c d e f g i j=>
  bif c then
   some false
  else
   bif tg 42 (b != 0)then
    some true
   else
    (tg 45 (g5 k a)).bind fun l=>
    altC l (fun m=>
      tup8 m fun n o p q t u _ v=>
      bif tg 50 (v==0)then
       (tg 54 (g8 k n o p q t u d e f g i j false)).bind fun w=>
       some w
      else
       some false) (fun m=>
      tup6 m fun p q t u _ v=>
      bif tg 50 (v==0)then
       (tg 54 (g8 k [] [] p q t u d e f g i j false)).bind fun w=>
       some w
      else
       some false)
def g4 (k:Nat)(a b:Rs)(c d:Int)(e:By)(f:Int):Option R4:=itS qnB k (.e a b c d e f)
def P4:S4->R4->Prop
 |.e a b c d e f=>Fe Y4 qzQ nB [.ag [.imm a,.imm b,ic c,ic d,sc e,ic f]] []
 |.h0 a b c d e f g i j=>Fk Y4 qzQ nB [1,1,1,1,0,1,2] ([.deadv,pL 1,.deadv,.deadv,csc a,.deadv,.deadv,cic b]++rd 32++[cbc c]++rd 15) [(.loc 1,[.imm d,.imm e,ic f,ic g,sc i,ic j])]
theorem ok4:∀ k s r,itS qnB k s=some r->P4 s r:=okU trivial
instance {k:Nat} {a b:Rs} {c d:Int} {e:By} {f:Int}:EvI (g4 k a b c d e f) 4 [.ag [.imm a,.imm b,ic c,ic d,sc e,ic f]] [] qzQ nB:=eI ok4
def qq2 (k:Nat)(rec:S49->Option R49):S49->Option R49
 |.e a=>
  bif tg 4 (a==32)then
   some true
  else
   bif tg 7 (a==9)then
    some true
   else
    bif tg 11 (a==10)then
     some true
    else
     some (a==13)
def g49 (k:Nat)(a:Int):Option R49:=itS qq2 k (.e a)
def P49:S49->R49->Prop
 |.e a=>Fe Y49 qzQ nB [cu a] []
theorem ok49:∀ k s r,itS qq2 k s=some r->P49 s r:=okU trivial
instance {k:Nat} {a:Int}:EvI (g49 k a) 49 [cu a] [] qzQ nB:=eI ok49
def qq5 (k:Nat)(rec:S80->Option R80):S80->Option R80
 |.e a b c=>rec (tg 7 (.h0 a b c 0))
 |.h0 a b c d=>
  bif tg 13 (decide ((IntKind.i64.wrap (b+d))<(a.size:Int)))then
   sxI a (tg 19 (IntKind.i64.wrap (b+d))) fun e=>
   (tg 20 (g82 k e)).bind fun f=>
   bif f then
    rec (tg 4 (.h1 a b c d true))
   else
    bif c then
     ag 1 28 <|
     (tg 29 (g79 k e)).bind fun g=>
     bif g then
      rec (tg 4 (.h1 a b c d true))
     else
      ag 3 35 <|
      rec (tg 4 (.h1 a b c d (e==95)))
    else
     rec (tg 4 (.h1 a b c d false))
  else
   rec (tg 4 (.h1 a b c d false))
 |.h1 a b c d e=>
  bif e then
   rec (tg 5 (.h0 a b c (IntKind.i64.wrap (d+1))))
  else
   some d
def g80 (k:Nat)(a:By)(b:Int)(c:Bool):Option R80:=itS qq5 k (.e a b c)
def P80:S80->R80->Prop
 |.e a b c=>Fe Y80 qx1 nB [csc a,cic b,cbc c] []
 |.h0 a b c d=>Fk Y80 qx1 nB [1,1,0,0,4] ([csc a,cic b,cbc c]++rd 4++[cic d]++rd 36) []
 |.h1 a b c d e=>Fk Y80 qx1 nB [1,1,0,0,0,0,1,2] ([csc a,cic b,cbc c]++rd 4++[cic d]++rd 32++[cbc e]++rd 3) []
theorem ok80:∀ k s r,itS qq5 k s=some r->P80 s r:=okU trivial
instance {k:Nat} {a:By} {b:Int} {c:Bool}:EvI (g80 k a b c) 80 [csc a,cic b,cbc c] [] qx1 nB:=eI ok80
def qsg:R104->ARes
 |(a,b)=>.ret ⟨.tup [false,false],[[ic a],[bc b]]⟩
def qvl (k:Nat)(rec:S104->Option R104):S104->Option R104
 |.e a=>
  bif tg 11 (decide ((a.size:Int)>0))then
   sxI a (tg 14 0) fun b=>
   rec (tg 7 (.h0 a a (b==45)))
  else
   rec (tg 7 (.h0 a a false))
 |.h0 a b c=>
  bif c then
   gd (tg 18 (tg 0 (decide (0<=(1:Int)/\(1:Int)<=(b.size:Int)/\(b.size:Int)<=(b.size:Int))))) <|
   rec (tg 2 (.h1 a (b.extract (Int.toNat (1:Int)) (Int.toNat (b.size:Int)))))
  else
   rec (tg 2 (.h1 a b))
 |.h1 a b=>rec (tg 7 (.h2 a b 0 0))
 |.h2 a b c d=>
  bif tg 22 (decide (d<(b.size:Int)))then
   sxI b (tg 27 d) fun e=>
   (tg 28 (g82 k e)).bind fun f=>
   bif tg 29 (!f)then
    rec (tg 11 (.h3 a b c d true))
   else
    rec (tg 11 (.h3 a b c d (decide (d>18))))
  else
   bif tg 48 (decide ((b.size:Int)<(a.size:Int)))then
    rec (tg 13 (.h4 a b (IntKind.i64.wrap ((0:Int)-(IntKind.i64.wrap c)))))
   else
    rec (tg 13 (.h4 a b (IntKind.i64.wrap c)))
 |.h3 a b c d e=>
  bif e then
   some (0,false)
  else
   sxI b (tg 38 d) fun f=>
   rec (tg 5 (.h2 a b (IntKind.u64.wrap ((IntKind.u64.wrap ((10:Int)*c))+(IntKind.u64.wrap (IntKind.u8.wrap (f-48))))) (IntKind.i64.wrap (d+1))))
 |.h4 a b c=>
  bif tg 54 (decide ((b.size:Int)>0))then
   (tg 57 (g37 k c)).bind fun d=>
   some (c,d.toList==a.toList)
  else
   some (c,false)
def g104 (k:Nat)(a:By):Option R104:=itS qvl k (.e a)
def P104:S104->R104->Prop
 |.e a=>Fe Y104 qsg nB [csc a] []
 |.h0 a b c=>Fk Y104 qsg nB [1,1,0,1,2] ([csc a]++rd 3++[csc b]++rd 11++[cbc c]++rd 44) []
 |.h1 a b=>Fk Y104 qsg nB [1,1,1,2] ([csc a]++rd 3++[csc b]++rd 56) []
 |.h2 a b c d=>Fk Y104 qsg nB [1,1,1,1,0,1,0,4] ([csc a]++rd 3++[csc b,.c (.val (.int .u64 c)),cic d]++rd 54) []
 |.h3 a b c d e=>Fk Y104 qsg nB [1,1,1,1,0,1,0,0,1,0,0,0,1,2] ([csc a]++rd 3++[csc b,.c (.val (.int .u64 c)),cic d]++rd 26++[cbc e]++rd 27) []
 |.h4 a b c=>Fk Y104 qsg nB [1,1,1,1,1,1,1,2] ([csc a]++rd 3++[csc b,.deadv,.deadv,cic c]++rd 53) []
theorem qFa:∀ k s r,itS qvl k s=some r->P104 s r:=okU trivial
instance {k:Nat} {a:By}:EvI (g104 k a) 104 [csc a] [] qsg nB:=eI qFa
def qmo:R83->ARes
 |(a,b,c,d,e,f)=>.ret ⟨.tup [true,false],[[ic a,sc b,ic c,ic d,ic e],[ic f]]⟩
def qvr (k:Nat)(rec:S83->Option R83):S83->Option R83
 |.e a b=>
  (g80 k a b false).bind fun c=>
  gd (decide (0<=b/\b<=(IntKind.i64.wrap (b+c))/\(IntKind.i64.wrap (b+c))<=(a.size:Int))) <|
  bif decide ((IntKind.i64.wrap (b+c))<(a.size:Int))then
   sxI a (IntKind.i64.wrap (b+c)) fun d=>
   rec (.h0 a b c (a.extract (Int.toNat b) (Int.toNat (IntKind.i64.wrap (b+c)))) 0 (d==46) 0 (strB []) 0 0 0)
  else
   rec (.h0 a b c (a.extract (Int.toNat b) (Int.toNat (IntKind.i64.wrap (b+c)))) 0 false 0 (strB []) 0 0 0)
 |.h0 a b c d e f g i j l m=>
  bif f then
   (g80 k a (IntKind.i64.wrap ((IntKind.i64.wrap (b+c))+1)) false).bind fun n=>
   rec (.h1 a b c d n g i j l m)
  else
   rec (.h1 a b c d e g i j l m)
 |.h1 a b c d e f g i j l=>
  bif decide (c>1)then
   sxI d 0 fun m=>
   bif m==48 then
    rec (.h2 a b c d e true f g i j l)
   else
    bif e==0 then
     bif decide (c>19)then
      rec (.h2 a b c d e true f g i j l)
     else
      rec (.h2 a b c d e false f g i j l)
    else
     bif decide (e>0)then
      rec (.h2 a b c d e (decide ((IntKind.i64.wrap (c+e))>15)) f g i j l)
     else
      rec (.h2 a b c d e false f g i j l)
  else
   bif e==0 then
    bif decide (c>19)then
     rec (.h2 a b c d e true f g i j l)
    else
     rec (.h2 a b c d e false f g i j l)
   else
    bif decide (e>0)then
     rec (.h2 a b c d e (decide ((IntKind.i64.wrap (c+e))>15)) f g i j l)
    else
     rec (.h2 a b c d e false f g i j l)
 |.h2 a b c d e f g i j l m=>
  bif f then
   some (0,strB [],0,0,0,0)
  else
   bif e==0 then
    (g104 k d).bind fun n=>
    tup2 n fun o p=>
    bif !p then
     some (0,strB [],0,0,0,0)
    else
     some (3,strB [],o,0,0,c)
   else
    gd (decide (0<=(IntKind.i64.wrap ((IntKind.i64.wrap (b+c))+1))/\(IntKind.i64.wrap ((IntKind.i64.wrap (b+c))+1))<=(IntKind.i64.wrap ((IntKind.i64.wrap ((IntKind.i64.wrap (b+c))+1))+e))/\(IntKind.i64.wrap ((IntKind.i64.wrap ((IntKind.i64.wrap (b+c))+1))+e))<=(a.size:Int))) <|
    gd (decide (d.size+(a.extract (Int.toNat (IntKind.i64.wrap ((IntKind.i64.wrap (b+c))+1))) (Int.toNat (IntKind.i64.wrap ((IntKind.i64.wrap ((IntKind.i64.wrap (b+c))+1))+e)))).size<=1000000000)) <|
    rec (.h3 c e 0 (yH (d++(a.extract (Int.toNat (IntKind.i64.wrap ((IntKind.i64.wrap (b+c))+1))) (Int.toNat (IntKind.i64.wrap ((IntKind.i64.wrap ((IntKind.i64.wrap (b+c))+1))+e)))))) ((yH (d++(a.extract (Int.toNat (IntKind.i64.wrap ((IntKind.i64.wrap (b+c))+1))) (Int.toNat (IntKind.i64.wrap ((IntKind.i64.wrap ((IntKind.i64.wrap (b+c))+1))+e)))))).length:Int) 0 g i j l m)
 |.h3 a b c d e f g i j l m=>
  bif decide (f<e)then
   ixR d f fun n=>
   un_y n fun o=>
   rec (.h3 a b (IntKind.i64.wrap ((IntKind.i64.wrap ((10:Int)*c))+(IntKind.i64.wrap (IntKind.u8.wrap (o-48))))) d e (IntKind.i64.wrap (f+1)) g i j l m)
  else
   some (4,strB [],c,b,0,IntKind.i64.wrap ((IntKind.i64.wrap (a+1))+b))
def g83 (k:Nat)(a:By)(b:Int):Option R83:=itS qvr k (.e a b)
def P83:S83->R83->Prop
 |.e a b=>Fe Y83 qmo nB [csc a,cic b] []
 |.h0 a b c d e f g i j l m=>Fk Y83 qmo nB [1,1,1,1,0,1,2] ([csc a,cic b,.deadv,.deadv,pL 4,.deadv,cic c,csc d,cic e]++rd 27++[cbc f]++rd 79) [(.loc 4,[ic g,sc i,ic j,ic l,ic m])]
 |.h1 a b c d e f g i j l=>Fk Y83 qmo nB [1,1,1,1,1,2] ([csc a,cic b,.deadv,.deadv,pL 4,.deadv,cic c,csc d,cic e]++rd 107) [(.loc 4,[ic f,sc g,ic i,ic j,ic l])]
 |.h2 a b c d e f g i j l m=>Fk Y83 qmo nB [1,1,1,1,1,0,1,2] ([csc a,cic b,.deadv,.deadv,pL 4,.deadv,cic c,csc d,cic e]++rd 58++[cbc f]++rd 48) [(.loc 4,[ic g,sc i,ic j,ic l,ic m])]
 |.h3 a b c d e f g i j l m=>Fk Y83 qmo nB [1,1,1,1,1,1,1,1,0,1,0,4] (rd 4++[pL 4,.deadv,cic a,.deadv,cic b,.deadv,.deadv,cic c]++rd 84++[cm d,cic e,cic f]++rd 17) [(.loc 4,[ic g,sc i,ic j,ic l,ic m])]
abbrev E83 (a:By)(b:Int)(r:R83):Prop:=Ev Tryz.prog noHand 83 [csc a,cic b] [] (qmo r) (nB r)
theorem qkF {a:By}{b:Int}{r:R83}(h:P83 (.e a b) r):E83 a b r:=evF h
theorem ok83:∀ k s r,itS qvr k s=some r->P83 s r:=qF fun k rec ih s r h=>match s,h with
 |.e ..,h=>by
  obtain⟨_,a,h⟩:=qh h;obtain⟨b,h⟩:=zo h;rcases qa h with⟨c,h⟩|⟨c,h⟩
  . obtain⟨_,d,h⟩:=Xm h;exact mA 0 (ih _ _ h) 11 [cA 16 (evI a),xS 22 b,tT 28 c,sA 34 d] 116 83076749736557242056487872548044332
  . exact mA 0 (ih _ _ h) 11 [cA 16 (evI a),xS 22 b,tF 28 c] 116 83076749736557242056487872548044332
 |.h0 ..,h=>by
  replace h:=qa h;rcases h with⟨rfl,h⟩|⟨rfl,h⟩
  . obtain⟨_,a,h⟩:=qh h;exact mA 0 (ih _ _ h) 2 [cA 42 (evI a)] 116 83076749736557242056487941267521068
  . exact mA 0 (ih _ _ h) 2 [] 116 83076749736557242056487941267521068
 |.h1 _ _ _ _ a ..,h=>by
  rcases qa h with⟨b,h⟩|⟨b,h⟩
  .
   obtain⟨_,c,h⟩:=Xm h;rcases qa h with⟨d,h⟩|⟨d,h⟩
   . exact mA 0 (ih _ _ h) 3 [tT 44 b,sA 47 c,tT 48 d] 116 83076749736557094482535351591108140
   .
    rcases qa h with⟨e,h⟩|⟨e,h⟩
    . rcases qa h with⟨f,h⟩|⟨f,h⟩
      . exact mA 0 (ih _ _ h) 3 [tT 44 b,sA 47 c,tF 48 d,tT 52 e,tT 55 f] 116 83076749736557094482535351591108140
      . exact mA 0 (ih _ _ h) 3 [tT 44 b,sA 47 c,tF 48 d,tT 52 e,tF 55 f,tF 60 (show(decide (a>0))=false from by rw[eq_of_beq e];rfl)] 116 83076749736557094482535351591108140
    . rcases qa h with⟨f,h⟩|⟨f,h⟩
      . exact mA 0 (ih _ _ h) 3 [tT 44 b,sA 47 c,tF 48 d,tF 52 e,tT 60 f] 116 83076749736557094482535351591108140
      . exact mA 0 (ih _ _ h) 3 [tT 44 b,sA 47 c,tF 48 d,tF 52 e,tF 60 f] 116 83076749736557094482535351591108140
  .
   rcases qa h with⟨g,h⟩|⟨g,h⟩
   . rcases qa h with⟨c,h⟩|⟨c,h⟩
     . exact mA 0 (ih _ _ h) 3 [tF 44 b,tT 52 g,tT 55 c] 116 83076749736557094482535351591108140
     . exact mA 0 (ih _ _ h) 3 [tF 44 b,tT 52 g,tF 55 c,tF 60 (show(decide (a>0))=false from by rw[eq_of_beq g];rfl)] 116 83076749736557094482535351591108140
   . rcases qa h with⟨c,h⟩|⟨c,h⟩
     . exact mA 0 (ih _ _ h) 3 [tF 44 b,tF 52 g,tT 60 c] 116 83076749736557094482535351591108140
     . exact mA 0 (ih _ _ h) 3 [tF 44 b,tF 52 g,tF 60 c] 116 83076749736557094482535351591108140
 |.h2 ..,h=>by
  replace h:=qa h;rcases h with⟨rfl,h⟩|⟨rfl,h⟩
  . cases h;exact mF 0 []
  .
   rcases qa h with⟨a,h⟩|⟨a,h⟩
   . obtain⟨_,b,h⟩:=b2 h;rcases qa h with⟨c,h⟩|⟨c,h⟩
     . cases h;exact mF 0 [tT 70 a,cA 73 (evI b),tT 77 c]
     . cases h;exact mF 0 [tT 70 a,cA 73 (evI b),tF 77 c]
   . obtain⟨d,h⟩:=zo h;obtain⟨b,h⟩:=zo h;exact mA 0 (ih _ _ h) 14 [tF 70 a,xS 94 d,xC 95 b] 116 83076195139419642206124786459866799
 |.h3 ..,h=>by
  rcases qa h with⟨a,h⟩|⟨a,h⟩
  . obtain⟨_,b,h⟩:=YJ h;replace h:=qsN h;obtain⟨_,rfl,h⟩:=h;exact mA 0 (ih _ _ h) 13 [tT 99 a,rA 100 b] 116 83076195139419642206124786459866799
  . cases h;exact mF 0 [tF 99 a]
theorem ev83 {k:Nat}{a:By}{b:Int}{r:R83}(h:g83 k a b=some r):E83 a b r:=qkF (ok83 _ _ _ h)
instance {k:Nat} {a:By} {b:Int}:EvI (g83 k a b) 83 [csc a,cic b] [] qmo nB:=⟨fun r h=>ev83 h⟩
def qq3 (k:Nat)(rec:S50->Option R50):S50->Option R50
 |.e a b=>
  sxI a (tg 15 b) fun c=>
  (tg 17 (g79 k c)).bind fun d=>
  bif d then
   (tg 20 (g80 k a b true)).bind fun e=>
   gd (tg 26 (tg 0 (decide (0<=b/\b<=(IntKind.i64.wrap (b+e))/\(IntKind.i64.wrap (b+e))<=(a.size:Int))))) <|
   (tg 28 (g81 k (a.extract (Int.toNat b) (Int.toNat (IntKind.i64.wrap (b+e)))))).bind fun f=>
   bif f then
    some (1,(a.extract (Int.toNat b) (Int.toNat (IntKind.i64.wrap (b+e)))),0,0,0,e)
   else
    (tg 33 (g63 k (a.extract (Int.toNat b) (Int.toNat (IntKind.i64.wrap (b+e)))))).bind fun g=>
    bif g then
     some (2,(a.extract (Int.toNat b) (Int.toNat (IntKind.i64.wrap (b+e)))),0,0,0,e)
    else
     some (0,strB [],0,0,0,0)
  else
   (tg 39 (g82 k c)).bind fun e=>
   bif e then
    (tg 42 (g83 k a b)).bind fun i=>
    tup6 i fun j l m n o p=>
    some (j,l,m,n,o,p)
   else
    bif tg 46 (c==39)then
     (tg 50 (g80 k a (IntKind.i64.wrap (b+1)) true)).bind fun f=>
     gd (tg 58 (tg 0 (decide (0<=(IntKind.i64.wrap (b+1))/\(IntKind.i64.wrap (b+1))<=(IntKind.i64.wrap ((IntKind.i64.wrap (b+1))+f))/\(IntKind.i64.wrap ((IntKind.i64.wrap (b+1))+f))<=(a.size:Int))))) <|
     (tg 60 (g63 k (a.extract (Int.toNat (IntKind.i64.wrap (b+1))) (Int.toNat (IntKind.i64.wrap ((IntKind.i64.wrap (b+1))+f)))))).bind fun q=>
     bif tg 61 (!q)then
      rec (tg 25 (.h0 f (a.extract (Int.toNat (IntKind.i64.wrap (b+1))) (Int.toNat (IntKind.i64.wrap ((IntKind.i64.wrap (b+1))+f)))) true 0 (strB []) 0 0 0))
     else
      bif tg 69 (decide ((IntKind.i64.wrap ((IntKind.i64.wrap (b+1))+f))>=(a.size:Int)))then
       rec (tg 25 (.h0 f (a.extract (Int.toNat (IntKind.i64.wrap (b+1))) (Int.toNat (IntKind.i64.wrap ((IntKind.i64.wrap (b+1))+f)))) true 0 (strB []) 0 0 0))
      else
       sxI a (tg 77 (IntKind.i64.wrap ((IntKind.i64.wrap (b+1))+f))) fun t=>
       rec (tg 25 (.h0 f (a.extract (Int.toNat (IntKind.i64.wrap (b+1))) (Int.toNat (IntKind.i64.wrap ((IntKind.i64.wrap (b+1))+f)))) (t != 39) 0 (strB []) 0 0 0))
    else
     rec (tg 24 (.h1 a b [[sc (strB [33,61])],[sc (strB [60,61])],[sc (strB [62,61])],[sc (strB [40])],[sc (strB [41])],[sc (strB [44])],[sc (strB [46])],[sc (strB [43])],[sc (strB [45])],[sc (strB [42])],[sc (strB [47])],[sc (strB [37])],[sc (strB [61])],[sc (strB [60])],[sc (strB [62])],[sc (strB [33])],[sc (strB [124])]] 17 0 0 (strB []) 0 0 0))
 |.h0 a b c ..=>
  bif c then
   some (0,strB [],0,0,0,0)
  else
   some (5,b,0,0,0,IntKind.i64.wrap (a+2))
 |.h1 a b c d e f g i j l=>
  bif tg 88 (decide (e<d))then
   ixR c (tg 89 (tg 3 e)) fun m=>
   un_s m fun n=>
   bif tg 97 (decide ((IntKind.i64.wrap (b+(n.size:Int)))<=(a.size:Int)))then
    gd (tg 105 (tg 0 (decide (0<=b/\b<=(IntKind.i64.wrap (b+(n.size:Int)))/\(IntKind.i64.wrap (b+(n.size:Int)))<=(a.size:Int))))) <|
    rec (tg 12 (.h2 a b n c d e ((a.extract (Int.toNat b) (Int.toNat (IntKind.i64.wrap (b+(n.size:Int))))).toList==n.toList) f g i j l))
   else
    rec (tg 12 (.h2 a b n c d e false f g i j l))
  else
   some (0,strB [],0,0,0,0)
 |.h2 a b c d e f g i j l m n=>
  bif g then
   some (6,c,0,0,0,(c.size:Int))
  else
   rec (tg 4 (.h1 a b d e (IntKind.i64.wrap (f+1)) i j l m n))
def g50 (k:Nat)(a:By)(b:Int):Option R50:=itS qq3 k (.e a b)
def P50:S50->R50->Prop
 |.e a b=>Fe Y50 qmo nB [csc a,cic b] []
 |.h0 a b c d e f g i=>Fk Y50 qmo nB [1,1,1,1,0,1,0,1,1,0,1,2] (rd 4++[pL 4]++rd 4++[cic a,csc b]++rd 68++[cbc c]++rd 35) [(.loc 4,[ic d,sc e,ic f,ic g,ic i])]
 |.h1 a b c d e f g i j l=>Fk Y50 qmo nB [1,1,1,1,1,0,1,0,4] ([csc a,cic b,.deadv,.deadv,pL 4]++rd 80++[.c (.own 1 c),cic d,cic e]++rd 27) [(.loc 4,[ic f,sc g,ic i,ic j,ic l])]
 |.h2 a b c d e f g i j l m n=>Fk Y50 qmo nB [1,1,1,1,1,0,1,0,0,1,1,0,0,1,1,2] ([csc a,cic b,.deadv,.deadv,pL 4]++rd 7++[csc c]++rd 72++[.c (.own 1 d),cic e,cic f]++rd 20++[cbc g]++rd 6) [(.loc 4,[ic i,sc j,ic l,ic m,ic n])]
theorem ok50:∀ k s r,itS qq3 k s=some r->P50 s r:=okU (And.intro @qv2 trivial)
instance {k:Nat} {a:By} {b:Int}:EvI (g50 k a b) 50 [csc a,cic b] [] qmo nB:=eI ok50
def qhP:R16->ARes
 |(a,b,c)=>.ret ⟨.tup [false,false,false],[[.own 5 a],[ic b],[ic c]]⟩
def ZT (k:Nat)(rec:S16->Option R16):S16->Option R16
 |.e a=>
  bif tg 11 (decide ((a.size:Int)>4000))then
   rec (tg 8 (rg [] [(⟨⟨.slot 2,[]⟩,0,0⟩,some 5)] (.h0 [] 0 2)))
  else
   rec (tg 13 (rg [] [(⟨⟨.slot 5,[]⟩,0,0⟩,some 5)] (.h1 a [] 0)))
 |.h0 a b c=>some (a,b,c)
 |.h1 a b c=>rec (tg 5 (.h2 a b c))
 |.h2 a b c=>
  bif tg 15 (decide (c<(a.size:Int)))then
   sxI a (tg 19 c) fun d=>
   (tg 20 (g49 k d)).bind fun e=>
   rec (tg 4 (.h3 a b c e))
  else
   rec (tg 4 (.h3 a b c false))
 |.h3 a b c d=>
  bif d then
   rec (tg 5 (.h2 a b (IntKind.i64.wrap (c+1))))
  else
   bif tg 27 (c==(a.size:Int))then
    gd (tg 32 (apOk 48 5 b [[ic 0,sc (strB []),ic 0,ic 0,ic c]])) <|
    rec (tg 8 (.h4 (b++[[ic 0,sc (strB []),ic 0,ic 0,ic c]]) 0 0))
   else
    (tg 36 (g50 k a c)).bind fun e=>
    tup6 e fun f g i j _ l=>
    bif tg 40 (l==0)then
     rec (tg 15 (rg [7] [(⟨⟨.slot 2,[]⟩,0,0⟩,some 5)] (.h5 [] c 12)))
    else
     gd (tg 47 (apOk 48 5 b [[ic f,sc g,ic i,ic j,ic c]])) <|
     rec (tg 20 (rg [7] [] (.h1 a (b++[[ic f,sc g,ic i,ic j,ic c]]) (IntKind.i64.wrap (c+l)))))
 |.h4 a b c=>some (a,b,c)
 |.h5 a b c=>some (a,b,c)
def g16 (k:Nat)(a:By):Option R16:=itS ZT k (.e a)
def P16:S16->R16->Prop
 |.e a=>Fe Y16 qhP nB [csc a] []
 |.h0 a b c=>Fk Y16 qhP nB [1,0,1,0,1,2] ([.deadv,.deadv,.c (.own 5 a),cic b,cic c]++rd 46) []
 |.h1 a b c=>Fk Y16 qhP nB [1,1,1,1,0,4] ([csc a]++rd 4++[.c (.own 5 b),cic c]++rd 44) []
 |.h2 a b c=>Fk Y16 qhP nB [1,1,1,1,0,0,0,0,0,4] ([csc a]++rd 4++[.c (.own 5 b),cic c]++rd 44) []
 |.h3 a b c d=>Fk Y16 qhP nB [1,1,1,1,0,0,0,0,0,0,0,1,2] ([csc a]++rd 4++[.c (.own 5 b),cic c]++rd 14++[cbc d]++rd 29) []
 |.h4 a b c=>Fk Y16 qhP nB [1,1,1,1,0,0,0,1,0,1,0,1,2] ([.deadv,.deadv,.c (.own 5 a),cic b,cic c]++rd 46) []
 |.h5 a b c=>Fk Y16 qhP nB [1,1,1,1,0,0,0,1,1,1,0,1,0,1,2] ([.deadv,.deadv,.c (.own 5 a),cic b,cic c]++rd 46) []
theorem ok16:∀ k s r,itS ZT k s=some r->P16 s r:=okU trivial
instance {k:Nat} {a:By}:EvI (g16 k a) 16 [csc a] [] qhP nB:=eI ok16
def bx52 (b0_1 b0_2 b0_3 b0_4 b0_7 b0_8:Int)(b0_9:ByteArray)(b0_10:Int):R52->List (List Cell)
 |(_,_,_,_,_,a)=>[[.imm a,ic b0_1,ic b0_2,ic b0_3,ic b0_4,.nil,.nil,ic b0_7,ic b0_8,sc b0_9,ic b0_10]]
def qfC (k:Nat)(rec:S52->Option R52):S52->Option R52
 |.e a b ..=>
  ixR a (tg 11 b) fun c=>
  qaM c fun d e f g i=>
  some (d,e,f,g,i,a)
def g52 (k:Nat)(a:Rs)(b c d e f g:Int)(i:By)(j:Int):Option R52:=itS qfC k (.e a b c d e f g i j)
def P52:S52->R52->Prop
 |.e a b c d e f g i j=>Fe Y52 qqW (bx52 b c d e f g i j) [pP 0] [[.imm a,ic b,ic c,ic d,ic e,.nil,.nil,ic f,ic g,sc i,ic j]]
theorem ok52:∀ k s r,itS qfC k s=some r->P52 s r:=okU (And.intro @qvg trivial)
instance {k:Nat} {a:Rs} {b c d e f g:Int} {i:By} {j:Int}:EvI (g52 k a b c d e f g i j) 52 [pP 0] [[.imm a,ic b,ic c,ic d,ic e,.nil,.nil,ic f,ic g,sc i,ic j]] qqW (bx52 b c d e f g i j):=eI ok52
def bx19 (b0_1 b0_2 b0_3 b0_4 b0_7 b0_8:Int)(b0_9:ByteArray)(b0_10:Int):R19->List (List Cell)
 |(_,a)=>[[.imm a,ic b0_1,ic b0_2,ic b0_3,ic b0_4,.nil,.nil,ic b0_7,ic b0_8,sc b0_9,ic b0_10]]
def qyM (k:Nat)(rec:S19->Option R19):S19->Option R19
 |.e a b c d e f g i j l=>
  (tg 7 (g52 k b c d e f g i j l)).bind fun m=>
  tup6 m fun n o _ _ _ p=>
  bif tg 10 (n==1)then
   some (o.toList==a.toList,p)
  else
   bif tg 14 (n==6)then
    some (o.toList==a.toList,p)
   else
    some (false,p)
def g19 (k:Nat)(a:By)(b:Rs)(c d e f g i:Int)(j:By)(l:Int):Option R19:=itS qyM k (.e a b c d e f g i j l)
def P19:S19->R19->Prop
 |.e a b c d e f g i j l=>Fe Y19 qBg (bx19 c d e f g i j l) [pP 0,csc a] [[.imm b,ic c,ic d,ic e,ic f,.nil,.nil,ic g,ic i,sc j,ic l]]
theorem ok19:∀ k s r,itS qyM k s=some r->P19 s r:=okU trivial
instance {k:Nat} {a:By} {b:Rs} {c d e f g i:Int} {j:By} {l:Int}:EvI (g19 k a b c d e f g i j l) 19 [pP 0,csc a] [[.imm b,ic c,ic d,ic e,ic f,.nil,.nil,ic g,ic i,sc j,ic l]] qBg (bx19 c d e f g i j l):=eI ok19
def qmv:R22->ARes
 |(_,_,_)=>.ret .undef
def bx22 (b0_1 b0_2 b0_7 b0_8:Int)(b0_9:ByteArray)(b0_10:Int):R22->List (List Cell)
 |(a,b,c)=>[[.imm a,ic b0_1,ic b0_2,ic b,ic c,.nil,.nil,ic b0_7,ic b0_8,sc b0_9,ic b0_10]]
def qb (k:Nat)(rec:S22->Option R22):S22->Option R22
 |.e a b c d e f g i j l=>
  bif tg 8 (e==0)then
   (tg 13 (g52 k b c d e f g i j l)).bind fun m=>
   tup6 m fun _ _ _ _ n o=>
   some (o,a,n)
  else
   some (b,e,f)
def g22 (k:Nat)(a:Int)(b:Rs)(c d e f g i:Int)(j:By)(l:Int):Option R22:=itS qb k (.e a b c d e f g i j l)
def P22:S22->R22->Prop
 |.e a b c d e f g i j l=>Fe Y22 qmv (bx22 c d g i j l) [pP 0,cic a] [[.imm b,ic c,ic d,ic e,ic f,.nil,.nil,ic g,ic i,sc j,ic l]]
theorem ok22:∀ k s r,itS qb k s=some r->P22 s r:=okU trivial
instance {k:Nat} {a:Int} {b:Rs} {c d e f g i:Int} {j:By} {l:Int}:EvI (g22 k a b c d e f g i j l) 22 [pP 0,cic a] [[.imm b,ic c,ic d,ic e,ic f,.nil,.nil,ic g,ic i,sc j,ic l]] qmv (bx22 c d g i j l):=eI ok22
def qjK:R17->ARes
 |(_,_,_,_)=>.ret .undef
def bx17 (b0_2 b0_7 b0_8:Int)(b0_9:ByteArray)(b0_10:Int):R17->List (List Cell)
 |(a,b,c,d)=>[[.imm a,ic b,ic b0_2,ic c,ic d,.nil,.nil,ic b0_7,ic b0_8,sc b0_9,ic b0_10]]
def qjR (k:Nat)(rec:S17->Option R17):S17->Option R17
 |.e a b c d e f g i j l=>
  bif tg 8 (e != 0)then
   some (b,c,e,f)
  else
   (tg 11 (g19 k a b c d e f g i j l)).bind fun m=>
   tup2 m fun n o=>
   bif tg 12 (!n)then
    (tg 14 (g22 k 13 o c d e f g i j l)).bind fun p=>
    tup3 p fun q t u=>
    some (q,c,t,u)
   else
    some (o,IntKind.i64.wrap (c+1),e,f)
def g17 (k:Nat)(a:By)(b:Rs)(c d e f g i:Int)(j:By)(l:Int):Option R17:=itS qjR k (.e a b c d e f g i j l)
def P17:S17->R17->Prop
 |.e a b c d e f g i j l=>Fe Y17 qjK (bx17 d g i j l) [pP 0,csc a] [[.imm b,ic c,ic d,ic e,ic f,.nil,.nil,ic g,ic i,sc j,ic l]]
theorem ok17:∀ k s r,itS qjR k s=some r->P17 s r:=okU trivial
instance {k:Nat} {a:By} {b:Rs} {c d e f g i:Int} {j:By} {l:Int}:EvI (g17 k a b c d e f g i j l) 17 [pP 0,csc a] [[.imm b,ic c,ic d,ic e,ic f,.nil,.nil,ic g,ic i,sc j,ic l]] qjK (bx17 d g i j l):=eI ok17
def qDs (b0_1 b0_2 b0_3 b0_4 b0_7 b0_8:Int)(b0_9:ByteArray)(b0_10:Int):R52b->List (List Cell)
 |(_,_,_,_,_,a,b,c)=>[[.imm a,ic b0_1,ic b0_2,ic b0_3,ic b0_4,.own 1 b,.own 7 c,ic b0_7,ic b0_8,sc b0_9,ic b0_10]]
def qxJ (k:Nat)(rec:S52b->Option R52b):S52b->Option R52b
 |.e a b _ _ _ c d ..=>
  ixR a (tg 11 b) fun e=>
  qaM e fun f g i j l=>
  some (f,g,i,j,l,a,c,d)
def g52b (k:Nat)(a:Rs)(b c d e:Int)(f g:Rs)(i j:Int)(l:By)(m:Int):Option R52b:=itS qxJ k (.e a b c d e f g i j l m)
def P52b:S52b->R52b->Prop
 |.e a b c d e f g i j l m=>Fe Y52 qBG (qDs b c d e i j l m) [pP 0] [[.imm a,ic b,ic c,ic d,ic e,.own 1 f,.own 7 g,ic i,ic j,sc l,ic m]]
theorem qFF:∀ k s r,itS qxJ k s=some r->P52b s r:=okU (And.intro @qvg trivial)
instance {k:Nat} {a:Rs} {b c d e:Int} {f g:Rs} {i j:Int} {l:By} {m:Int}:EvI (g52b k a b c d e f g i j l m) 52 [pP 0] [[.imm a,ic b,ic c,ic d,ic e,.own 1 f,.own 7 g,ic i,ic j,sc l,ic m]] qBG (qDs b c d e i j l m):=eI qFF
def qBC:R22b->ARes
 |(_,_,_,_,_)=>.ret .undef
def qDm (b0_1 b0_2 b0_7 b0_8:Int)(b0_9:ByteArray)(b0_10:Int):R22b->List (List Cell)
 |(a,b,c,d,e)=>[[.imm a,ic b0_1,ic b0_2,ic b,ic c,.own 1 d,.own 7 e,ic b0_7,ic b0_8,sc b0_9,ic b0_10]]
def qxD (k:Nat)(rec:S22b->Option R22b):S22b->Option R22b
 |.e a b c d e f g i j l m n=>
  bif tg 8 (e==0)then
   (tg 13 (g52b k b c d e f g i j l m n)).bind fun o=>
   tup8 o fun _ _ _ _ p q t u=>
   some (q,a,p,t,u)
  else
   some (b,e,f,g,i)
def g22b (k:Nat)(a:Int)(b:Rs)(c d e f:Int)(g i:Rs)(j l:Int)(m:By)(n:Int):Option R22b:=itS qxD k (.e a b c d e f g i j l m n)
def P22b:S22b->R22b->Prop
 |.e a b c d e f g i j l m n=>Fe Y22 qBC (qDm c d j l m n) [pP 0,cic a] [[.imm b,ic c,ic d,ic e,ic f,.own 1 g,.own 7 i,ic j,ic l,sc m,ic n]]
theorem qFw:∀ k s r,itS qxD k s=some r->P22b s r:=okU trivial
instance {k:Nat} {a:Int} {b:Rs} {c d e f:Int} {g i:Rs} {j l:Int} {m:By} {n:Int}:EvI (g22b k a b c d e f g i j l m n) 22 [pP 0,cic a] [[.imm b,ic c,ic d,ic e,ic f,.own 1 g,.own 7 i,ic j,ic l,sc m,ic n]] qBC (qDm c d j l m n):=eI qFw
def qwF (k:Nat)(rec:S55b->Option R55b):S55b->Option R55b
 |.e a b c d e f g i j l m n=>
  bif tg 9 (e==0)then
   (tg 14 (g22b k a b c d e f g i j l m n)).bind fun o=>
   tup5 o fun p q t u v=>
   some (p,q,t,u,v)
  else
   some (b,e,f,g,i)
def g55b (k:Nat)(a:Int)(b:Rs)(c d e f:Int)(g i:Rs)(j l:Int)(m:By)(n:Int):Option R55b:=itS qwF k (.e a b c d e f g i j l m n)
def P55b:S55b->R55b->Prop
 |.e a b c d e f g i j l m n=>Fe Y55 qBC (qDm c d j l m n) [pP 0,cic a] [[.imm b,ic c,ic d,ic e,ic f,.own 1 g,.own 7 i,ic j,ic l,sc m,ic n]]
theorem qFH:∀ k s r,itS qwF k s=some r->P55b s r:=okU trivial
instance {k:Nat} {a:Int} {b:Rs} {c d e f:Int} {g i:Rs} {j l:Int} {m:By} {n:Int}:EvI (g55b k a b c d e f g i j l m n) 55 [pP 0,cic a] [[.imm b,ic c,ic d,ic e,ic f,.own 1 g,.own 7 i,ic j,ic l,sc m,ic n]] qBC (qDm c d j l m n):=eI qFH
def qDk (b0_1 b0_2 b0_3 b0_4 b0_7 b0_8:Int)(b0_9:ByteArray)(b0_10:Int):R19b->List (List Cell)
 |(_,a,b,c)=>[[.imm a,ic b0_1,ic b0_2,ic b0_3,ic b0_4,.own 1 b,.own 7 c,ic b0_7,ic b0_8,sc b0_9,ic b0_10]]
def qxB (k:Nat)(rec:S19b->Option R19b):S19b->Option R19b
 |.e a b c d e f g i j l m n=>
  (tg 7 (g52b k b c d e f g i j l m n)).bind fun o=>
  tup8 o fun p q _ _ _ t u v=>
  bif tg 10 (p==1)then
   some (q.toList==a.toList,t,u,v)
  else
   bif tg 14 (p==6)then
    some (q.toList==a.toList,t,u,v)
   else
    some (false,t,u,v)
def g19b (k:Nat)(a:By)(b:Rs)(c d e f:Int)(g i:Rs)(j l:Int)(m:By)(n:Int):Option R19b:=itS qxB k (.e a b c d e f g i j l m n)
def P19b:S19b->R19b->Prop
 |.e a b c d e f g i j l m n=>Fe Y19 qBF (qDk c d e f j l m n) [pP 0,csc a] [[.imm b,ic c,ic d,ic e,ic f,.own 1 g,.own 7 i,ic j,ic l,sc m,ic n]]
theorem qFu:∀ k s r,itS qxB k s=some r->P19b s r:=okU trivial
instance {k:Nat} {a:By} {b:Rs} {c d e f:Int} {g i:Rs} {j l:Int} {m:By} {n:Int}:EvI (g19b k a b c d e f g i j l m n) 19 [pP 0,csc a] [[.imm b,ic c,ic d,ic e,ic f,.own 1 g,.own 7 i,ic j,ic l,sc m,ic n]] qBF (qDk c d e f j l m n):=eI qFu
def qzU:R56b->ARes
 |(r,_,_,_,_,_,_)=>.ret (csc r)
def qCe (b0_2 b0_7 b0_8:Int)(b0_9:ByteArray)(b0_10:Int):R56b->List (List Cell)
 |(_,a,b,c,d,e,f)=>[[.imm a,ic b,ic b0_2,ic c,ic d,.own 1 e,.own 7 f,ic b0_7,ic b0_8,sc b0_9,ic b0_10]]
def qvH (k:Nat)(rec:S56b->Option R56b):S56b->Option R56b
 |.e a b c d e f g i j l m=>
  bif tg 8 (d != 0)then
   rec (tg 5 (.h0 true a b c d e f g i j l m))
  else
   ixR a (tg 20 b) fun n=>
   qaM n fun o _ _ _ _=>
   rec (tg 5 (.h0 (o != 2) a b c d e f g i j l m))
 |.h0 a b c d e f g i j l m n=>
  bif a then
   (tg 26 (g55b k 13 b c d e f g i j l m n)).bind fun o=>
   tup5 o fun p q t u v=>
   some (strB [],p,c,q,t,u,v)
  else
   ixR b (tg 47 (IntKind.i64.wrap ((IntKind.i64.wrap (c+1))-1))) fun w=>
   qaM w fun _ x _ _ _=>
   some (x,b,IntKind.i64.wrap (c+1),e,f,g,i)
def g56b (k:Nat)(a:Rs)(b c d e:Int)(f g:Rs)(i j:Int)(l:By)(m:Int):Option R56b:=itS qvH k (.e a b c d e f g i j l m)
def P56b:S56b->R56b->Prop
 |.e a b c d e f g i j l m=>Fe Y56 qzU (qCe c i j l m) [pP 0] [[.imm a,ic b,ic c,ic d,ic e,.own 1 f,.own 7 g,ic i,ic j,sc l,ic m]]
 |.h0 a b c d e f g i j l m n=>Fk Y56 qzU (qCe d j l m n) [1,0,1,2] ([pP 0]++rd 23++[cbc a]++rd 25) [(.par 0,[.imm b,ic c,ic d,ic e,ic f,.own 1 g,.own 7 i,ic j,ic l,sc m,ic n])]
theorem qFI:∀ k s r,itS qvH k s=some r->P56b s r:=okU (And.intro @qvg trivial)
instance {k:Nat} {a:Rs} {b c d e:Int} {f g:Rs} {i j:Int} {l:By} {m:Int}:EvI (g56b k a b c d e f g i j l m) 56 [pP 0] [[.imm a,ic b,ic c,ic d,ic e,.own 1 f,.own 7 g,ic i,ic j,sc l,ic m]] qzU (qCe c i j l m):=eI qFI
def qBy:R17b->ARes
 |(_,_,_,_,_,_)=>.ret .undef
def qDi (b0_2 b0_7 b0_8:Int)(b0_9:ByteArray)(b0_10:Int):R17b->List (List Cell)
 |(a,b,c,d,e,f)=>[[.imm a,ic b,ic b0_2,ic c,ic d,.own 1 e,.own 7 f,ic b0_7,ic b0_8,sc b0_9,ic b0_10]]
def qwD (k:Nat)(rec:S17b->Option R17b):S17b->Option R17b
 |.e a b c d e f g i j l m n=>
  bif tg 8 (e != 0)then
   some (b,c,e,f,g,i)
  else
   (tg 11 (g19b k a b c d e f g i j l m n)).bind fun o=>
   tup4 o fun p q t u=>
   bif tg 12 (!p)then
    (tg 14 (g22b k 13 q c d e f t u j l m n)).bind fun v=>
    tup5 v fun w x y z a1=>
    some (w,c,x,y,z,a1)
   else
    some (q,IntKind.i64.wrap (c+1),e,f,t,u)
def g17b (k:Nat)(a:By)(b:Rs)(c d e f:Int)(g i:Rs)(j l:Int)(m:By)(n:Int):Option R17b:=itS qwD k (.e a b c d e f g i j l m n)
def P17b:S17b->R17b->Prop
 |.e a b c d e f g i j l m n=>Fe Y17 qBy (qDi d j l m n) [pP 0,csc a] [[.imm b,ic c,ic d,ic e,ic f,.own 1 g,.own 7 i,ic j,ic l,sc m,ic n]]
theorem qFr:∀ k s r,itS qwD k s=some r->P17b s r:=okU trivial
instance {k:Nat} {a:By} {b:Rs} {c d e f:Int} {g i:Rs} {j l:Int} {m:By} {n:Int}:EvI (g17b k a b c d e f g i j l m n) 17 [pP 0,csc a] [[.imm b,ic c,ic d,ic e,ic f,.own 1 g,.own 7 i,ic j,ic l,sc m,ic n]] qBy (qDi d j l m n):=eI qFr
end
end Ab
end Go.Proofs.YtgfbbmjoflehlaaGreatDoor
