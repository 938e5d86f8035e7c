/-
  Functions' ways, printed by a program: what each computes, and that this is what the interpreter computes.
-/
import Derived.Test.YtfekohpjaafnhaaGreatDoorFEbq
import Derived.KernelRfl
set_option linter.all false
set_option maxRecDepth 10000
namespace Go.Proofs.YtfekohpjaafnhaaGreatDoor
namespace Ab
variable [vo]
inductive S6 where
 |e (a:By)
 |h0 (a:Rs)(b c:Int)(d:Bool)(e f g:Int)(i j:By)(l:Int)
 |h1 (a b c:Int)(d:Rs)(e f:Int)(g i:By)(j:Int)
 |h2 (a:Rs)(b c d:Int)(e:Bool)(f:Int)(g:Rs)(i j:Int)(l m:By)(n o p q:Int)(t u:By)(v:Int)
 |h3 (a b c:Int)(d:Rs)(e f:Int)(g i:By)(j:Int)
 |h4 (a b c:Int)(d:Rs)(e f:Int)(g i:By)(j:Int)
 |h5 (a b c:Int)(d:Rs)(e f:Int)(g i:By)(j:Int)
 |h6 (a b c:Int)(d:Rs)(e f:Int)(g i:By)(j:Int)
abbrev R6:=Int×Rs×Int×Int×By×By×Int×Int×Int
def res6:R6→ARes
 |(a,b,c,d,e,f,g,i,j)=>.ret ⟨.tup [true,false,false],[[ic a,.imm b,ic c,ic d,sc e,sc f,ic g],[ic i],[ic j]]⟩
def bx6:R6→List (List Cell)
 |(_,_,_,_,_,_,_,_,_)=>[]
noncomputable def qn9 (k:Nat)(rec:S6→Option R6):S6→Option R6
 |.e a=>
  (g10 k a).bind fun b=>
  altC b (fun c=>
    tup3 c fun d e f=>
    rec (.h0 d e f (f != 0) 0 0 0 (strB []) (strB []) 0)) (fun c=>
    tup2 c fun e f=>
    rec (.h0 [] e f (f != 0) 0 0 0 (strB []) (strB []) 0))
 |.h0 a b c d e f g i j l=>
  bif d then
   rec (.h1 b c 0 [] 0 0 (strB []) (strB []) 0)
  else
   (g12 k a 0).bind fun m=>
   altC m (fun n=>
     tup9 n fun o p q t u v w x y=>
     rec (.h2 a x y w (y != 0) o [] p q t u v e f g i j l)) (fun n=>
     ql n fun o z p q t u v w x y=>
     rec (.h2 a x y w (y != 0) o z p q t u v e f g i j l))
 |.h1 a b c d e f g i j=>some (c,d,e,f,g,i,j,a,b)
 |.h2 a b c d e f g i j l m n ..=>
  bif e then
   rec (.h3 b c 0 [] 0 0 (strB []) (strB []) 0)
  else
   ixR a d fun o=>
   qaM o fun p _ _ _ q=>
   bif p != 0 then
    rec (.h4 q 13 0 [] 0 0 (strB []) (strB []) 0)
   else
    (g17 k f g i j l m n).bind fun t=>
    bif decide (t>200)then
     rec (.h5 0 2 0 [] 0 0 (strB []) (strB []) 0)
    else
     rec (.h6 0 0 f g i j l m n)
 |.h3 a b c d e f g i j=>some (c,d,e,f,g,i,j,a,b)
 |.h4 a b c d e f g i j=>some (c,d,e,f,g,i,j,a,b)
 |.h5 a b c d e f g i j=>some (c,d,e,f,g,i,j,a,b)
 |.h6 a b c d e f g i j=>some (c,d,e,f,g,i,j,a,b)
noncomputable def g6 (k:Nat)(a:By):Option R6:=itS qn9 k (.e a)
noncomputable def P6:S6→R6→Prop
 |.e a,r=>Fin cx6 Tryz.f6 [.code ql1] (fr0 Tryz.f6 [.c (sc a)] []) (res6 r) (bx6 r)
 |.h0 a b c d e f g i j l,r=>Fin cx6 Tryz.f6 (kAt ql1 [1,1,0,1,2] []) ⟨[.deadv,.deadv,pL 2,.deadv,.deadv,.c (.imm a),.c (ic b),.c (ic c)]++rep 9 .deadv++[.c (bc d)]++rep 35 .deadv,[(.loc 2,[ic e,.nil,ic f,ic g,sc i,sc j,ic l])]⟩ (res6 r) (bx6 r)
 |.h1 a b c d e f g i j,r=>Fin cx6 Tryz.f6 (kAt ql1 [1,1,0,1,0,1,2] []) ⟨[.deadv,.deadv,pL 2,.c (ic a),.c (ic b)]++rep 48 .deadv,[(.loc 2,[ic c,.imm d,ic e,ic f,sc g,sc i,ic j])]⟩ (res6 r) (bx6 r)
 |.h2 a b c d e f g i j l m n o p q t u v,r=>Fin cx6 Tryz.f6 (kAt ql1 [1,1,1,1,0,0,1,2] []) ⟨[.deadv,.deadv,pL 2,.deadv,.deadv,.c (.imm a),.c (ic b),.c (ic c),pL 8,.c (ic d)]++rep 18 .deadv++[.c (bc e)]++rep 24 .deadv,[(.loc 8,[ic f,.imm g,ic i,ic j,sc l,sc m,ic n]),(.loc 2,[ic o,.nil,ic p,ic q,sc t,sc u,ic v])]⟩ (res6 r) (bx6 r)
 |.h3 a b c d e f g i j,r=>Fin cx6 Tryz.f6 (kAt ql1 [1,1,1,1,0,0,1,0,1,2] []) ⟨[.deadv,.deadv,pL 2,.c (ic a),.c (ic b)]++rep 48 .deadv,[(.loc 2,[ic c,.imm d,ic e,ic f,sc g,sc i,ic j])]⟩ (res6 r) (bx6 r)
 |.h4 a b c d e f g i j,r=>Fin cx6 Tryz.f6 (kAt ql1 [1,1,1,1,0,0,1,1,1,0,1,2] []) ⟨[.deadv,.deadv,pL 2,.c (ic a),.c (ic b)]++rep 48 .deadv,[(.loc 2,[ic c,.imm d,ic e,ic f,sc g,sc i,ic j])]⟩ (res6 r) (bx6 r)
 |.h5 a b c d e f g i j,r=>Fin cx6 Tryz.f6 (kAt ql1 [1,1,1,1,0,0,1,1,1,1,1,0,1,2] []) ⟨[.deadv,.deadv,pL 2,.c (ic a),.c (ic b)]++rep 48 .deadv,[(.loc 2,[ic c,.imm d,ic e,ic f,sc g,sc i,ic j])]⟩ (res6 r) (bx6 r)
 |.h6 a b c d e f g i j,r=>Fin cx6 Tryz.f6 (kAt ql1 [1,1,1,1,1,1,2] []) ⟨[.deadv,.deadv,pL 2,.c (ic a),.c (ic b)]++rep 48 .deadv,[(.loc 2,[ic c,.imm d,ic e,ic f,sc g,sc i,ic j])]⟩ (res6 r) (bx6 r)
abbrev E6 (a:By)(r:R6):Prop:=Ev Tryz.prog noHand 6 [.c (sc a)] [] (res6 r) (bx6 r)
theorem evr6 {a:By}{r:R6}(h:P6 (.e a) r):E6 a r:=evF h
theorem ok6:∀ k s r,itS qn9 k s=some r→P6 s r:=qF fun k rec ih s r h=>match s,h with
 |.e ..,h=>by
  obtain⟨_,a,h⟩:=qh h;replace h:=qf h;rcases h with⟨_,rfl,h⟩|⟨_,rfl,h⟩
  · replace h:=t3 h;exact mA 0 (ih _ _ h) 7 [cA 12 (ev10 a)] 53 9007199254609691
  · replace h:=t2 h;exact mG 0 (ih _ _ h) 7 [cA 12 (ev10 a)] 53 9007199254609691 [] [(⟨⟨.slot 5,[]⟩,0,0⟩,none)]
 |.h0 ..,h=>by
  replace h:=qa h;rcases h with⟨rfl,h⟩|⟨rfl,h⟩
  · exact mG 0 (ih _ _ h) 3 [] 53 9007199254740963 [] [(⟨⟨.loc 2,[]⟩,0,1⟩,none)]
  · obtain⟨_,a,h⟩:=qh h;replace h:=qf h;rcases h with⟨_,rfl,h⟩|⟨_,rfl,h⟩
    · replace h:=t9 h;exact mG 0 (ih _ _ h) 8 [cA 23 (ev12 a)] 53 9007198986304539 [] [(⟨⟨.loc 8,[]⟩,0,1⟩,none)]
    · replace h:=t10 h;exact mA 0 (ih _ _ h) 8 [cA 23 (ev12 a)] 53 9007198986304539
 |.h1 ..,h=>by cases h;exact mF 0 []
 |.h2 ..,h=>by
  replace h:=qa h;rcases h with⟨rfl,h⟩|⟨rfl,h⟩
  · exact mG 0 (ih _ _ h) 3 [] 53 9007199254740963 [8] [(⟨⟨.loc 2,[]⟩,0,1⟩,none)]
  ·
   obtain⟨_,a,h⟩:=YJ h;replace h:=qca h;obtain⟨_,_,_,_,_,rfl,h⟩:=h;rcases qa h with⟨b,h⟩|⟨b,h⟩
   · exact mG 0 (ih _ _ h) 6 [rA 37 a,tT 40 b,rA 44 a] 53 9007199254740963 [8] [(⟨⟨.loc 2,[]⟩,0,1⟩,none)]
   · obtain⟨_,c,h⟩:=qh h;rcases qa h with⟨d,h⟩|⟨d,h⟩
     · exact mG 0 (ih _ _ h) 9 [rA 37 a,tF 40 b,cA 49 (ev17 c),tT 50 d] 53 9007199254740963 [8] [(⟨⟨.loc 2,[]⟩,0,1⟩,none)]
     · exact mG 0 (ih _ _ h) 11 [rA 37 a,tF 40 b,cA 49 (ev17 c),tF 50 d] 53 9007199254740963 [8] []
 |.h3 ..,h=>by cases h;exact mF 0 []
 |.h4 ..,h=>by cases h;exact mF 0 []
 |.h5 ..,h=>by cases h;exact mF 0 []
 |.h6 ..,h=>by cases h;exact mF 0 []
theorem ev6 {k:Nat}{a:By}{r:R6}(h:g6 k a=some r):E6 a r:=evr6 (ok6 _ _ _ h)
inductive S21 where
 |e (a:Int)
abbrev R21:=Bool
noncomputable def qq0 (k:Nat)(rec:S21→Option R21):S21→Option R21
 |.e a=>
  bif a==32 then
   some true
  else
   bif a==9 then
    some true
   else
    bif a==10 then
     some true
    else
     some (a==13)
noncomputable def g21 (k:Nat)(a:Int):Option R21:=itS qq0 k (.e a)
inductive S37 where
 |e (a:Int)
abbrev R37:=Bool
def qmN:R37→ARes
 |r=>.ret (.c (bc r))
def bx37:R37→List (List Cell)
 |_=>[]
noncomputable def qfl (k:Nat)(rec:S37→Option R37):S37→Option R37
 |.e a=>
  bif decide (a≥97)then
   bif decide (a≤122)then
    some true
   else
    bif decide (a≥65)then
     some (decide (a≤90))
    else
     some false
  else
   bif decide (a≥65)then
    some (decide (a≤90))
   else
    some false
noncomputable def g37 (k:Nat)(a:Int):Option R37:=itS qfl k (.e a)
noncomputable def P37:S37→R37→Prop
 |.e a,r=>Fin cx37 Tryz.f37 [.code qhD] (fr0 Tryz.f37 [.c (.val (.int .u8 a))] []) (qmN r) (bx37 r)
abbrev E37 (a:Int)(r:R37):Prop:=Ev Tryz.prog noHand 37 [.c (.val (.int .u8 a))] [] (qmN r) (bx37 r)
theorem qnv {a:Int}{r:R37}(h:P37 (.e a) r):E37 a r:=evF h
theorem ok37:∀ k s r,itS qfl k s=some r→P37 s r:=qF fun k rec ih s r h=>match s,h with
 |.e ..,h=>by
  rcases qa h with⟨a,h⟩|⟨a,h⟩
  ·
   rcases qa h with⟨b,h⟩|⟨b,h⟩
   · cases h;exact mF 0 [tT 4 a,tT 7 b]
   · rcases qa h with⟨c,h⟩|⟨c,h⟩
     · cases h;exact mF 0 [tT 4 a,tF 7 b,tT 11 c]
     · cases h;exact mF 0 [tT 4 a,tF 7 b,tF 11 c]
  · rcases qa h with⟨b,h⟩|⟨b,h⟩
    · cases h;exact mF 0 [tF 4 a,tT 11 b]
    · cases h;exact mF 0 [tF 4 a,tF 11 b]
theorem ev37 {k:Nat}{a:Int}{r:R37}(h:g37 k a=some r):E37 a r:=qnv (ok37 _ _ _ h)
inductive S41 where
 |e (a:Int)
abbrev R41:=Bool
def qjx:R41→ARes
 |r=>.ret (.c (bc r))
def bx41:R41→List (List Cell)
 |_=>[]
noncomputable def Zy (k:Nat)(rec:S41→Option R41):S41→Option R41
 |.e a=>
  bif decide (a≥48)then
   some (decide (a≤57))
  else
   some false
noncomputable def g41 (k:Nat)(a:Int):Option R41:=itS Zy k (.e a)
noncomputable def P41:S41→R41→Prop
 |.e a,r=>Fin cx41 Tryz.f41 [.code qg6] (fr0 Tryz.f41 [.c (.val (.int .u8 a))] []) (qjx r) (bx41 r)
abbrev E41 (a:Int)(r:R41):Prop:=Ev Tryz.prog noHand 41 [.c (.val (.int .u8 a))] [] (qjx r) (bx41 r)
theorem qnC {a:Int}{r:R41}(h:P41 (.e a) r):E41 a r:=evF h
theorem ok41:∀ k s r,itS Zy k s=some r→P41 s r:=qF fun k rec ih s r h=>match s,h with
 |.e ..,h=>by
  rcases qa h with⟨a,h⟩|⟨a,h⟩
  · cases h;exact mF 0 [tT 4 a]
  · cases h;exact mF 0 [tF 4 a]
theorem ev41 {k:Nat}{a:Int}{r:R41}(h:g41 k a=some r):E41 a r:=qnC (ok41 _ _ _ h)
inductive S38 where
 |e (a:By)(b:Int)(c:Bool)
 |h0 (a:By)(b:Int)(c:Bool)(d:Int)
 |h1 (a:By)(b:Int)(c:Bool)(d:Int)(e:Bool)
abbrev R38:=Int
noncomputable def qpb (k:Nat)(rec:S38→Option R38):S38→Option R38
 |.e a b c=>rec (.h0 a b c 0)
 |.h0 a b c d=>
  bif decide ((IntKind.i64.wrap (b+d))<(a.size:Int))then
   sxI a (IntKind.i64.wrap (b+d)) fun e=>
   (g41 k e).bind fun f=>
   bif f then
    rec (.h1 a b c d true)
   else
    bif c then
     (g37 k e).bind fun g=>
     bif g then
      rec (.h1 a b c d true)
     else
      rec (.h1 a b c d (e==95))
    else
     rec (.h1 a b c d false)
  else
   rec (.h1 a b c d false)
 |.h1 a b c d e=>
  bif e then
   rec (.h0 a b c (IntKind.i64.wrap (d+1)))
  else
   some d
noncomputable def g38 (k:Nat)(a:By)(b:Int)(c:Bool):Option R38:=itS qpb k (.e a b c)
inductive S65 where
 |e
abbrev R65:=Rs
def qtL:R65→ARes
 |r=>.ret (.c (.own 1 r))
def bx65:R65→List (List Cell)
 |_=>[]
noncomputable def qrB (k:Nat)(rec:S65→Option R65):S65→Option R65
 |.e=>some [[sc (strB [80,65,84,84,69,82,78])],[sc (strB [83,69,81])],[sc (strB [87,72,69,82,69])],[sc (strB [83,84,82,65,84,69,71,89])],[sc (strB [87,73,84,72,73,78])],[sc (strB [80,65,82,84,73,84,73,79,78])],[sc (strB [66,89])],[sc (strB [83,84,82,73,67,84])],[sc (strB [78,69,88,84])],[sc (strB [65,78,89])],[sc (strB [65,78,68])],[sc (strB [79,82])],[sc (strB [78,79,84])],[sc (strB [84,82,85,69])],[sc (strB [70,65,76,83,69])],[sc (strB [84,73,77,69])],[sc (strB [82,69,65,76])],[sc (strB [73,83,78,65,78])],[sc (strB [67,79,85,78,84])],[sc (strB [70,73,82,83,84])],[sc (strB [76,65,83,84])],[sc (strB [83,85,77])],[sc (strB [77,73,78])],[sc (strB [77,65,88])],[sc (strB [77,69,65,78])]]
noncomputable def g65 (k:Nat):Option R65:=itS qrB k (.e)
noncomputable def P65:S65→R65→Prop
 |.e,r=>Fin cx65 Tryz.f65 [.code qsW] (fr0 Tryz.f65 [] []) (qtL r) (bx65 r)
abbrev E65 (r:R65):Prop:=Ev Tryz.prog noHand 65 [] [] (qtL r) (bx65 r)
theorem qus {r:R65}(h:P65 (.e) r):E65 r:=evF h
theorem ok65:∀ k s r,itS qrB k s=some r→P65 s r:=qF fun k rec ih s r h=>match s,h with
 |.e,h=>by cases h;exact mF 0 []
theorem ev65 {k:Nat}{r:R65}(h:g65 k=some r):E65 r:=qus (ok65 _ _ _ h)
inductive S39 where
 |e (a:By)
 |h0 (a:By)(b:Rs)(c d:Int)
abbrev R39:=Bool
def qsJ:R39→ARes
 |r=>.ret (.c (bc r))
def bx39:R39→List (List Cell)
 |_=>[]
noncomputable def qpB (k:Nat)(rec:S39→Option R39):S39→Option R39
 |.e a=>
  (g65 k).bind fun b=>
  rec (.h0 a b (b.length:Int) 0)
 |.h0 a b c d=>
  bif decide (d<c)then
   ixR b d fun e=>
   un_s e fun f=>
   bif f.toList==a.toList then
    some true
   else
    rec (.h0 a b c (IntKind.i64.wrap (d+1)))
  else
   some false
noncomputable def g39 (k:Nat)(a:By):Option R39:=itS qpB k (.e a)
noncomputable def P39:S39→R39→Prop
 |.e a,r=>Fin cx39 Tryz.f39 [.code qr3] (fr0 Tryz.f39 [.c (sc a)] []) (qsJ r) (bx39 r)
 |.h0 a b c d,r=>Fin cx39 Tryz.f39 (kAt qr3 [1,0,1,0,4] []) ⟨[.c (sc a)]++rep 4 .deadv++[.c (.own 1 b),.c (ic c),.c (ic d)]++rep 7 .deadv,[]⟩ (qsJ r) (bx39 r)
abbrev E39 (a:By)(r:R39):Prop:=Ev Tryz.prog noHand 39 [.c (sc a)] [] (qsJ r) (bx39 r)
theorem qug {a:By}{r:R39}(h:P39 (.e a) r):E39 a r:=evF h
theorem ok39:∀ k s r,itS qpB k s=some r→P39 s r:=qF fun k rec ih s r h=>match s,h with
 |.e ..,h=>by obtain⟨_,a,h⟩:=qh h;exact mA 0 (ih _ _ h) 7 [cA 5 (ev65 a)] 15 32542
 |.h0 ..,h=>by
  rcases qa h with⟨a,h⟩|⟨a,h⟩
  · obtain⟨_,b,h⟩:=YJ h;replace h:=qkP h;obtain⟨c,rfl,h⟩:=h;rcases qa h with⟨d,h⟩|⟨d,h⟩
    · cases h;exact mF 0 [tT 8 a,⟨(some 9,.bnd),[_],⟨qot b,trivial⟩⟩,⟨(some 10,.ld [sc c]),[_],⟨b.2,trivial⟩⟩,tT 13 d]
    · exact mA 0 (ih _ _ h) 16 [tT 8 a,⟨(some 9,.bnd),[_],⟨qot b,trivial⟩⟩,⟨(some 10,.ld [sc c]),[_],⟨b.2,trivial⟩⟩,tF 13 d] 15 32542
  · cases h;exact mF 0 [tF 8 a]
theorem ev39 {k:Nat}{a:By}{r:R39}(h:g39 k a=some r):E39 a r:=qug (ok39 _ _ _ h)
inductive S40 where
 |e (a:By)
 |h0 (a:By)(b:Bool)
 |h1 (a:By)(b:Int)
 |h2 (a:By)(b:Int)(c:Bool)
abbrev R40:=Bool
def qjm:R40→ARes
 |r=>.ret (.c (bc r))
def bx40:R40→List (List Cell)
 |_=>[]
noncomputable def qjX (k:Nat)(rec:S40→Option R40):S40→Option R40
 |.e a=>
  bif decide ((a.size:Int)<1)then
   rec (.h0 a true)
  else
   bif decide ((a.size:Int)>24)then
    rec (.h0 a true)
   else
    sxI a 0 fun b=>
    (g37 k b).bind fun c=>
    bif !c then
     rec (.h0 a true)
    else
     (g39 k a).bind fun d=>
     rec (.h0 a d)
 |.h0 a b=>
  bif b then
   some false
  else
   rec (.h1 a 0)
 |.h1 a b=>
  bif decide (b<(a.size:Int))then
   sxI a b fun c=>
   (g37 k c).bind fun d=>
   bif !d then
    (g41 k c).bind fun e=>
    bif !e then
     rec (.h2 a b (c != 95))
    else
     rec (.h2 a b false)
   else
    rec (.h2 a b false)
  else
   some true
 |.h2 a b c=>
  bif c then
   some false
  else
   rec (.h1 a (IntKind.i64.wrap (b+1)))
noncomputable def g40 (k:Nat)(a:By):Option R40:=itS qjX k (.e a)
noncomputable def P40:S40→R40→Prop
 |.e a,r=>Fin cx40 Tryz.f40 [.code qib] (fr0 Tryz.f40 [.c (sc a)] []) (qjm r) (bx40 r)
 |.h0 a b,r=>Fin cx40 Tryz.f40 (kAt qib [1,0,1,2] []) ⟨[.c (sc a)]++rep 20 .deadv++[.c (bc b)]++rep 24 .deadv,[]⟩ (qjm r) (bx40 r)
 |.h1 a b,r=>Fin cx40 Tryz.f40 (kAt qib [1,1,0,1,0,4] []) ⟨[.c (sc a),.deadv,.deadv,.c (ic b)]++rep 42 .deadv,[]⟩ (qjm r) (bx40 r)
 |.h2 a b c,r=>Fin cx40 Tryz.f40 (kAt qib [1,1,0,1,0,0,1,0,0,1,2] []) ⟨[.c (sc a),.deadv,.deadv,.c (ic b)]++rep 41 .deadv++[.c (bc c)],[]⟩ (qjm r) (bx40 r)
abbrev E40 (a:By)(r:R40):Prop:=Ev Tryz.prog noHand 40 [.c (sc a)] [] (qjm r) (bx40 r)
theorem qok {a:By}{r:R40}(h:P40 (.e a) r):E40 a r:=evF h
theorem ok40:∀ k s r,itS qjX k s=some r→P40 s r:=qF fun k rec ih s r h=>match s,h with
 |.e ..,h=>by
  rcases qa h with⟨a,h⟩|⟨a,h⟩
  · exact mA 0 (ih _ _ h) 5 [tT 6 a] 46 70368742080510
  ·
   rcases qa h with⟨b,h⟩|⟨b,h⟩
   · exact mA 0 (ih _ _ h) 5 [tF 6 a,tT 10 b] 46 70368742080510
   · obtain⟨_,c,h⟩:=Xm h;obtain⟨_,d,h⟩:=qh h;rcases qa h with⟨e,h⟩|⟨e,h⟩
     · exact mA 0 (ih _ _ h) 5 [tF 6 a,tF 10 b,sA 14 c,cA 15 (ev37 d),tT 16 e] 46 70368742080510
     · obtain⟨_,f,h⟩:=qh h;exact mA 0 (ih _ _ h) 5 [tF 6 a,tF 10 b,sA 14 c,cA 15 (ev37 d),tF 16 e,cA 20 (ev39 f)] 46 70368742080510
 |.h0 ..,h=>by
  replace h:=qa h;rcases h with⟨rfl,h⟩|⟨rfl,h⟩
  · cases h;exact mF 0 []
  · exact mA 0 (ih _ _ h) 7 [] 46 70368744177654
 |.h1 ..,h=>by
  rcases qa h with⟨a,h⟩|⟨a,h⟩
  ·
   obtain⟨_,b,h⟩:=Xm h;obtain⟨_,c,h⟩:=qh h;rcases qa h with⟨d,h⟩|⟨d,h⟩
   · obtain⟨_,e,h⟩:=qh h;rcases qa h with⟨f,h⟩|⟨f,h⟩
     · exact mA 0 (ih _ _ h) 10 [tT 25 a,sA 30 b,cA 31 (ev37 c),tT 32 d,sA 36 b,cA 37 (ev41 e),tT 38 f,sA 43 b] 46 35184372088822
     · exact mA 0 (ih _ _ h) 10 [tT 25 a,sA 30 b,cA 31 (ev37 c),tT 32 d,sA 36 b,cA 37 (ev41 e),tF 38 f] 46 35184372088822
   · exact mA 0 (ih _ _ h) 10 [tT 25 a,sA 30 b,cA 31 (ev37 c),tF 32 d] 46 35184372088822
  · cases h;exact mF 0 [tF 25 a]
 |.h2 ..,h=>by
  replace h:=qa h;rcases h with⟨rfl,h⟩|⟨rfl,h⟩
  · cases h;exact mF 0 []
  · exact mA 0 (ih _ _ h) 4 [] 46 70368744177654
theorem ev40 {k:Nat}{a:By}{r:R40}(h:g40 k a=some r):E40 a r:=qok (ok40 _ _ _ h)
inductive S74 where
 |e (a:Int)
 |h0 (a:Int)(b:By)(c:Int)
 |h1 (a:Int)(b:By)(c:Int)
abbrev R74:=By
def qrW:R74→ARes
 |r=>.ret (.c (sc r))
def bx74:R74→List (List Cell)
 |_=>[]
noncomputable def qpu (k:Nat)(rec:S74→Option R74):S74→Option R74
 |.e a=>
  bif decide (a<0)then
   rec (.h0 a (strB []) (IntKind.u64.wrap ((0:Int)-(IntKind.u64.wrap a))))
  else
   rec (.h0 a (strB []) (IntKind.u64.wrap a))
 |.h0 a b c=>rec (.h1 a b c)
 |.h1 a b c=>
  bif decide (c>9)then
   gd (decide ((qhy [IntKind.u8.wrap (IntKind.u64.wrap ((48:Int)+(Int.tmod c 10)))]).size+b.size≤1000000000)) <|
   rec (.h1 a ((qhy [IntKind.u8.wrap (IntKind.u64.wrap ((48:Int)+(Int.tmod c 10)))])++b) (IntKind.u64.wrap (Int.tdiv c 10)))
  else
   gd (decide ((qhy [IntKind.u8.wrap (IntKind.u64.wrap ((48:Int)+c))]).size+b.size≤1000000000)) <|
   bif decide (a<0)then
    gd (decide ((strB [45]).size+((qhy [IntKind.u8.wrap (IntKind.u64.wrap ((48:Int)+c))])++b).size≤1000000000)) <|
    some ((strB [45])++((qhy [IntKind.u8.wrap (IntKind.u64.wrap ((48:Int)+c))])++b))
   else
    some ((qhy [IntKind.u8.wrap (IntKind.u64.wrap ((48:Int)+c))])++b)
noncomputable def g74 (k:Nat)(a:Int):Option R74:=itS qpu k (.e a)
noncomputable def P74:S74→R74→Prop
 |.e a,r=>Fin cx74 Tryz.f74 [.code qrg] (fr0 Tryz.f74 [.c (ic a)] []) (qrW r) (bx74 r)
 |.h0 a b c,r=>Fin cx74 Tryz.f74 (kAt qrg [1,1,1,2] []) ⟨[.c (ic a),.deadv,.deadv,.c (sc b),.c (.val (.int .u64 c))]++rep 30 .deadv,[]⟩ (qrW r) (bx74 r)
 |.h1 a b c,r=>Fin cx74 Tryz.f74 (kAt qrg [1,1,1,0,0,4] []) ⟨[.c (ic a),.deadv,.deadv,.c (sc b),.c (.val (.int .u64 c))]++rep 30 .deadv,[]⟩ (qrW r) (bx74 r)
abbrev E74 (a:Int)(r:R74):Prop:=Ev Tryz.prog noHand 74 [.c (ic a)] [] (qrW r) (bx74 r)
theorem quy {a:Int}{r:R74}(h:P74 (.e a) r):E74 a r:=evF h
theorem ok74:∀ k s r,itS qpu k s=some r→P74 s r:=qF fun k rec ih s r h=>match s,h with
 |.e ..,h=>by
  rcases qa h with⟨a,h⟩|⟨a,h⟩
  · exact mA 0 (ih _ _ h) 9 [tT 8 a] 35 34359738342
  · exact mA 0 (ih _ _ h) 9 [tF 8 a] 35 34359738342
 |.h0 ..,h=>by exact mA 0 (ih _ _ h) 3 [] 35 34359738342
 |.h1 ..,h=>by
  rcases qa h with⟨a,h⟩|⟨a,h⟩
  · obtain⟨b,h⟩:=zo h;exact mA 0 (ih _ _ h) 11 [tT 12 a,xC 20 b] 35 34359738342
  · obtain⟨b,h⟩:=zo h;rcases qa h with⟨c,h⟩|⟨c,h⟩
    · obtain⟨d,h⟩:=zo h;cases h;exact mF 0 [tF 12 a,xC 29 b,tT 31 c,xC 33 d]
    · cases h;exact mF 0 [tF 12 a,xC 29 b,tF 31 c]
theorem ev74 {k:Nat}{a:Int}{r:R74}(h:g74 k a=some r):E74 a r:=quy (ok74 _ _ _ h)
inductive S66 where
 |e (a:By)
 |h0 (a b:By)(c:Bool)
 |h1 (a b:By)
 |h2 (a b:By)(c d:Int)
 |h3 (a b:By)(c d:Int)(e:Bool)
 |h4 (a b:By)(c:Int)
abbrev R66:=Int×Bool
noncomputable def qo4 (k:Nat)(rec:S66→Option R66):S66→Option R66
 |.e a=>
  bif decide ((a.size:Int)>0)then
   sxI a 0 fun b=>
   rec (.h0 a a (b==45))
  else
   rec (.h0 a a false)
 |.h0 a b c=>
  bif c then
   gd (decide (0≤(1:Int)∧(1:Int)≤(b.size:Int)∧(b.size:Int)≤(b.size:Int))) <|
   rec (.h1 a (b.extract (Int.toNat (1:Int)) (Int.toNat (b.size:Int))))
  else
   rec (.h1 a b)
 |.h1 a b=>rec (.h2 a b 0 0)
 |.h2 a b c d=>
  bif decide (d<(b.size:Int))then
   sxI b d fun e=>
   (g41 k e).bind fun f=>
   bif !f then
    rec (.h3 a b c d true)
   else
    rec (.h3 a b c d (decide (d>18)))
  else
   bif decide ((b.size:Int)<(a.size:Int))then
    rec (.h4 a b (IntKind.i64.wrap ((0:Int)-(IntKind.i64.wrap c))))
   else
    rec (.h4 a b (IntKind.i64.wrap c))
 |.h3 a b c d e=>
  bif e then
   some (0,false)
  else
   sxI b d fun f=>
   rec (.h2 a b (IntKind.u64.wrap ((IntKind.u64.wrap ((10:Int)*c))+(IntKind.u64.wrap (IntKind.u8.wrap (f-48))))) (IntKind.i64.wrap (d+1)))
 |.h4 a b c=>
  bif decide ((b.size:Int)>0)then
   (g74 k c).bind fun d=>
   some (c,d.toList==a.toList)
  else
   some (c,false)
noncomputable def g66 (k:Nat)(a:By):Option R66:=itS qo4 k (.e a)
inductive S42 where
 |e (a:By)(b:Int)
 |h0 (a:By)(b c:Int)(d:By)(e:Int)(f:Bool)(g:Int)(i:By)(j l m:Int)
 |h1 (a:By)(b c:Int)(d:By)(e f:Int)(g:By)(i j l:Int)
 |h2 (a:By)(b c:Int)(d:By)(e:Int)(f:Bool)(g:Int)(i:By)(j l m:Int)
 |h3 (a b c:Int)(d:Rs)(e f g:Int)(i:By)(j l m:Int)
abbrev R42:=Int×By×Int×Int×Int×Int
noncomputable def qd3 (k:Nat)(rec:S42→Option R42):S42→Option R42
 |.e a b=>
  (g38 k a b false).bind fun c=>
  gd (decide (0≤b∧b≤(IntKind.i64.wrap (b+c))∧(IntKind.i64.wrap (b+c))≤(a.size:Int))) <|
  bif decide ((IntKind.i64.wrap (b+c))<(a.size:Int))then
   sxI a (IntKind.i64.wrap (b+c)) fun d=>
   rec (.h0 a b c (a.extract (Int.toNat b) (Int.toNat (IntKind.i64.wrap (b+c)))) 0 (d==46) 0 (strB []) 0 0 0)
  else
   rec (.h0 a b c (a.extract (Int.toNat b) (Int.toNat (IntKind.i64.wrap (b+c)))) 0 false 0 (strB []) 0 0 0)
 |.h0 a b c d e f g i j l m=>
  bif f then
   (g38 k a (IntKind.i64.wrap ((IntKind.i64.wrap (b+c))+1)) false).bind fun n=>
   rec (.h1 a b c d n g i j l m)
  else
   rec (.h1 a b c d e g i j l m)
 |.h1 a b c d e f g i j l=>
  bif decide (c>1)then
   sxI d 0 fun m=>
   bif m==48 then
    rec (.h2 a b c d e true f g i j l)
   else
    bif e==0 then
     bif decide (c>19)then
      rec (.h2 a b c d e true f g i j l)
     else
      rec (.h2 a b c d e false f g i j l)
    else
     bif decide (e>0)then
      rec (.h2 a b c d e (decide ((IntKind.i64.wrap (c+e))>15)) f g i j l)
     else
      rec (.h2 a b c d e false f g i j l)
  else
   bif e==0 then
    bif decide (c>19)then
     rec (.h2 a b c d e true f g i j l)
    else
     rec (.h2 a b c d e false f g i j l)
   else
    bif decide (e>0)then
     rec (.h2 a b c d e (decide ((IntKind.i64.wrap (c+e))>15)) f g i j l)
    else
     rec (.h2 a b c d e false f g i j l)
 |.h2 a b c d e f g i j l m=>
  bif f then
   some (0,strB [],0,0,0,0)
  else
   bif e==0 then
    (g66 k d).bind fun n=>
    tup2 n fun o p=>
    bif !p then
     some (0,strB [],0,0,0,0)
    else
     some (3,strB [],o,0,0,c)
   else
    gd (decide (0≤(IntKind.i64.wrap ((IntKind.i64.wrap (b+c))+1))∧(IntKind.i64.wrap ((IntKind.i64.wrap (b+c))+1))≤(IntKind.i64.wrap ((IntKind.i64.wrap ((IntKind.i64.wrap (b+c))+1))+e))∧(IntKind.i64.wrap ((IntKind.i64.wrap ((IntKind.i64.wrap (b+c))+1))+e))≤(a.size:Int))) <|
    gd (decide (d.size+(a.extract (Int.toNat (IntKind.i64.wrap ((IntKind.i64.wrap (b+c))+1))) (Int.toNat (IntKind.i64.wrap ((IntKind.i64.wrap ((IntKind.i64.wrap (b+c))+1))+e)))).size≤1000000000)) <|
    rec (.h3 c e 0 (yH (d++(a.extract (Int.toNat (IntKind.i64.wrap ((IntKind.i64.wrap (b+c))+1))) (Int.toNat (IntKind.i64.wrap ((IntKind.i64.wrap ((IntKind.i64.wrap (b+c))+1))+e)))))) ((yH (d++(a.extract (Int.toNat (IntKind.i64.wrap ((IntKind.i64.wrap (b+c))+1))) (Int.toNat (IntKind.i64.wrap ((IntKind.i64.wrap ((IntKind.i64.wrap (b+c))+1))+e)))))).length:Int) 0 g i j l m)
 |.h3 a b c d e f g i j l m=>
  bif decide (f<e)then
   ixR d f fun n=>
   un_y n fun o=>
   rec (.h3 a b (IntKind.i64.wrap ((IntKind.i64.wrap ((10:Int)*c))+(IntKind.i64.wrap (IntKind.u8.wrap (o-48))))) d e (IntKind.i64.wrap (f+1)) g i j l m)
  else
   some (4,strB [],c,b,0,IntKind.i64.wrap ((IntKind.i64.wrap (a+1))+b))
noncomputable def g42 (k:Nat)(a:By)(b:Int):Option R42:=itS qd3 k (.e a b)
inductive S22 where
 |e (a:By)(b:Int)
 |h0 (a:Int)(b:By)(c:Bool)(d:Int)(e:By)(f g i:Int)
 |h1 (a:By)(b:Int)(c:Rs)(d e f:Int)(g:By)(i j l:Int)
 |h2 (a:By)(b:Int)(c:By)(d:Rs)(e f:Int)(g:Bool)(i:Int)(j:By)(l m n:Int)
abbrev R22:=Int×By×Int×Int×Int×Int
noncomputable def qb (k:Nat)(rec:S22→Option R22):S22→Option R22
 |.e a b=>
  sxI a b fun c=>
  (g37 k c).bind fun d=>
  bif d then
   (g38 k a b true).bind fun e=>
   gd (decide (0≤b∧b≤(IntKind.i64.wrap (b+e))∧(IntKind.i64.wrap (b+e))≤(a.size:Int))) <|
   (g39 k (a.extract (Int.toNat b) (Int.toNat (IntKind.i64.wrap (b+e))))).bind fun f=>
   bif f then
    some (1,(a.extract (Int.toNat b) (Int.toNat (IntKind.i64.wrap (b+e)))),0,0,0,e)
   else
    (g40 k (a.extract (Int.toNat b) (Int.toNat (IntKind.i64.wrap (b+e))))).bind fun g=>
    bif g then
     some (2,(a.extract (Int.toNat b) (Int.toNat (IntKind.i64.wrap (b+e)))),0,0,0,e)
    else
     some (0,strB [],0,0,0,0)
  else
   (g41 k c).bind fun e=>
   bif e then
    (g42 k a b).bind fun i=>
    tup6 i fun j l m n o p=>
    some (j,l,m,n,o,p)
   else
    bif c==39 then
     (g38 k a (IntKind.i64.wrap (b+1)) true).bind fun f=>
     gd (decide (0≤(IntKind.i64.wrap (b+1))∧(IntKind.i64.wrap (b+1))≤(IntKind.i64.wrap ((IntKind.i64.wrap (b+1))+f))∧(IntKind.i64.wrap ((IntKind.i64.wrap (b+1))+f))≤(a.size:Int))) <|
     (g40 k (a.extract (Int.toNat (IntKind.i64.wrap (b+1))) (Int.toNat (IntKind.i64.wrap ((IntKind.i64.wrap (b+1))+f))))).bind fun q=>
     bif !q then
      rec (.h0 f (a.extract (Int.toNat (IntKind.i64.wrap (b+1))) (Int.toNat (IntKind.i64.wrap ((IntKind.i64.wrap (b+1))+f)))) true 0 (strB []) 0 0 0)
     else
      bif decide ((IntKind.i64.wrap ((IntKind.i64.wrap (b+1))+f))≥(a.size:Int))then
       rec (.h0 f (a.extract (Int.toNat (IntKind.i64.wrap (b+1))) (Int.toNat (IntKind.i64.wrap ((IntKind.i64.wrap (b+1))+f)))) true 0 (strB []) 0 0 0)
      else
       sxI a (IntKind.i64.wrap ((IntKind.i64.wrap (b+1))+f)) fun t=>
       rec (.h0 f (a.extract (Int.toNat (IntKind.i64.wrap (b+1))) (Int.toNat (IntKind.i64.wrap ((IntKind.i64.wrap (b+1))+f)))) (t != 39) 0 (strB []) 0 0 0)
    else
     rec (.h1 a b [[sc (strB [33,61])],[sc (strB [60,61])],[sc (strB [62,61])],[sc (strB [40])],[sc (strB [41])],[sc (strB [44])],[sc (strB [46])],[sc (strB [43])],[sc (strB [45])],[sc (strB [42])],[sc (strB [47])],[sc (strB [37])],[sc (strB [61])],[sc (strB [60])],[sc (strB [62])],[sc (strB [33])],[sc (strB [124])]] 17 0 0 (strB []) 0 0 0)
 |.h0 a b c ..=>
  bif c then
   some (0,strB [],0,0,0,0)
  else
   some (5,b,0,0,0,IntKind.i64.wrap (a+2))
 |.h1 a b c d e f g i j l=>
  bif decide (e<d)then
   ixR c e fun m=>
   un_s m fun n=>
   bif decide ((IntKind.i64.wrap (b+(n.size:Int)))≤(a.size:Int))then
    gd (decide (0≤b∧b≤(IntKind.i64.wrap (b+(n.size:Int)))∧(IntKind.i64.wrap (b+(n.size:Int)))≤(a.size:Int))) <|
    rec (.h2 a b n c d e ((a.extract (Int.toNat b) (Int.toNat (IntKind.i64.wrap (b+(n.size:Int))))).toList==n.toList) f g i j l)
   else
    rec (.h2 a b n c d e false f g i j l)
  else
   some (0,strB [],0,0,0,0)
 |.h2 a b c d e f g i j l m n=>
  bif g then
   some (6,c,0,0,0,(c.size:Int))
  else
   rec (.h1 a b d e (IntKind.i64.wrap (f+1)) i j l m n)
noncomputable def g22 (k:Nat)(a:By)(b:Int):Option R22:=itS qb k (.e a b)
inductive S11 where
 |e (a:By)
 |h0 (a:Rs)(b c:Int)
 |h1 (a:By)(b:Rs)(c:Int)
 |h2 (a:By)(b:Rs)(c:Int)
 |h3 (a:By)(b:Rs)(c:Int)(d:Bool)
 |h4 (a:Rs)(b c:Int)
 |h5 (a:Rs)(b c:Int)
abbrev R11:=Rs×Int×Int
noncomputable def ql7 (k:Nat)(rec:S11→Option R11):S11→Option R11
 |.e a=>
  bif decide ((a.size:Int)>4000)then
   rec (.h0 [] 0 2)
  else
   rec (.h1 a [] 0)
 |.h0 a b c=>some (a,b,c)
 |.h1 a b c=>rec (.h2 a b c)
 |.h2 a b c=>
  bif decide (c<(a.size:Int))then
   sxI a c fun d=>
   (g21 k d).bind fun e=>
   rec (.h3 a b c e)
  else
   rec (.h3 a b c false)
 |.h3 a b c d=>
  bif d then
   rec (.h2 a b (IntKind.i64.wrap (c+1)))
  else
   bif c==(a.size:Int)then
    gd (apOk 48 5 b [[ic 0,sc (strB []),ic 0,ic 0,ic c]]) <|
    rec (.h4 (b++[[ic 0,sc (strB []),ic 0,ic 0,ic c]]) 0 0)
   else
    (g22 k a c).bind fun e=>
    tup6 e fun f g i j _ l=>
    bif l==0 then
     rec (.h5 [] c 12)
    else
     gd (apOk 48 5 b [[ic f,sc g,ic i,ic j,ic c]]) <|
     rec (.h1 a (b++[[ic f,sc g,ic i,ic j,ic c]]) (IntKind.i64.wrap (c+l)))
 |.h4 a b c=>some (a,b,c)
 |.h5 a b c=>some (a,b,c)
noncomputable def g11 (k:Nat)(a:By):Option R11:=itS ql7 k (.e a)
inductive S50 where
 |e (a:Rs)(b c d e:Int)
abbrev R50:=Int×By×Int×Int×Int×Rs
noncomputable def qq3 (k:Nat)(rec:S50→Option R50):S50→Option R50
 |.e a b ..=>
  ixR a b fun c=>
  qaM c fun d e f g i=>
  some (d,e,f,g,i,a)
noncomputable def g50 (k:Nat)(a:Rs)(b c d e:Int):Option R50:=itS qq3 k (.e a b c d e)
inductive S49 where
 |e (a:By)(b:Rs)(c d e f:Int)
abbrev R49:=Bool×Rs
noncomputable def qq2 (k:Nat)(rec:S49→Option R49):S49→Option R49
 |.e a b c d e f=>
  (g50 k b c d e f).bind fun g=>
  tup6 g fun i j _ _ _ l=>
  bif i==1 then
   some (j.toList==a.toList,l)
  else
   bif i==6 then
    some (j.toList==a.toList,l)
   else
    some (false,l)
noncomputable def g49 (k:Nat)(a:By)(b:Rs)(c d e f:Int):Option R49:=itS qq2 k (.e a b c d e f)
inductive S81 where
 |e (a:Int)(b:Rs)(c d e f:Int)
abbrev R81:=Rs×Int×Int
noncomputable def qq6 (k:Nat)(rec:S81→Option R81):S81→Option R81
 |.e a b c d e f=>
  bif e==0 then
   (g50 k b c d e f).bind fun g=>
   tup6 g fun _ _ _ _ i j=>
   some (j,a,i)
  else
   some (b,e,f)
noncomputable def g81 (k:Nat)(a:Int)(b:Rs)(c d e f:Int):Option R81:=itS qq6 k (.e a b c d e f)
inductive S69 where
 |e (a:Rs)(b c d e:Int)
 |h0 (a:Int)(b:Rs)(c d e f:Int)
abbrev R69:=Int×Rs×Int×Int×Int×Int
noncomputable def qpN (k:Nat)(rec:S69→Option R69):S69→Option R69
 |.e a b c d e=>
  (g50 k a b c d e).bind fun f=>
  tup6 f fun _ _ _ _ g i=>
  bif c==30 then
   (g81 k 14 i b c d e).bind fun j=>
   tup3 j fun l m n=>
   rec (.h0 g l b c m n)
  else
   rec (.h0 g i b c d e)
 |.h0 a b c d e f=>some (a,b,IntKind.i64.wrap (c+1),IntKind.i64.wrap (d+1),e,f)
noncomputable def g69 (k:Nat)(a:Rs)(b c d e:Int):Option R69:=itS qpN k (.e a b c d e)
inductive S82 where
 |e (a:Rs)(b c d e:Int)
abbrev R82:=By×Rs×Int×Int×Int
noncomputable def qp2 (k:Nat)(rec:S82→Option R82):S82→Option R82
 |.e a b c d e=>
  bif d != 0 then
   some (strB [],a,b,d,e)
  else
   (g50 k a b c d e).bind fun f=>
   tup6 f fun g i _ _ _ j=>
   bif g != 2 then
    (g81 k 13 j b c d e).bind fun l=>
    tup3 l fun m n o=>
    some (strB [],m,b,n,o)
   else
    some (i,j,IntKind.i64.wrap (b+1),d,e)
noncomputable def g82 (k:Nat)(a:Rs)(b c d e:Int):Option R82:=itS qp2 k (.e a b c d e)
inductive S71 where
 |e (a:By)(b:Rs)(c d e f:Int)
abbrev R71:=Rs×Int×Int×Int
noncomputable def qp1 (k:Nat)(rec:S71→Option R71):S71→Option R71
 |.e a b c d e f=>
  bif e != 0 then
   some (b,c,e,f)
  else
   (g49 k a b c d e f).bind fun g=>
   tup2 g fun i j=>
   bif !i then
    (g81 k 13 j c d e f).bind fun l=>
    tup3 l fun m n o=>
    some (m,c,n,o)
   else
    some (j,IntKind.i64.wrap (c+1),e,f)
noncomputable def g71 (k:Nat)(a:By)(b:Rs)(c d e f:Int):Option R71:=itS qp1 k (.e a b c d e f)
inductive S70 where
 |e (a:Rs)(b c d e:Int)
 |h0 (a:By)(b:Bool)(c:Rs)(d e f g:Int)
abbrev R70:=By×By×Rs×Int×Int×Int
noncomputable def qoO (k:Nat)(rec:S70→Option R70):S70→Option R70
 |.e a b c d e=>
  (g82 k a b c d e).bind fun f=>
  tup5 f fun g i j l m=>
  (g71 k (strB [46]) i j c l m).bind fun n=>
  tup4 n fun o p q t=>
  bif q==0 then
   (g49 k (strB [84,73,77,69]) o p c q t).bind fun u=>
   tup2 u fun v w=>
   rec (.h0 g v w p c q t)
  else
   rec (.h0 g false o p c q t)
 |.h0 a b c d e f g=>
  bif b then
   some (a,strB [84,73,77,69],c,IntKind.i64.wrap (d+1),f,g)
  else
   (g82 k c d e f g).bind fun i=>
   tup5 i fun j l m n o=>
   some (a,j,l,m,n,o)
noncomputable def g70 (k:Nat)(a:Rs)(b c d e:Int):Option R70:=itS qoO k (.e a b c d e)
inductive S75 where
 |e
abbrev R75:=Rs
def qtP:R75→ARes
 |r=>.ret (.c (.own 1 r))
def bx75:R75→List (List Cell)
 |_=>[]
noncomputable def qrC (k:Nat)(rec:S75→Option R75):S75→Option R75
 |.e=>some [[sc (strB [67,79,85,78,84])],[sc (strB [70,73,82,83,84])],[sc (strB [76,65,83,84])],[sc (strB [83,85,77])],[sc (strB [77,73,78])],[sc (strB [77,65,88])],[sc (strB [77,69,65,78])]]
noncomputable def g75 (k:Nat):Option R75:=itS qrC k (.e)
noncomputable def P75:S75→R75→Prop
 |.e,r=>Fin cx75 Tryz.f75 [.code qke] (fr0 Tryz.f75 [] []) (qtP r) (bx75 r)
abbrev E75 (r:R75):Prop:=Ev Tryz.prog noHand 75 [] [] (qtP r) (bx75 r)
theorem quz {r:R75}(h:P75 (.e) r):E75 r:=evF h
theorem ok75:∀ k s r,itS qrC k s=some r→P75 s r:=qF fun k rec ih s r h=>match s,h with
 |.e,h=>by cases h;exact mF 0 []
theorem ev75 {k:Nat}{r:R75}(h:g75 k=some r):E75 r:=quz (ok75 _ _ _ h)
inductive S72b where
 |e (a:Rs)(b c d e f:Int)(g:Rs)(i j:Int)(l m:By)(n:Int)
 |h0 (a:Rs)(b c:Int)(d:Rs)(e f g i j:Int)(l:Rs)(m n:Int)(o p:By)(q:Int)
 |h1 (a:Int)(b:Rs)(c d:Int)(e:Bool)(f:Rs)(g i j l m:Int)(n:Rs)(o p:Int)(q t:By)(u:Int)
 |h2 (a:Rs)(b c:Int)(d:Rs)(e f g i j:Int)(l:Rs)(m n:Int)(o p:By)(q:Int)
 |h3 (a:Rs)(b c:Int)(d:Rs)(e f g i j:Int)(l:Rs)(m n:Int)(o p:By)(q:Int)
abbrev R72b:=Rs×Int×Int×Int×Int×Rs×By×By
noncomputable def qoH (k:Nat)(rec:S72b→Option R72b):S72b→Option R72b
 |.e a b c d e f g i j l m n=>
  (g75 k).bind fun o=>
  rec (.h0 o (o.length:Int) 0 a b c d e f g i j l m n)
 |.h0 a b c d e f g i j l m n o p q=>
  bif decide (c<b)then
   ixR a c fun t=>
   un_s t fun u=>
   bif j==0 then
    (g49 k u d e f g i).bind fun v=>
    tup2 v fun w x=>
    rec (.h1 c a b c w x e f g i j l m n o p q)
   else
    rec (.h1 c a b c false d e f g i j l m n o p q)
  else
   bif j==0 then
    (g81 k 13 d e f g i).bind fun y=>
    tup3 y fun z a1 b1=>
    some (z,e,a1,b1,j,l,o,p)
   else
    some (d,e,g,i,j,l,o,p)
 |.h1 a b c d e f g i j l m n o p q t u=>
  bif e then
   (g71 k (strB [40]) f (IntKind.i64.wrap (g+1)) i j l).bind fun v=>
   tup4 v fun w x y z=>
   bif a==0 then
    (g82 k w x i y z).bind fun a1=>
    tup5 a1 fun b1 c1 d1 e1 f1=>
    rec (.h2 b c d c1 d1 i e1 f1 (IntKind.i64.wrap ((25:Int)+a)) n o p b1 t u)
   else
    (g70 k w x i y z).bind fun a1=>
    tup6 a1 fun g1 i1 c1 d1 e1 f1=>
    rec (.h2 b c d c1 d1 i e1 f1 (IntKind.i64.wrap ((25:Int)+a)) n o p g1 i1 u)
  else
   rec (.h3 b c d f g i j l m n o p q t u)
 |.h2 a b c d e f g i j l m n o p q=>
  (g71 k (strB [41]) d e f g i).bind fun t=>
  tup4 t fun u v w x=>
  rec (.h3 a b c u v f w x j l m n o p q)
 |.h3 a b c d e f g i j l m n o p q=>rec (.h0 a b (IntKind.i64.wrap (c+1)) d e f g i j l m n o p q)
noncomputable def g72b (k:Nat)(a:Rs)(b c d e f:Int)(g:Rs)(i j:Int)(l m:By)(n:Int):Option R72b:=itS qoH k (.e a b c d e f g i j l m n)
inductive S48 where
 |e (a:Int)
 |h0 (a:Rs)(b:Int)
 |h1 (a:Rs)(b:Int)
 |h2 (a:Rs)(b:Int)
 |h3 (a:Rs)(b:Int)
 |h4 (a:Rs)(b:Int)
 |h5 (a:Rs)(b:Int)
abbrev R48:=Rs×Int
def qql:R48→ARes
 |(a,b)=>.ret ⟨.tup [false,false],[[.own 1 a],[ic b]]⟩
def bx48:R48→List (List Cell)
 |(_,_)=>[]
noncomputable def qpX (k:Nat)(rec:S48→Option R48):S48→Option R48
 |.e a=>
  bif a==1 then
   rec (.h0 [[sc (strB [79,82])]] 14)
  else
   bif a==2 then
    rec (.h1 [[sc (strB [65,78,68])]] 13)
   else
    bif a==4 then
     rec (.h2 [[sc (strB [61])],[sc (strB [33,61])],[sc (strB [60])],[sc (strB [60,61])],[sc (strB [62])],[sc (strB [62,61])]] 7)
    else
     bif a==5 then
      rec (.h3 [[sc (strB [43])],[sc (strB [45])]] 1)
     else
      bif a==6 then
       rec (.h4 [[sc (strB [42])],[sc (strB [47])],[sc (strB [37])]] 3)
      else
       rec (.h5 [] 0)
 |.h0 a b=>some (a,b)
 |.h1 a b=>some (a,b)
 |.h2 a b=>some (a,b)
 |.h3 a b=>some (a,b)
 |.h4 a b=>some (a,b)
 |.h5 a b=>some (a,b)
noncomputable def g48 (k:Nat)(a:Int):Option R48:=itS qpX k (.e a)
noncomputable def P48:S48→R48→Prop
 |.e a,r=>Fin cx48 Tryz.f48 [.code qpT] (fr0 Tryz.f48 [.c (ic a)] []) (qql r) (bx48 r)
 |.h0 a b,r=>Fin cx48 Tryz.f48 (kAt qpT [1,0,1,0,1,0,1,2] []) ⟨[.deadv,.deadv,.c (.own 1 a),.c (ic b)]++rep 16 .deadv,[]⟩ (qql r) (bx48 r)
 |.h1 a b,r=>Fin cx48 Tryz.f48 (kAt qpT [1,0,1,0,1,1,1,0,1,2] []) ⟨[.deadv,.deadv,.c (.own 1 a),.c (ic b)]++rep 16 .deadv,[]⟩ (qql r) (bx48 r)
 |.h2 a b,r=>Fin cx48 Tryz.f48 (kAt qpT [1,0,1,0,1,1,1,1,1,0,1,2] []) ⟨[.deadv,.deadv,.c (.own 1 a),.c (ic b)]++rep 16 .deadv,[]⟩ (qql r) (bx48 r)
 |.h3 a b,r=>Fin cx48 Tryz.f48 (kAt qpT [1,0,1,0,1,1,1,1,1,1,1,0,1,2] []) ⟨[.deadv,.deadv,.c (.own 1 a),.c (ic b)]++rep 16 .deadv,[]⟩ (qql r) (bx48 r)
 |.h4 a b,r=>Fin cx48 Tryz.f48 (kAt qpT [1,0,1,0,1,1,1,1,1,1,1,1,1,0,1,2] []) ⟨[.deadv,.deadv,.c (.own 1 a),.c (ic b)]++rep 16 .deadv,[]⟩ (qql r) (bx48 r)
 |.h5 a b,r=>Fin cx48 Tryz.f48 (kAt qpT [1,1,1,2] []) ⟨[.deadv,.deadv,.c (.own 1 a),.c (ic b)]++rep 16 .deadv,[]⟩ (qql r) (bx48 r)
abbrev E48 (a:Int)(r:R48):Prop:=Ev Tryz.prog noHand 48 [.c (ic a)] [] (qql r) (bx48 r)
theorem quj {a:Int}{r:R48}(h:P48 (.e a) r):E48 a r:=evF h
theorem ok48:∀ k s r,itS qpX k s=some r→P48 s r:=qF fun k rec ih s r h=>match s,h with
 |.e ..,h=>by
  rcases qa h with⟨a,h⟩|⟨a,h⟩
  · exact mA 0 (ih _ _ h) 11 [tT 6 a] 20 1048563
  ·
   rcases qa h with⟨b,h⟩|⟨b,h⟩
   · exact mA 0 (ih _ _ h) 14 [tF 6 a,tT 9 b] 20 1048563
   ·
    rcases qa h with⟨c,h⟩|⟨c,h⟩
    · exact mA 0 (ih _ _ h) 17 [tF 6 a,tF 9 b,tT 12 c] 20 1048563
    ·
     rcases qa h with⟨d,h⟩|⟨d,h⟩
     · exact mA 0 (ih _ _ h) 20 [tF 6 a,tF 9 b,tF 12 c,tT 15 d] 20 1048563
     · rcases qa h with⟨e,h⟩|⟨e,h⟩
       · exact mA 0 (ih _ _ h) 23 [tF 6 a,tF 9 b,tF 12 c,tF 15 d,tT 18 e] 20 1048563
       · exact mG 0 (ih _ _ h) 25 [tF 6 a,tF 9 b,tF 12 c,tF 15 d,tF 18 e] 20 1048563 [] [(⟨⟨.slot 2,[]⟩,0,0⟩,some 1)]
 |.h0 ..,h=>by cases h;exact mF 0 []
 |.h1 ..,h=>by cases h;exact mF 0 []
 |.h2 ..,h=>by cases h;exact mF 0 []
 |.h3 ..,h=>by cases h;exact mF 0 []
 |.h4 ..,h=>by cases h;exact mF 0 []
 |.h5 ..,h=>by cases h;exact mF 0 []
theorem ev48 {k:Nat}{a:Int}{r:R48}(h:g48 k a=some r):E48 a r:=quj (ok48 _ _ _ h)
end Ab
end Go.Proofs.YtfekohpjaafnhaaGreatDoor
