/-
  Functions' ways, printed by a program: what each computes, and that this is what the interpreter computes.
-/
import Derived.Test.YtfekohpjaafnhaaDoorFEbq
import Derived.KernelRfl
set_option linter.all false
set_option maxRecDepth 10000
namespace Go.Proofs.YtfekohpjaafnhaaDoor
namespace Ab
variable [vo]
inductive S13 where
 |e (a:By)
 |h0 (a:Rs)(b c:Int)(d:Bool)(e f g:Int)(i j:By)(l:Int)
 |h1 (a b c:Int)(d:Rs)(e f:Int)(g i:By)(j:Int)
 |h2 (a:Rs)(b c d:Int)(e:Bool)(f:Int)(g:Rs)(i j:Int)(l m:By)(n o p q:Int)(t u:By)(v:Int)
 |h3 (a b c:Int)(d:Rs)(e f:Int)(g i:By)(j:Int)
 |h4 (a b c:Int)(d:Rs)(e f:Int)(g i:By)(j:Int)
 |h5 (a b c:Int)(d:Rs)(e f:Int)(g i:By)(j:Int)
 |h6 (a b c:Int)(d:Rs)(e f:Int)(g i:By)(j:Int)
abbrev R13:=Int×Rs×Int×Int×By×By×Int×Int×Int
def qcN:R13→ARes
 |(a,b,c,d,e,f,g,i,j)=>.ret ⟨.tup [true,false,false],[[ic a,.imm b,ic c,ic d,sc e,sc f,ic g],[ic i],[ic j]]⟩
def bx13:R13→List (List Cell)
 |(_,_,_,_,_,_,_,_,_)=>[]
noncomputable def zx (k:Nat)(rec:S13→Option R13):S13→Option R13
 |.e a=>
  (g15 k a).bind fun b=>
  altC b (fun c=>
    tup3 c fun d e f=>
    rec (.h0 d e f (f != 0) 0 0 0 (strB []) (strB []) 0)) (fun c=>
    tup2 c fun e f=>
    rec (.h0 [] e f (f != 0) 0 0 0 (strB []) (strB []) 0))
 |.h0 a b c d e f g i j l=>
  bif d then
   rec (.h1 b c 0 [] 0 0 (strB []) (strB []) 0)
  else
   (g16 k a 0).bind fun m=>
   altC m (fun n=>
     tup9 n fun o p q t u v w x y=>
     rec (.h2 a x y w (y != 0) o [] p q t u v e f g i j l)) (fun n=>
     ql n fun o z p q t u v w x y=>
     rec (.h2 a x y w (y != 0) o z p q t u v e f g i j l))
 |.h1 a b c d e f g i j=>some (c,d,e,f,g,i,j,a,b)
 |.h2 a b c d e f g i j l m n ..=>
  bif e then
   rec (.h3 b c 0 [] 0 0 (strB []) (strB []) 0)
  else
   ixR a d fun o=>
   qaM o fun p _ _ _ q=>
   bif p != 0 then
    rec (.h4 q 13 0 [] 0 0 (strB []) (strB []) 0)
   else
    (g10 k f g i j l m n).bind fun t=>
    bif decide (t>200)then
     rec (.h5 0 2 0 [] 0 0 (strB []) (strB []) 0)
    else
     rec (.h6 0 0 f g i j l m n)
 |.h3 a b c d e f g i j=>some (c,d,e,f,g,i,j,a,b)
 |.h4 a b c d e f g i j=>some (c,d,e,f,g,i,j,a,b)
 |.h5 a b c d e f g i j=>some (c,d,e,f,g,i,j,a,b)
 |.h6 a b c d e f g i j=>some (c,d,e,f,g,i,j,a,b)
noncomputable def g13 (k:Nat)(a:By):Option R13:=itS zx k (.e a)
noncomputable def P13:S13→R13→Prop
 |.e a,r=>Fin cx13 Tryd.f13 [.code qac] (fr0 Tryd.f13 [.c (sc a)] []) (qcN r) (bx13 r)
 |.h0 a b c d e f g i j l,r=>Fin cx13 Tryd.f13 (kAt qac [1,1,0,1,2] []) ⟨[.deadv,.deadv,pL 2,.deadv,.deadv,.c (.imm a),.c (ic b),.c (ic c)]++rep 9 .deadv++[.c (bc d)]++rep 35 .deadv,[(.loc 2,[ic e,.nil,ic f,ic g,sc i,sc j,ic l])]⟩ (qcN r) (bx13 r)
 |.h1 a b c d e f g i j,r=>Fin cx13 Tryd.f13 (kAt qac [1,1,0,1,0,1,2] []) ⟨[.deadv,.deadv,pL 2,.c (ic a),.c (ic b)]++rep 48 .deadv,[(.loc 2,[ic c,.imm d,ic e,ic f,sc g,sc i,ic j])]⟩ (qcN r) (bx13 r)
 |.h2 a b c d e f g i j l m n o p q t u v,r=>Fin cx13 Tryd.f13 (kAt qac [1,1,1,1,0,0,1,2] []) ⟨[.deadv,.deadv,pL 2,.deadv,.deadv,.c (.imm a),.c (ic b),.c (ic c),pL 8,.c (ic d)]++rep 18 .deadv++[.c (bc e)]++rep 24 .deadv,[(.loc 8,[ic f,.imm g,ic i,ic j,sc l,sc m,ic n]),(.loc 2,[ic o,.nil,ic p,ic q,sc t,sc u,ic v])]⟩ (qcN r) (bx13 r)
 |.h3 a b c d e f g i j,r=>Fin cx13 Tryd.f13 (kAt qac [1,1,1,1,0,0,1,0,1,2] []) ⟨[.deadv,.deadv,pL 2,.c (ic a),.c (ic b)]++rep 48 .deadv,[(.loc 2,[ic c,.imm d,ic e,ic f,sc g,sc i,ic j])]⟩ (qcN r) (bx13 r)
 |.h4 a b c d e f g i j,r=>Fin cx13 Tryd.f13 (kAt qac [1,1,1,1,0,0,1,1,1,0,1,2] []) ⟨[.deadv,.deadv,pL 2,.c (ic a),.c (ic b)]++rep 48 .deadv,[(.loc 2,[ic c,.imm d,ic e,ic f,sc g,sc i,ic j])]⟩ (qcN r) (bx13 r)
 |.h5 a b c d e f g i j,r=>Fin cx13 Tryd.f13 (kAt qac [1,1,1,1,0,0,1,1,1,1,1,0,1,2] []) ⟨[.deadv,.deadv,pL 2,.c (ic a),.c (ic b)]++rep 48 .deadv,[(.loc 2,[ic c,.imm d,ic e,ic f,sc g,sc i,ic j])]⟩ (qcN r) (bx13 r)
 |.h6 a b c d e f g i j,r=>Fin cx13 Tryd.f13 (kAt qac [1,1,1,1,1,1,2] []) ⟨[.deadv,.deadv,pL 2,.c (ic a),.c (ic b)]++rep 48 .deadv,[(.loc 2,[ic c,.imm d,ic e,ic f,sc g,sc i,ic j])]⟩ (qcN r) (bx13 r)
abbrev E13 (a:By)(r:R13):Prop:=Ev Tryd.prog noHand 13 [.c (sc a)] [] (qcN r) (bx13 r)
theorem qnR {a:By}{r:R13}(h:P13 (.e a) r):E13 a r:=evF h
theorem ok13:∀ k s r,itS zx k s=some r→P13 s r:=qF fun k rec ih s r h=>match s,h with
 |.e ..,h=>by
  obtain⟨_,a,h⟩:=qh h;replace h:=qf h;rcases h with⟨_,rfl,h⟩|⟨_,rfl,h⟩
  · replace h:=t3 h;exact mA 0 (ih _ _ h) 7 [cA 12 (ev15 a)] 53 9007199254609691
  · replace h:=t2 h;exact mG 0 (ih _ _ h) 7 [cA 12 (ev15 a)] 53 9007199254609691 [] [(⟨⟨.slot 5,[]⟩,0,0⟩,none)]
 |.h0 ..,h=>by
  replace h:=qa h;rcases h with⟨rfl,h⟩|⟨rfl,h⟩
  · exact mG 0 (ih _ _ h) 3 [] 53 9007199254740963 [] [(⟨⟨.loc 2,[]⟩,0,1⟩,none)]
  · obtain⟨_,a,h⟩:=qh h;replace h:=qf h;rcases h with⟨_,rfl,h⟩|⟨_,rfl,h⟩
    · replace h:=t9 h;exact mG 0 (ih _ _ h) 8 [cA 23 (ev16 a)] 53 9007198986304539 [] [(⟨⟨.loc 8,[]⟩,0,1⟩,none)]
    · replace h:=t10 h;exact mA 0 (ih _ _ h) 8 [cA 23 (ev16 a)] 53 9007198986304539
 |.h1 ..,h=>by cases h;exact mF 0 []
 |.h2 ..,h=>by
  replace h:=qa h;rcases h with⟨rfl,h⟩|⟨rfl,h⟩
  · exact mG 0 (ih _ _ h) 3 [] 53 9007199254740963 [8] [(⟨⟨.loc 2,[]⟩,0,1⟩,none)]
  ·
   obtain⟨_,a,h⟩:=YJ h;replace h:=qca h;obtain⟨_,_,_,_,_,rfl,h⟩:=h;rcases qa h with⟨b,h⟩|⟨b,h⟩
   · exact mG 0 (ih _ _ h) 6 [rA 37 a,tT 40 b,rA 44 a] 53 9007199254740963 [8] [(⟨⟨.loc 2,[]⟩,0,1⟩,none)]
   · obtain⟨_,c,h⟩:=qh h;rcases qa h with⟨d,h⟩|⟨d,h⟩
     · exact mG 0 (ih _ _ h) 9 [rA 37 a,tF 40 b,cA 49 (ev10 c),tT 50 d] 53 9007199254740963 [8] [(⟨⟨.loc 2,[]⟩,0,1⟩,none)]
     · exact mG 0 (ih _ _ h) 11 [rA 37 a,tF 40 b,cA 49 (ev10 c),tF 50 d] 53 9007199254740963 [8] []
 |.h3 ..,h=>by cases h;exact mF 0 []
 |.h4 ..,h=>by cases h;exact mF 0 []
 |.h5 ..,h=>by cases h;exact mF 0 []
 |.h6 ..,h=>by cases h;exact mF 0 []
theorem ev13 {k:Nat}{a:By}{r:R13}(h:g13 k a=some r):E13 a r:=qnR (ok13 _ _ _ h)
inductive S23 where
 |e (a:Int)
 |h0 (a:Int)(b:Bool)
 |h1 (a:Int)(b:Bool)
 |h2 (a:Bool)
abbrev R23:=Int
def qiC:R23→ARes
 |r=>.ret (.c (ic r))
def bx23:R23→List (List Cell)
 |_=>[]
noncomputable def qkj (k:Nat)(rec:S23→Option R23):S23→Option R23
 |.e a=>
  bif a==6 then
   rec (.h0 a true)
  else
   bif a==15 then
    rec (.h0 a true)
   else
    bif a==16 then
     rec (.h0 a true)
    else
     rec (.h0 a (a==17))
 |.h0 a b=>
  bif b then
   some 1
  else
   bif decide (a≥1)then
    rec (.h1 a (decide (a≤14)))
   else
    rec (.h1 a false)
 |.h1 a b=>
  bif b then
   some 2
  else
   bif decide (a≥20)then
    rec (.h2 (decide (a≤31)))
   else
    rec (.h2 false)
 |.h2 a=>
  bif a then
   some 0
  else
   some (-1)
noncomputable def g23 (k:Nat)(a:Int):Option R23:=itS qkj k (.e a)
noncomputable def P23:S23→R23→Prop
 |.e a,r=>Fin cx23 Tryd.f23 [.code qe7] (fr0 Tryd.f23 [.c (ic a)] []) (qiC r) (bx23 r)
 |.h0 a b,r=>Fin cx23 Tryd.f23 (kAt qe7 [1,0,0,1,2] []) ⟨[.c (ic a),.deadv,.deadv,.c (bc b)]++rep 28 .deadv,[]⟩ (qiC r) (bx23 r)
 |.h1 a b,r=>Fin cx23 Tryd.f23 (kAt qe7 [1,0,0,1,1,1,2] []) ⟨[.c (ic a)]++rep 17 .deadv++[.c (bc b)]++rep 13 .deadv,[]⟩ (qiC r) (bx23 r)
 |.h2 a,r=>Fin cx23 Tryd.f23 (kAt qe7 [1,0,0,1,1,1,1,1,2] []) ⟨rep 25 .deadv++[.c (bc a)]++rep 6 .deadv,[]⟩ (qiC r) (bx23 r)
abbrev E23 (a:Int)(r:R23):Prop:=Ev Tryd.prog noHand 23 [.c (ic a)] [] (qiC r) (bx23 r)
theorem qn1 {a:Int}{r:R23}(h:P23 (.e a) r):E23 a r:=evF h
theorem ok23:∀ k s r,itS qkj k s=some r→P23 s r:=qF fun k rec ih s r h=>match s,h with
 |.e ..,h=>by
  rcases qa h with⟨a,h⟩|⟨a,h⟩
  · exact mA 0 (ih _ _ h) 6 [tT 5 a] 32 4294967286
  ·
   rcases qa h with⟨b,h⟩|⟨b,h⟩
   · exact mA 0 (ih _ _ h) 6 [tF 5 a,tT 8 b] 32 4294967286
   · rcases qa h with⟨c,h⟩|⟨c,h⟩
     · exact mA 0 (ih _ _ h) 6 [tF 5 a,tF 8 b,tT 12 c] 32 4294967286
     · exact mA 0 (ih _ _ h) 6 [tF 5 a,tF 8 b,tF 12 c] 32 4294967286
 |.h0 ..,h=>by
  replace h:=qa h;rcases h with⟨rfl,h⟩|⟨rfl,h⟩
  · cases h;exact mF 0 []
  · rcases qa h with⟨a,h⟩|⟨a,h⟩
    · exact mA 0 (ih _ _ h) 3 [tT 20 a] 32 4294705150
    · exact mA 0 (ih _ _ h) 3 [tF 20 a] 32 4294705150
 |.h1 ..,h=>by
  replace h:=qa h;rcases h with⟨rfl,h⟩|⟨rfl,h⟩
  · cases h;exact mF 0 []
  · rcases qa h with⟨a,h⟩|⟨a,h⟩
    · exact mA 0 (ih _ _ h) 3 [tT 27 a] 32 4261412863
    · exact mA 0 (ih _ _ h) 3 [tF 27 a] 32 4261412863
 |.h2 ..,h=>by
  replace h:=qa h;rcases h with⟨rfl,h⟩|⟨rfl,h⟩
  · cases h;exact mF 0 []
  · cases h;exact mF 0 []
theorem ev23 {k:Nat}{a:Int}{r:R23}(h:g23 k a=some r):E23 a r:=qn1 (ok23 _ _ _ h)
inductive S40 where
 |e (a:Int)(b:By)(c d e:Int)
 |h0 (a:By)(b:Int)(c:By)(d e f:Int)
 |h1 (a:By)(b:Bool)(c:Int)(d:By)(e f g:Int)
abbrev R40:=By
def qjm:R40→ARes
 |r=>.ret (.c (sc r))
def bx40:R40→List (List Cell)
 |_=>[]
noncomputable def qjX (k:Nat)(rec:S40→Option R40):S40→Option R40
 |.e a b c d e=>
  bif a==3 then
   (fmtX c).bind fun f=>
   some f
  else
   bif a==4 then
    (fmtX c).bind fun g=>
    rec (.h0 g a b c d e)
   else
    bif a==5 then
     gd (decide ((strB [39]).size+b.size≤1000000000)) <|
     gd (decide (((strB [39])++b).size+(strB [39]).size≤1000000000)) <|
     some (((strB [39])++b)++(strB [39]))
    else
     some b
 |.h0 a b c d e f=>
  bif decide ((a.size:Int)≤e)then
   gd (decide ((strB [48]).size+a.size≤1000000000)) <|
   rec (.h0 ((strB [48])++a) b c d e f)
  else
   bif decide (e<0)then
    rec (.h1 a true b c d e f)
   else
    rec (.h1 a (decide ((a.size:Int)<e)) b c d e f)
 |.h1 a b _ _ _ c ..=>
  bif b then
   some (strB [])
  else
   gd (decide (0≤(0:Int)∧(0:Int)≤(IntKind.i64.wrap ((a.size:Int)-c))∧(IntKind.i64.wrap ((a.size:Int)-c))≤(a.size:Int))) <|
   gd (decide ((a.extract (Int.toNat (0:Int)) (Int.toNat (IntKind.i64.wrap ((a.size:Int)-c)))).size+(strB [46]).size≤1000000000)) <|
   gd (decide (0≤(IntKind.i64.wrap ((a.size:Int)-c))∧(IntKind.i64.wrap ((a.size:Int)-c))≤(a.size:Int)∧(a.size:Int)≤(a.size:Int))) <|
   gd (decide (((a.extract (Int.toNat (0:Int)) (Int.toNat (IntKind.i64.wrap ((a.size:Int)-c))))++(strB [46])).size+(a.extract (Int.toNat (IntKind.i64.wrap ((a.size:Int)-c))) (Int.toNat (a.size:Int))).size≤1000000000)) <|
   some (((a.extract (Int.toNat (0:Int)) (Int.toNat (IntKind.i64.wrap ((a.size:Int)-c))))++(strB [46]))++(a.extract (Int.toNat (IntKind.i64.wrap ((a.size:Int)-c))) (Int.toNat (a.size:Int))))
noncomputable def g40 (k:Nat)(a:Int)(b:By)(c d e:Int):Option R40:=itS qjX k (.e a b c d e)
noncomputable def P40:S40→R40→Prop
 |.e a b c d e,r=>Fin cx40 Tryd.f40 [.code qib] (fr0 Tryd.f40 [.ag [ic a,sc b,ic c,ic d,ic e]] []) (qjm r) (bx40 r)
 |.h0 a b c d e f,r=>Fin cx40 Tryd.f40 (kAt qib [1,0,1,0,1,1,1,0,1,0,0,4] []) ⟨[.deadv,pL 1,.deadv,.c (sc a)]++rep 53 .deadv,[(.loc 1,[ic b,sc c,ic d,ic e,ic f])]⟩ (qjm r) (bx40 r)
 |.h1 a b c d e f g,r=>Fin cx40 Tryd.f40 (kAt qib [1,0,1,0,1,1,1,0,1,1,0,1,2] []) ⟨[.deadv,pL 1,.deadv,.c (sc a)]++rep 28 .deadv++[.c (bc b)]++rep 24 .deadv,[(.loc 1,[ic c,sc d,ic e,ic f,ic g])]⟩ (qjm r) (bx40 r)
abbrev E40 (a:Int)(b:By)(c d e:Int)(r:R40):Prop:=Ev Tryd.prog noHand 40 [.ag [ic a,sc b,ic c,ic d,ic e]] [] (qjm r) (bx40 r)
theorem qok {a:Int}{b:By}{c d e:Int}{r:R40}(h:P40 (.e a b c d e) r):E40 a b c d e r:=evF h
theorem ok40:∀ k s r,itS qjX k s=some r→P40 s r:=qF fun k rec ih s r h=>match s,h with
 |.e ..,h=>by
  rcases qa h with⟨a,h⟩|⟨a,h⟩
  · obtain⟨_,b,h⟩:=qh h;cases h;exact mF 0 [tT 7 a,cA 10 (qij b)]
  ·
   rcases qa h with⟨c,h⟩|⟨c,h⟩
   · obtain⟨_,d,h⟩:=qh h;exact mA 0 (ih _ _ h) 17 [tF 7 a,tT 12 c,cA 15 (qij d)] 57 144115188075855861
   · rcases qa h with⟨b,h⟩|⟨b,h⟩
     · obtain⟨d,h⟩:=zo h;obtain⟨e,h⟩:=zo h;cases h;exact mF 0 [tF 7 a,tF 12 c,tT 50 b,xC 53 d,xC 54 e]
     · cases h;exact mF 0 [tF 7 a,tF 12 c,tF 50 b]
 |.h0 ..,h=>by
  rcases qa h with⟨a,h⟩|⟨a,h⟩
  · obtain⟨b,h⟩:=zo h;exact mA 0 (ih _ _ h) 9 [tT 20 a,xC 22 b] 57 144115188075855861
  · rcases qa h with⟨b,h⟩|⟨b,h⟩
    · exact mA 0 (ih _ _ h) 9 [tF 20 a,tT 25 b] 57 144115183780888565
    · exact mA 0 (ih _ _ h) 9 [tF 20 a,tF 25 b] 57 144115183780888565
 |.h1 ..,h=>by
  replace h:=qa h;rcases h with⟨rfl,h⟩|⟨rfl,h⟩
  · cases h;exact mF 0 []
  · obtain⟨a,h⟩:=zo h;obtain⟨b,h⟩:=zo h;obtain⟨c,h⟩:=zo h;obtain⟨d,h⟩:=zo h;cases h;exact mF 0 [xS 39 a,xC 40 b,xS 47 c,xC 48 d]
theorem ev40 {k:Nat}{a:Int}{b:By}{c d e:Int}{r:R40}(h:g40 k a b c d e=some r):E40 a b c d e r:=qok (ok40 _ _ _ h)
inductive S24 where
 |e (a:Int)(b:Rs)(c d:Int)(e f:By)(g:Int)
 |h0 (a:Bool)(b:Int)(c:Rs)(d e:Int)(f g:By)(i:Int)
abbrev R24:=Bool
def qkG:R24→ARes
 |r=>.ret (.c (bc r))
def bx24:R24→List (List Cell)
 |_=>[]
noncomputable def qj6 (k:Nat)(rec:S24→Option R24):S24→Option R24
 |.e a b c d e f g=>
  bif decide (a≥23)then
   bif decide (a≤31)then
    bif a != 23 then
     (YF e).bind fun i=>
     bif true != i then
      rec (.h0 true a b c d e f g)
     else
      (YF f).bind fun j=>
      bif j then
       bif (a != 25)!=true then
        rec (.h0 true a b c d e f g)
       else
        bif !(a != 25)then
         rec (.h0 (!(f.toList==(strB []).toList)) a b c d e f g)
        else
         rec (.h0 false a b c d e f g)
      else
       bif (a != 25)!=(f.toList==(strB [84,73,77,69]).toList)then
        rec (.h0 true a b c d e f g)
       else
        bif !(a != 25)then
         rec (.h0 (!(f.toList==(strB []).toList)) a b c d e f g)
        else
         rec (.h0 false a b c d e f g)
    else
     (YF e).bind fun i=>
     bif true != i then
      rec (.h0 true a b c d e f g)
     else
      (YF f).bind fun j=>
      bif j then
       rec (.h0 true a b c d e f g)
      else
       bif false != (f.toList==(strB [84,73,77,69]).toList)then
        rec (.h0 true a b c d e f g)
       else
        rec (.h0 (!(f.toList==(strB []).toList)) a b c d e f g)
   else
    (YF e).bind fun l=>
    bif false != l then
     rec (.h0 true a b c d e f g)
    else
     bif !(e.toList==(strB []).toList)then
      rec (.h0 true a b c d e f g)
     else
      (YF f).bind fun j=>
      bif j then
       rec (.h0 true a b c d e f g)
      else
       bif false != (f.toList==(strB [84,73,77,69]).toList)then
        rec (.h0 true a b c d e f g)
       else
        rec (.h0 (!(f.toList==(strB []).toList)) a b c d e f g)
  else
   (YF e).bind fun m=>
   bif false != m then
    rec (.h0 true a b c d e f g)
   else
    bif !(e.toList==(strB []).toList)then
     rec (.h0 true a b c d e f g)
    else
     (YF f).bind fun n=>
     bif n then
      rec (.h0 true a b c d e f g)
     else
      bif false != (f.toList==(strB [84,73,77,69]).toList)then
       rec (.h0 true a b c d e f g)
      else
       rec (.h0 (!(f.toList==(strB []).toList)) a b c d e f g)
 |.h0 a b _ c d ..=>
  bif a then
   some false
  else
   bif b==20 then
    bif decide (c≥0)then
     some (d==0)
    else
     some false
   else
    bif b==22 then
     bif decide (c≥0)then
      bif decide (c≤1)then
       some (d==0)
      else
       some false
     else
      some false
    else
     bif b==21 then
      bif decide (c≥0)then
       bif decide (d≥1)then
        bif decide (d≤14)then
         (g40 k 4 (strB []) c d 0).bind fun e=>
         some (decide ((e.size:Int)≤16))
        else
         some false
       else
        some false
      else
       some false
     else
      bif c==0 then
       some (d==0)
      else
       some false
noncomputable def g24 (k:Nat)(a:Int)(b:Rs)(c d:Int)(e f:By)(g:Int):Option R24:=itS qj6 k (.e a b c d e f g)
noncomputable def P24:S24→R24→Prop
 |.e a b c d e f g,r=>Fin cx24 Tryd.f24 [.code qj4] (fr0 Tryd.f24 [.ag [ic a,.imm b,ic c,ic d,sc e,sc f,ic g]] []) (qkG r) (bx24 r)
 |.h0 a b c d e f g i,r=>Fin cx24 Tryd.f24 (kAt qj4 [1,1,1,0,1,2] []) ⟨[.deadv,pL 1]++rep 56 .deadv++[.c (bc a)]++rep 60 .deadv,[(.loc 1,[ic b,.imm c,ic d,ic e,sc f,sc g,ic i])]⟩ (qkG r) (bx24 r)
abbrev E24 (a:Int)(b:Rs)(c d:Int)(e f:By)(g:Int)(r:R24):Prop:=Ev Tryd.prog noHand 24 [.ag [ic a,.imm b,ic c,ic d,sc e,sc f,ic g]] [] (qkG r) (bx24 r)
theorem qnW {a:Int}{b:Rs}{c d:Int}{e f:By}{g:Int}{r:R24}(h:P24 (.e a b c d e f g) r):E24 a b c d e f g r:=evF h
theorem ok24:∀ k s r,itS qj6 k s=some r→P24 s r:=qF fun k rec ih s r h=>match s,h with
 |.e ..,h=>by
  rcases qa h with⟨a,h⟩|⟨a,h⟩
  ·
   rcases qa h with⟨b,h⟩|⟨b,h⟩
   ·
    rcases qa h with⟨c,h⟩|⟨c,h⟩
    ·
     obtain⟨_,d,h⟩:=qh h;rcases qa h with⟨e,h⟩|⟨e,h⟩
     · exact mA 0 (ih _ _ h) 9 [tT 7 a,tT 11 b,tT 17 c,cA 27 (qi d),tT 28 e] 119 664613997892457936163673153988460541
     ·
      obtain⟨_,f,h⟩:=qh h;replace h:=qa h;rcases h with⟨rfl,h⟩|⟨rfl,h⟩
      · rcases qa h with⟨g,h⟩|⟨g,h⟩
        · exact mA 0 (ih _ _ h) 9 [tT 7 a,tT 11 b,tT 17 c,cA 27 (qi d),tF 28 e,cA 42 (qi f),tT 48 g] 119 664613997892457936163673153988460541
        · rcases qa h with⟨i,h⟩|⟨i,h⟩
          · exact mA 0 (ih _ _ h) 9 [tT 7 a,tT 11 b,tT 17 c,cA 27 (qi d),tF 28 e,cA 42 (qi f),tF 48 g,tT 52 i] 119 664613997892457936163673153988460541
          · exact mA 0 (ih _ _ h) 9 [tT 7 a,tT 11 b,tT 17 c,cA 27 (qi d),tF 28 e,cA 42 (qi f),tF 48 g,tF 52 i] 119 664613997892457936163673153988460541
      · rcases qa h with⟨g,h⟩|⟨g,h⟩
        · exact mA 0 (ih _ _ h) 9 [tT 7 a,tT 11 b,tT 17 c,cA 27 (qi d),tF 28 e,cA 42 (qi f),tT 48 g] 119 664613997892457936163673153988460541
        · rcases qa h with⟨i,h⟩|⟨i,h⟩
          · exact mA 0 (ih _ _ h) 9 [tT 7 a,tT 11 b,tT 17 c,cA 27 (qi d),tF 28 e,cA 42 (qi f),tF 48 g,tT 52 i] 119 664613997892457936163673153988460541
          · exact mA 0 (ih _ _ h) 9 [tT 7 a,tT 11 b,tT 17 c,cA 27 (qi d),tF 28 e,cA 42 (qi f),tF 48 g,tF 52 i] 119 664613997892457936163673153988460541
    ·
     obtain⟨_,d,h⟩:=qh h;rcases qa h with⟨e,h⟩|⟨e,h⟩
     · exact mA 0 (ih _ _ h) 9 [tT 7 a,tT 11 b,tF 17 c,cA 27 (qi d),tT 28 e] 119 664613997892457936163673153988460541
     · obtain⟨_,f,h⟩:=qh h;replace h:=qa h;rcases h with⟨rfl,h⟩|⟨rfl,h⟩
       · exact mA 0 (ih _ _ h) 9 [tT 7 a,tT 11 b,tF 17 c,cA 27 (qi d),tF 28 e,cA 42 (qi f)] 119 664613997892457936163673153988460541
       · rcases qa h with⟨g,h⟩|⟨g,h⟩
         · exact mA 0 (ih _ _ h) 9 [tT 7 a,tT 11 b,tF 17 c,cA 27 (qi d),tF 28 e,cA 42 (qi f),tT 48 g] 119 664613997892457936163673153988460541
         · exact mA 0 (ih _ _ h) 9 [tT 7 a,tT 11 b,tF 17 c,cA 27 (qi d),tF 28 e,cA 42 (qi f),tF 48 g] 119 664613997892457936163673153988460541
   ·
    obtain⟨_,j,h⟩:=qh h;rcases qa h with⟨d,h⟩|⟨d,h⟩
    · exact mA 0 (ih _ _ h) 9 [tT 7 a,tF 11 b,cA 27 (qi j),tT 28 d] 119 664613997892457936163673153988460541
    ·
     rcases qa h with⟨e,h⟩|⟨e,h⟩
     · exact mA 0 (ih _ _ h) 9 [tT 7 a,tF 11 b,cA 27 (qi j),tF 28 d,tT 35 e] 119 664613997892457936163673153988460541
     · obtain⟨_,f,h⟩:=qh h;replace h:=qa h;rcases h with⟨rfl,h⟩|⟨rfl,h⟩
       · exact mA 0 (ih _ _ h) 9 [tT 7 a,tF 11 b,cA 27 (qi j),tF 28 d,tF 35 e,cA 42 (qi f)] 119 664613997892457936163673153988460541
       · rcases qa h with⟨g,h⟩|⟨g,h⟩
         · exact mA 0 (ih _ _ h) 9 [tT 7 a,tF 11 b,cA 27 (qi j),tF 28 d,tF 35 e,cA 42 (qi f),tT 48 g] 119 664613997892457936163673153988460541
         · exact mA 0 (ih _ _ h) 9 [tT 7 a,tF 11 b,cA 27 (qi j),tF 28 d,tF 35 e,cA 42 (qi f),tF 48 g] 119 664613997892457936163673153988460541
  ·
   obtain⟨_,c,h⟩:=qh h;rcases qa h with⟨j,h⟩|⟨j,h⟩
   · exact mA 0 (ih _ _ h) 9 [tF 7 a,cA 27 (qi c),tT 28 j] 119 664613997892457936163673153988460541
   ·
    rcases qa h with⟨d,h⟩|⟨d,h⟩
    · exact mA 0 (ih _ _ h) 9 [tF 7 a,cA 27 (qi c),tF 28 j,tT 35 d] 119 664613997892457936163673153988460541
    ·
     obtain⟨_,l,h⟩:=qh h;replace h:=qa h;rcases h with⟨rfl,h⟩|⟨rfl,h⟩
     · exact mA 0 (ih _ _ h) 9 [tF 7 a,cA 27 (qi c),tF 28 j,tF 35 d,cA 42 (qi l)] 119 664613997892457936163673153988460541
     · rcases qa h with⟨f,h⟩|⟨f,h⟩
       · exact mA 0 (ih _ _ h) 9 [tF 7 a,cA 27 (qi c),tF 28 j,tF 35 d,cA 42 (qi l),tT 48 f] 119 664613997892457936163673153988460541
       · exact mA 0 (ih _ _ h) 9 [tF 7 a,cA 27 (qi c),tF 28 j,tF 35 d,cA 42 (qi l),tF 48 f] 119 664613997892457936163673153988460541
 |.h0 ..,h=>by
  replace h:=qa h;rcases h with⟨rfl,h⟩|⟨rfl,h⟩
  · cases h;exact mF 0 []
  ·
   rcases qa h with⟨a,h⟩|⟨a,h⟩
   · rcases qa h with⟨b,h⟩|⟨b,h⟩
     · cases h;exact mF 0 [tT 62 a,tT 65 b]
     · cases h;exact mF 0 [tT 62 a,tF 65 b]
   ·
    rcases qa h with⟨b,h⟩|⟨b,h⟩
    ·
     rcases qa h with⟨c,h⟩|⟨c,h⟩
     · rcases qa h with⟨d,h⟩|⟨d,h⟩
       · cases h;exact mF 0 [tF 62 a,tT 72 b,tT 75 c,tT 79 d]
       · cases h;exact mF 0 [tF 62 a,tT 72 b,tT 75 c,tF 79 d]
     · cases h;exact mF 0 [tF 62 a,tT 72 b,tF 75 c]
    ·
     rcases qa h with⟨c,h⟩|⟨c,h⟩
     ·
      rcases qa h with⟨d,h⟩|⟨d,h⟩
      · rcases qa h with⟨e,h⟩|⟨e,h⟩
        · rcases qa h with⟨f,h⟩|⟨f,h⟩
          · obtain⟨_,g,h⟩:=qh h;cases h;exact mF 0 [tF 62 a,tF 72 b,tT 87 c,tT 90 d,tT 94 e,tT 99 f,cA 107 (ev40 g)]
          · cases h;exact mF 0 [tF 62 a,tF 72 b,tT 87 c,tT 90 d,tT 94 e,tF 99 f]
        · cases h;exact mF 0 [tF 62 a,tF 72 b,tT 87 c,tT 90 d,tF 94 e]
      · cases h;exact mF 0 [tF 62 a,tF 72 b,tT 87 c,tF 90 d]
     · rcases qa h with⟨d,h⟩|⟨d,h⟩
       · cases h;exact mF 0 [tF 62 a,tF 72 b,tF 87 c,tT 113 d]
       · cases h;exact mF 0 [tF 62 a,tF 72 b,tF 87 c,tF 113 d]
theorem ev24 {k:Nat}{a:Int}{b:Rs}{c d:Int}{e f:By}{g:Int}{r:R24}(h:g24 k a b c d e f g=some r):E24 a b c d e f g r:=qnW (ok24 _ _ _ h)
inductive S17 where
 |e (a:Int)(b:Rs)(c d:Int)(e f:By)(g:Int)
 |h0 (a:Bool)(b:Int)(c:Rs)(d e:Int)(f g:By)(i:Int)
 |h1 (a:Rs)(b c:Int)
abbrev R17:=Bool
def qjK:R17→ARes
 |r=>.ret (.c (bc r))
def bx17:R17→List (List Cell)
 |_=>[]
noncomputable def qjR (k:Nat)(rec:S17→Option R17):S17→Option R17
 |.e a b c d e f g=>
  (g23 k a).bind fun i=>
  bif i != (b.length:Int)then
   rec (.h0 true a b c d e f g)
  else
   (g24 k a b c d e f g).bind fun j=>
   rec (.h0 (!j) a b c d e f g)
 |.h0 a _ b ..=>
  bif a then
   some false
  else
   rec (.h1 b (b.length:Int) 0)
 |.h1 a b c=>
  bif decide (c<b)then
   ixR a c fun d=>
   qE d fun e f g i j l m=>
   (rec (.e e f g i j l m)).bind fun n=>
   bif !n then
    some false
   else
    rec (.h1 a b (IntKind.i64.wrap (c+1)))
  else
   some true
noncomputable def g17 (k:Nat)(a:Int)(b:Rs)(c d:Int)(e f:By)(g:Int):Option R17:=itS qjR k (.e a b c d e f g)
noncomputable def P17:S17→R17→Prop
 |.e a b c d e f g,r=>Fin cx17 Tryd.f17 [.code qiu] (fr0 Tryd.f17 [.ag [ic a,.imm b,ic c,ic d,sc e,sc f,ic g]] []) (qjK r) (bx17 r)
 |.h0 a b c d e f g i,r=>Fin cx17 Tryd.f17 (kAt qiu [1,0,1,2] []) ⟨[.deadv,pL 1]++rep 14 .deadv++[.c (bc a)]++rep 11 .deadv,[(.loc 1,[ic b,.imm c,ic d,ic e,sc f,sc g,ic i])]⟩ (qjK r) (bx17 r)
 |.h1 a b c,r=>Fin cx17 Tryd.f17 (kAt qiu [1,1,0,1,0,4] []) ⟨rep 18 .deadv++[.c (.imm a),.c (ic b),.c (ic c)]++rep 7 .deadv,[]⟩ (qjK r) (bx17 r)
abbrev E17 (a:Int)(b:Rs)(c d:Int)(e f:By)(g:Int)(r:R17):Prop:=Ev Tryd.prog noHand 17 [.ag [ic a,.imm b,ic c,ic d,sc e,sc f,ic g]] [] (qjK r) (bx17 r)
theorem qll {a:Int}{b:Rs}{c d:Int}{e f:By}{g:Int}{r:R17}(h:P17 (.e a b c d e f g) r):E17 a b c d e f g r:=evF h
theorem ok17:∀ k s r,itS qjR k s=some r→P17 s r:=qF fun k rec ih s r h=>match s,h with
 |.e ..,h=>by
  obtain⟨_,a,h⟩:=qh h;rcases qa h with⟨b,h⟩|⟨b,h⟩
  · exact mA 0 (ih _ _ h) 5 [cA 7 (ev23 a),tT 11 b] 28 268369917
  · obtain⟨_,c,h⟩:=qh h;exact mA 0 (ih _ _ h) 5 [cA 7 (ev23 a),tF 11 b,cA 14 (ev24 c)] 28 268369917
 |.h0 ..,h=>by
  replace h:=qa h;rcases h with⟨rfl,h⟩|⟨rfl,h⟩
  · cases h;exact mF 0 []
  · exact mG 0 (ih _ _ h) 7 [] 28 266600447 [1] []
 |.h1 ..,h=>by
  rcases qa h with⟨a,h⟩|⟨a,h⟩
  · obtain⟨_,b,h⟩:=YJ h;replace h:=zB h;obtain⟨_,_,_,_,_,_,_,rfl,h⟩:=h;obtain⟨_,c,h⟩:=qh h;rcases qa h with⟨d,h⟩|⟨d,h⟩
    · cases h;exact mF 0 [tT 21 a,rA 22 b,cA 25 (qll (ih _ _ c)),tT 26 d]
    · exact mG 0 (ih _ _ h) 16 [tT 21 a,rA 22 b,cA 25 (qll (ih _ _ c)),tF 26 d] 28 266600447 [4] []
  · cases h;exact mF 0 [tF 21 a]
theorem ev17 {k:Nat}{a:Int}{b:Rs}{c d:Int}{e f:By}{g:Int}{r:R17}(h:g17 k a b c d e f g=some r):E17 a b c d e f g r:=qll (ok17 _ _ _ h)
inductive S25 where
 |e (a:Int)
 |h0 (a:Int)(b:Bool)
 |h1 (a:Int)(b:Bool)
 |h2 (a:Int)(b:Bool)
abbrev R25:=Int×Int×Int
def qhG:R25→ARes
 |(a,b,c)=>.ret ⟨.tup [false,false,false],[[ic a],[ic b],[ic c]]⟩
def bx25:R25→List (List Cell)
 |(_,_,_)=>[]
noncomputable def qjZ (k:Nat)(rec:S25→Option R25):S25→Option R25
 |.e a=>
  bif a==14 then
   some (1,1,2)
  else
   bif a==13 then
    some (2,2,3)
   else
    bif a==15 then
     some (3,3,3)
    else
     bif decide (a≥7)then
      rec (.h0 a (decide (a≤12)))
     else
      rec (.h0 a false)
 |.h0 a b=>
  bif b then
   some (4,5,5)
  else
   bif a==1 then
    rec (.h1 a true)
   else
    rec (.h1 a (a==2))
 |.h1 a b=>
  bif b then
   some (5,5,6)
  else
   bif decide (a≥3)then
    rec (.h2 a (decide (a≤5)))
   else
    rec (.h2 a false)
 |.h2 a b=>
  bif b then
   some (6,6,7)
  else
   bif a==6 then
    some (7,7,7)
   else
    some (8,1,1)
noncomputable def g25 (k:Nat)(a:Int):Option R25:=itS qjZ k (.e a)
noncomputable def P25:S25→R25→Prop
 |.e a,r=>Fin cx25 Tryd.f25 [.code qfD] (fr0 Tryd.f25 [.c (ic a)] []) (qhG r) (bx25 r)
 |.h0 a b,r=>Fin cx25 Tryd.f25 (kAt qfD [1,0,0,1,1,1,1,1,1,1,2] []) ⟨[.c (ic a)]++rep 13 .deadv++[.c (bc b)]++rep 23 .deadv,[]⟩ (qhG r) (bx25 r)
 |.h1 a b,r=>Fin cx25 Tryd.f25 (kAt qfD [1,0,0,1,1,1,1,1,1,1,1,1,2] []) ⟨[.c (ic a)]++rep 20 .deadv++[.c (bc b)]++rep 16 .deadv,[]⟩ (qhG r) (bx25 r)
 |.h2 a b,r=>Fin cx25 Tryd.f25 (kAt qfD [1,0,0,1,1,1,1,1,1,1,1,1,1,1,2] []) ⟨[.c (ic a)]++rep 27 .deadv++[.c (bc b)]++rep 9 .deadv,[]⟩ (qhG r) (bx25 r)
abbrev E25 (a:Int)(r:R25):Prop:=Ev Tryd.prog noHand 25 [.c (ic a)] [] (qhG r) (bx25 r)
theorem qni {a:Int}{r:R25}(h:P25 (.e a) r):E25 a r:=evF h
theorem ok25:∀ k s r,itS qjZ k s=some r→P25 s r:=qF fun k rec ih s r h=>match s,h with
 |.e ..,h=>by
  rcases qa h with⟨a,h⟩|⟨a,h⟩
  · cases h;exact mF 0 [tT 7 a]
  ·
   rcases qa h with⟨b,h⟩|⟨b,h⟩
   · cases h;exact mF 0 [tF 7 a,tT 10 b]
   ·
    rcases qa h with⟨c,h⟩|⟨c,h⟩
    · cases h;exact mF 0 [tF 7 a,tF 10 b,tT 13 c]
    · rcases qa h with⟨d,h⟩|⟨d,h⟩
      · exact mA 0 (ih _ _ h) 15 [tF 7 a,tF 10 b,tF 13 c,tT 16 d] 38 274877890558
      · exact mA 0 (ih _ _ h) 15 [tF 7 a,tF 10 b,tF 13 c,tF 16 d] 38 274877890558
 |.h0 ..,h=>by
  replace h:=qa h;rcases h with⟨rfl,h⟩|⟨rfl,h⟩
  · cases h;exact mF 0 []
  · rcases qa h with⟨a,h⟩|⟨a,h⟩
    · exact mA 0 (ih _ _ h) 3 [tT 23 a] 38 274875809790
    · exact mA 0 (ih _ _ h) 3 [tF 23 a] 38 274875809790
 |.h1 ..,h=>by
  replace h:=qa h;rcases h with⟨rfl,h⟩|⟨rfl,h⟩
  · cases h;exact mF 0 []
  · rcases qa h with⟨a,h⟩|⟨a,h⟩
    · exact mA 0 (ih _ _ h) 3 [tT 30 a] 38 274609471486
    · exact mA 0 (ih _ _ h) 3 [tF 30 a] 38 274609471486
 |.h2 ..,h=>by
  replace h:=qa h;rcases h with⟨rfl,h⟩|⟨rfl,h⟩
  · cases h;exact mF 0 []
  · rcases qa h with⟨a,h⟩|⟨a,h⟩
    · cases h;exact mF 0 [tT 37 a]
    · cases h;exact mF 0 [tF 37 a]
theorem ev25 {k:Nat}{a:Int}{r:R25}(h:g25 k a=some r):E25 a r:=qni (ok25 _ _ _ h)
inductive S28 where
 |e (a:Int)(b:Rs)(c d:Int)(e f:By)(g:Int)
abbrev R28:=By
def qlC:R28→ARes
 |r=>.ret (.c (sc r))
def bx28:R28→List (List Cell)
 |_=>[]
noncomputable def qjV (k:Nat)(rec:S28→Option R28):S28→Option R28
 |.e a _ b c d e ..=>
  bif a==20 then
   (g40 k 3 (strB []) b 0 0).bind fun f=>
   some f
  else
   bif a==21 then
    (g40 k 4 (strB []) b c 0).bind fun g=>
    some g
   else
    bif a==22 then
     aixS [strB [70,65,76,83,69],strB [84,82,85,69]] b fun i=>
     some i
    else
     bif a==23 then
      gd (decide ((strB [39]).size+d.size≤1000000000)) <|
      gd (decide (((strB [39])++d).size+(strB [39]).size≤1000000000)) <|
      some (((strB [39])++d)++(strB [39]))
     else
      bif a==24 then
       gd (decide (d.size+(strB [46]).size≤1000000000)) <|
       gd (decide ((d++(strB [46])).size+e.size≤1000000000)) <|
       some ((d++(strB [46]))++e)
      else
       bif a==25 then
        gd (decide ((strB [67,79,85,78,84,40]).size+d.size≤1000000000)) <|
        gd (decide (((strB [67,79,85,78,84,40])++d).size+(strB [41]).size≤1000000000)) <|
        some (((strB [67,79,85,78,84,40])++d)++(strB [41]))
       else
        aixS [strB [70,73,82,83,84],strB [76,65,83,84],strB [83,85,77],strB [77,73,78],strB [77,65,88],strB [77,69,65,78]] (IntKind.i64.wrap (a-26)) fun j=>
        gd (decide (j.size+(strB [40]).size≤1000000000)) <|
        gd (decide ((j++(strB [40])).size+d.size≤1000000000)) <|
        gd (decide (((j++(strB [40]))++d).size+(strB [46]).size≤1000000000)) <|
        gd (decide ((((j++(strB [40]))++d)++(strB [46])).size+e.size≤1000000000)) <|
        gd (decide (((((j++(strB [40]))++d)++(strB [46]))++e).size+(strB [41]).size≤1000000000)) <|
        some (((((j++(strB [40]))++d)++(strB [46]))++e)++(strB [41]))
noncomputable def g28 (k:Nat)(a:Int)(b:Rs)(c d:Int)(e f:By)(g:Int):Option R28:=itS qjV k (.e a b c d e f g)
noncomputable def P28:S28→R28→Prop
 |.e a b c d e f g,r=>Fin cx28 Tryd.f28 [.code qlL] (fr0 Tryd.f28 [.ag [ic a,.imm b,ic c,ic d,sc e,sc f,ic g]] []) (qlC r) (bx28 r)
abbrev E28 (a:Int)(b:Rs)(c d:Int)(e f:By)(g:Int)(r:R28):Prop:=Ev Tryd.prog noHand 28 [.ag [ic a,.imm b,ic c,ic d,sc e,sc f,ic g]] [] (qlC r) (bx28 r)
theorem qn4 {a:Int}{b:Rs}{c d:Int}{e f:By}{g:Int}{r:R28}(h:P28 (.e a b c d e f g) r):E28 a b c d e f g r:=evF h
theorem ok28:∀ k s r,itS qjV k s=some r→P28 s r:=qF fun k rec ih s r h=>match s,h with
 |.e ..,h=>by
  rcases qa h with⟨a,h⟩|⟨a,h⟩
  · obtain⟨_,b,h⟩:=qh h;cases h;exact mF 0 [tT 6 a,cA 10 (ev40 b)]
  ·
   rcases qa h with⟨c,h⟩|⟨c,h⟩
   · obtain⟨_,d,h⟩:=qh h;cases h;exact mF 0 [tF 6 a,tT 12 c,cA 18 (ev40 d)]
   ·
    rcases qa h with⟨b,h⟩|⟨b,h⟩
    · obtain⟨_,e,h⟩:=qcW h;cases h;exact mF 0 [tF 6 a,tF 12 c,tT 20 b,aA 24 e]
    ·
     rcases qa h with⟨d,h⟩|⟨d,h⟩
     · obtain⟨e,h⟩:=zo h;obtain⟨f,h⟩:=zo h;cases h;exact mF 0 [tF 6 a,tF 12 c,tF 20 b,tT 26 d,xC 29 e,xC 30 f]
     · rcases qa h with⟨e,h⟩|⟨e,h⟩
       · obtain⟨f,h⟩:=zo h;obtain⟨g,h⟩:=zo h;cases h;exact mF 0 [tF 6 a,tF 12 c,tF 20 b,tF 26 d,tT 32 e,xC 35 f,xC 38 g]
       · rcases qa h with⟨f,h⟩|⟨f,h⟩
         · obtain⟨g,h⟩:=zo h;obtain⟨i,h⟩:=zo h;cases h;exact mF 0 [tF 6 a,tF 12 c,tF 20 b,tF 26 d,tF 32 e,tT 40 f,xC 43 g,xC 44 i]
         · obtain⟨_,i,h⟩:=qcW h;obtain⟨j,h⟩:=zo h;obtain⟨l,h⟩:=zo h;obtain⟨m,h⟩:=zo h;obtain⟨n,h⟩:=zo h;obtain⟨o,h⟩:=zo h;cases h;exact mF 0 [tF 6 a,tF 12 c,tF 20 b,tF 26 d,tF 32 e,tF 40 f,aA 49 i,xC 50 j,xC 53 l,xC 54 m,xC 57 n,xC 58 o]
theorem ev28 {k:Nat}{a:Int}{b:Rs}{c d:Int}{e f:By}{g:Int}{r:R28}(h:g28 k a b c d e f g=some r):E28 a b c d e f g r:=qn4 (ok28 _ _ _ h)
inductive S27 where
 |e (a:Int)
abbrev R27:=By
def qmO:R27→ARes
 |r=>.ret (.c (sc r))
def bx27:R27→List (List Cell)
 |_=>[]
noncomputable def qj8 (k:Nat)(rec:S27→Option R27):S27→Option R27
 |.e a=>
  aixS [strB [],strB [43],strB [45],strB [42],strB [47],strB [37],strB [45],strB [61],strB [33,61],strB [60],strB [60,61],strB [62],strB [62,61],strB [65,78,68],strB [79,82],strB [78,79,84,32],strB [82,69,65,76],strB [73,83,78,65,78]] a fun b=>
  some b
noncomputable def g27 (k:Nat)(a:Int):Option R27:=itS qj8 k (.e a)
noncomputable def P27:S27→R27→Prop
 |.e a,r=>Fin cx27 Tryd.f27 [.code qmh] (fr0 Tryd.f27 [.c (ic a)] []) (qmO r) (bx27 r)
abbrev E27 (a:Int)(r:R27):Prop:=Ev Tryd.prog noHand 27 [.c (ic a)] [] (qmO r) (bx27 r)
theorem qom {a:Int}{r:R27}(h:P27 (.e a) r):E27 a r:=evF h
theorem ok27:∀ k s r,itS qj8 k s=some r→P27 s r:=qF fun k rec ih s r h=>match s,h with
 |.e ..,h=>by obtain⟨_,a,h⟩:=qcW h;cases h;exact mF 0 [aA 5 a]
theorem ev27 {k:Nat}{a:Int}{r:R27}(h:g27 k a=some r):E27 a r:=qom (ok27 _ _ _ h)
inductive S18 where
 |e_18 (a:Int)(b:Rs)(c d:Int)(e f:By)(g:Int)
 |e_26 (a:Int)(b:Rs)(c d:Int)(e f:By)(g i:Int)
abbrev R18:=By×Int
def qlw:R18→ARes
 |(a,b)=>.ret ⟨.tup [false,false],[[sc a],[ic b]]⟩
def bx18:R18→List (List Cell)
 |(_,_)=>[]
def qlX:R18→ARes
 |(a,b)=>.ret ⟨.tup [false,false],[[sc a],[ic b]]⟩
def bx26:R18→List (List Cell)
 |(_,_)=>[]
noncomputable def qj2 (k:Nat)(rec:S18→Option R18):S18→Option R18
 |.e_18 a b c d e f g=>
  (g25 k a).bind fun i=>
  tup3 i fun _ j l=>
  bif (b.length:Int)==1 then
   ixR b 0 fun m=>
   qE m fun n o p q t u v=>
   (rec (.e_26 n o p q t u v j)).bind fun w=>
   tup2 w fun x y=>
   bif a==16 then
    gd (decide ((strB [40]).size+x.size≤1000000000)) <|
    gd (decide (((strB [40])++x).size+(strB [41]).size≤1000000000)) <|
    (g27 k a).bind fun z=>
    gd (decide (z.size+(((strB [40])++x)++(strB [41])).size≤1000000000)) <|
    some ((z++(((strB [40])++x)++(strB [41]))),IntKind.i64.wrap (y+1))
   else
    bif a==17 then
     gd (decide ((strB [40]).size+x.size≤1000000000)) <|
     gd (decide (((strB [40])++x).size+(strB [41]).size≤1000000000)) <|
     (g27 k a).bind fun a1=>
     gd (decide (a1.size+(((strB [40])++x)++(strB [41])).size≤1000000000)) <|
     some ((a1++(((strB [40])++x)++(strB [41]))),IntKind.i64.wrap (y+1))
    else
     (g27 k a).bind fun b1=>
     gd (decide (b1.size+x.size≤1000000000)) <|
     some ((b1++x),IntKind.i64.wrap (y+1))
  else
   bif (b.length:Int)==2 then
    ixR b 0 fun c1=>
    qE c1 fun d1 e1 f1 g1 i1 j1 l1=>
    (rec (.e_26 d1 e1 f1 g1 i1 j1 l1 j)).bind fun m1=>
    tup2 m1 fun n1 o1=>
    ixR b 1 fun p1=>
    qE p1 fun q1 t1 u1 v1 w1 x1 y1=>
    (rec (.e_26 q1 t1 u1 v1 w1 x1 y1 l)).bind fun a1=>
    tup2 a1 fun z1 a2=>
    gd (decide (n1.size+(strB [32]).size≤1000000000)) <|
    (g27 k a).bind fun b2=>
    gd (decide ((n1++(strB [32])).size+b2.size≤1000000000)) <|
    gd (decide (((n1++(strB [32]))++b2).size+(strB [32]).size≤1000000000)) <|
    gd (decide ((((n1++(strB [32]))++b2)++(strB [32])).size+z1.size≤1000000000)) <|
    some (((((n1++(strB [32]))++b2)++(strB [32]))++z1),(if (a2:Int)>o1 then a2 else o1))
   else
    (g28 k a b c d e f g).bind fun c2=>
    some (c2,0)
 |.e_26 a b c d e f g i=>
  (rec (.e_18 a b c d e f g)).bind fun j=>
  tup2 j fun l m=>
  (g25 k a).bind fun n=>
  tup3 n fun o _ _=>
  bif decide (o<i)then
   gd (decide ((strB [40]).size+l.size≤1000000000)) <|
   gd (decide (((strB [40])++l).size+(strB [41]).size≤1000000000)) <|
   some ((((strB [40])++l)++(strB [41])),IntKind.i64.wrap (m+1))
  else
   some (l,m)
noncomputable def g18 (k:Nat)(a:Int)(b:Rs)(c d:Int)(e f:By)(g:Int):Option R18:=itS qj2 k (.e_18 a b c d e f g)
noncomputable def P18:S18→R18→Prop
 |.e_18 a b c d e f g,r=>Fin cx18 Tryd.f18 [.code qne] (fr0 Tryd.f18 [.ag [ic a,.imm b,ic c,ic d,sc e,sc f,ic g]] []) (qlw r) (bx18 r)
 |.e_26 a b c d e f g i,r=>Fin cx26 Tryd.f26 [.code qlT] (fr0 Tryd.f26 [.ag [ic a,.imm b,ic c,ic d,sc e,sc f,ic g],.c (ic i)] []) (qlX r) (bx26 r)
abbrev E18 (a:Int)(b:Rs)(c d:Int)(e f:By)(g:Int)(r:R18):Prop:=Ev Tryd.prog noHand 18 [.ag [ic a,.imm b,ic c,ic d,sc e,sc f,ic g]] [] (qlw r) (bx18 r)
theorem qlt {a:Int}{b:Rs}{c d:Int}{e f:By}{g:Int}{r:R18}(h:P18 (.e_18 a b c d e f g) r):E18 a b c d e f g r:=evF h
abbrev E26 (a:Int)(b:Rs)(c d:Int)(e f:By)(g i:Int)(r:R18):Prop:=Ev Tryd.prog noHand 26 [.ag [ic a,.imm b,ic c,ic d,sc e,sc f,ic g],.c (ic i)] [] (qlX r) (bx26 r)
theorem qh0 {a:Int}{b:Rs}{c d:Int}{e f:By}{g i:Int}{r:R18}(h:P18 (.e_26 a b c d e f g i) r):E26 a b c d e f g i r:=evF h
theorem ok18:∀ k s r,itS qj2 k s=some r→P18 s r:=qF fun k rec ih s r h=>match s,h with
 |.e_18 ..,h=>by
  obtain⟨_,a,h⟩:=b3 h;rcases qa h with⟨b,h⟩|⟨b,h⟩
  ·
   obtain⟨_,c,h⟩:=YJ h;replace h:=zB h;obtain⟨_,_,_,_,_,_,_,rfl,h⟩:=h;obtain⟨_,d,h⟩:=b2 h;rcases qa h with⟨e,h⟩|⟨e,h⟩
   · obtain⟨f,h⟩:=zo h;obtain⟨g,h⟩:=zo h;obtain⟨_,i,h⟩:=qh h;obtain⟨j,h⟩:=zo h;cases h;exact mF 0 [cA 16 (ev25 a),tT 24 b,rA 28 c,cA 31 (qh0 (ih _ _ d)),tT 36 e,xC 43 f,xC 44 g,cA 47 (ev27 i),xC 49 j]
   · rcases qa h with⟨f,h⟩|⟨f,h⟩
     · obtain⟨g,h⟩:=zo h;obtain⟨l,h⟩:=zo h;obtain⟨_,j,h⟩:=qh h;obtain⟨m,h⟩:=zo h;cases h;exact mF 0 [cA 16 (ev25 a),tT 24 b,rA 28 c,cA 31 (qh0 (ih _ _ d)),tF 36 e,tT 40 f,xC 43 g,xC 44 l,cA 47 (ev27 j),xC 49 m]
     · obtain⟨_,l,h⟩:=qh h;obtain⟨i,h⟩:=zo h;cases h;exact mF 0 [cA 16 (ev25 a),tT 24 b,rA 28 c,cA 31 (qh0 (ih _ _ d)),tF 36 e,tF 40 f,cA 47 (ev27 l),xC 49 i]
  · rcases qa h with⟨n,h⟩|⟨n,h⟩
    · obtain⟨_,o,h⟩:=YJ h;replace h:=zB h;obtain⟨_,_,_,_,_,_,_,rfl,h⟩:=h;obtain⟨_,p,h⟩:=b2 h;obtain⟨_,g,h⟩:=YJ h;replace h:=zB h;obtain⟨_,_,_,_,_,_,_,rfl,h⟩:=h;obtain⟨_,j,h⟩:=b2 h;obtain⟨q,h⟩:=zo h;obtain⟨_,t,h⟩:=qh h;obtain⟨u,h⟩:=zo h;obtain⟨v,h⟩:=zo h;obtain⟨w,h⟩:=zo h;cases h;exact mF 0 [cA 16 (ev25 a),tF 24 b,tT 53 n,rA 57 o,cA 60 (qh0 (ih _ _ p)),rA 66 g,cA 69 (qh0 (ih _ _ j)),xC 73 q,cA 76 (ev27 t),xC 77 u,xC 78 v,xC 80 w]
    · obtain⟨_,o,h⟩:=qh h;cases h;exact mF 0 [cA 16 (ev25 a),tF 24 b,tF 53 n,cA 85 (ev28 o)]
 |.e_26 ..,h=>by
  obtain⟨_,a,h⟩:=b2 h;obtain⟨_,b,h⟩:=b3 h;rcases qa h with⟨c,h⟩|⟨c,h⟩
  · obtain⟨d,h⟩:=zo h;obtain⟨e,h⟩:=zo h;cases h;exact mF 0 [cA 13 (qlt (ih _ _ a)),cA 19 (ev25 b),tT 25 c,xC 27 d,xC 28 e]
  · cases h;exact mF 0 [cA 13 (qlt (ih _ _ a)),cA 19 (ev25 b),tF 25 c]
theorem ev18 {k:Nat}{a:Int}{b:Rs}{c d:Int}{e f:By}{g:Int}{r:R18}(h:g18 k a b c d e f g=some r):E18 a b c d e f g r:=qlt (ok18 _ _ _ h)
inductive S14 where
 |e (a:Int)(b:Rs)(c d:Int)(e f:By)(g:Int)
abbrev R14:=By×Int
def qmx:R14→ARes
 |(a,b)=>.ret ⟨.tup [false,false],[[sc a],[ic b]]⟩
def bx14:R14→List (List Cell)
 |(_,_)=>[]
noncomputable def qkA (k:Nat)(rec:S14→Option R14):S14→Option R14
 |.e a b c d e f g=>
  (g17 k a b c d e f g).bind fun i=>
  bif !i then
   some (strB [],3)
  else
   (g10 k a b c d e f g).bind fun j=>
   bif decide (j>200)then
    some (strB [],2)
   else
    (g18 k a b c d e f g).bind fun l=>
    tup2 l fun m n=>
    bif decide ((m.size:Int)>4000)then
     some (strB [],2)
    else
     bif decide (n>30)then
      some (strB [],14)
     else
      some (m,0)
noncomputable def g14 (k:Nat)(a:Int)(b:Rs)(c d:Int)(e f:By)(g:Int):Option R14:=itS qkA k (.e a b c d e f g)
noncomputable def P14:S14→R14→Prop
 |.e a b c d e f g,r=>Fin cx14 Tryd.f14 [.code qmg] (fr0 Tryd.f14 [.ag [ic a,.imm b,ic c,ic d,sc e,sc f,ic g]] []) (qmx r) (bx14 r)
abbrev E14 (a:Int)(b:Rs)(c d:Int)(e f:By)(g:Int)(r:R14):Prop:=Ev Tryd.prog noHand 14 [.ag [ic a,.imm b,ic c,ic d,sc e,sc f,ic g]] [] (qmx r) (bx14 r)
theorem qnT {a:Int}{b:Rs}{c d:Int}{e f:By}{g:Int}{r:R14}(h:P14 (.e a b c d e f g) r):E14 a b c d e f g r:=evF h
theorem ok14:∀ k s r,itS qkA k s=some r→P14 s r:=qF fun k rec ih s r h=>match s,h with
 |.e ..,h=>by
  obtain⟨_,a,h⟩:=qh h;rcases qa h with⟨b,h⟩|⟨b,h⟩
  · cases h;exact mF 0 [cA 7 (ev17 a),tT 8 b]
  ·
   obtain⟨_,c,h⟩:=qh h;rcases qa h with⟨d,h⟩|⟨d,h⟩
   · cases h;exact mF 0 [cA 7 (ev17 a),tF 8 b,cA 10 (ev10 c),tT 11 d]
   ·
    obtain⟨_,e,h⟩:=b2 h;rcases qa h with⟨f,h⟩|⟨f,h⟩
    · cases h;exact mF 0 [cA 7 (ev17 a),tF 8 b,cA 10 (ev10 c),tF 11 d,cA 14 (ev18 e),tT 20 f]
    · rcases qa h with⟨g,h⟩|⟨g,h⟩
      · cases h;exact mF 0 [cA 7 (ev17 a),tF 8 b,cA 10 (ev10 c),tF 11 d,cA 14 (ev18 e),tF 20 f,tT 23 g]
      · cases h;exact mF 0 [cA 7 (ev17 a),tF 8 b,cA 10 (ev10 c),tF 11 d,cA 14 (ev18 e),tF 20 f,tF 23 g]
theorem ev14 {k:Nat}{a:Int}{b:Rs}{c d:Int}{e f:By}{g:Int}{r:R14}(h:g14 k a b c d e f g=some r):E14 a b c d e f g r:=qnT (ok14 _ _ _ h)
inductive S7 where
 |e
abbrev R7:=Bool
def res7:R7→ARes
 |r=>.ret (.c (bc r))
def bx7:R7→List (List Cell)
 |_=>[]
noncomputable def qm4 (k:Nat)(rec:S7→Option R7):S7→Option R7
 |.e=>
  (g13 k (strB [97,46,120,43,49,60,61,50,42,67,79,85,78,84,40,98,41])).bind fun a=>
  tup9 a fun b c d e f g i j l=>
  (g14 k b c d e f g i).bind fun m=>
  tup2 m fun n o=>
  bif l==0 then
   bif j==0 then
    bif o==0 then
     bif n.toList==(strB [97,46,120,32,43,32,49,32,60,61,32,50,32,42,32,67,79,85,78,84,40,98,41]).toList then
      bif b==10 then
       some (i==5)
      else
       some false
     else
      some false
    else
     some false
   else
    some false
  else
   some false
noncomputable def g7 (k:Nat):Option R7:=itS qm4 k (.e)
noncomputable def P7:S7→R7→Prop
 |.e,r=>Fin cx7 Tryd.f7 [.code qnU] (fr0 Tryd.f7 [] []) (res7 r) (bx7 r)
abbrev E7 (r:R7):Prop:=Ev Tryd.prog noHand 7 [] [] (res7 r) (bx7 r)
theorem evr7 {r:R7}(h:P7 (.e) r):E7 r:=evF h
theorem ok7:∀ k s r,itS qm4 k s=some r→P7 s r:=qF fun k rec ih s r h=>match s,h with
 |.e,h=>by
  obtain⟨_,a,h⟩:=b9 h;obtain⟨_,b,h⟩:=b2 h;rcases qa h with⟨c,h⟩|⟨c,h⟩
  ·
   rcases qa h with⟨d,h⟩|⟨d,h⟩
   ·
    rcases qa h with⟨e,h⟩|⟨e,h⟩
    ·
     rcases qa h with⟨f,h⟩|⟨f,h⟩
     · rcases qa h with⟨g,h⟩|⟨g,h⟩
       · cases h;exact mF 0 [cA 7 (ev13 a),cA 13 (ev14 b),tT 17 c,tT 20 d,tT 24 e,tT 28 f,tT 33 g]
       · cases h;exact mF 0 [cA 7 (ev13 a),cA 13 (ev14 b),tT 17 c,tT 20 d,tT 24 e,tT 28 f,tF 33 g]
     · cases h;exact mF 0 [cA 7 (ev13 a),cA 13 (ev14 b),tT 17 c,tT 20 d,tT 24 e,tF 28 f]
    · cases h;exact mF 0 [cA 7 (ev13 a),cA 13 (ev14 b),tT 17 c,tT 20 d,tF 24 e]
   · cases h;exact mF 0 [cA 7 (ev13 a),cA 13 (ev14 b),tT 17 c,tF 20 d]
  · cases h;exact mF 0 [cA 7 (ev13 a),cA 13 (ev14 b),tF 17 c]
theorem ev7 {k:Nat}{r:R7}(h:g7 k=some r):E7 r:=evr7 (ok7 _ _ _ h)
inductive S8 where
 |e (a:Int)(b:Rs)(c d:Int)(e f:By)(g i:Int)(j:Rs)(l m:Int)(n o:By)(p:Int)
 |h0 (a:Bool)(b:Int)(c:Rs)(d e:Int)(f g:By)(i j:Int)(l:Rs)(m n:Int)(o p:By)(q:Int)
 |h1 (a b c:Int)(d:Rs)(e f:Int)(g i:By)(j l:Int)(m:Rs)(n o:Int)(p q:By)(t:Int)
abbrev R8:=Bool
def res8:R8→ARes
 |r=>.ret (.c (bc r))
def bx8:R8→List (List Cell)
 |_=>[]
noncomputable def qbD (k:Nat)(rec:S8→Option R8):S8→Option R8
 |.e a b c d e f g i j l m n o p=>
  bif a != i then
   rec (.h0 true i j l m n o p a b c d e f g)
  else
   bif c != l then
    rec (.h0 true i j l m n o p a b c d e f g)
   else
    bif d != m then
     rec (.h0 true i j l m n o p a b c d e f g)
    else
     bif !(e.toList==n.toList)then
      rec (.h0 true i j l m n o p a b c d e f g)
     else
      bif !(f.toList==o.toList)then
       rec (.h0 true i j l m n o p a b c d e f g)
      else
       rec (.h0 ((b.length:Int)!=(j.length:Int)) i j l m n o p a b c d e f g)
 |.h0 a b c d e f g i j l m n o p q=>
  bif a then
   some false
  else
   rec (.h1 (l.length:Int) 0 b c d e f g i j l m n o p q)
 |.h1 a b c d e f g i j l m n o p q t=>
  bif decide (b<a)then
   ixR m b fun u=>
   qE u fun v w x y z a1 b1=>
   ixR d b fun c1=>
   qE c1 fun d1 e1 f1 g1 i1 j1 l1=>
   (rec (.e v w x y z a1 b1 d1 e1 f1 g1 i1 j1 l1)).bind fun m1=>
   bif !m1 then
    some false
   else
    rec (.h1 a (IntKind.i64.wrap (b+1)) c d e f g i j l m n o p q t)
  else
   some true
noncomputable def g8 (k:Nat)(a:Int)(b:Rs)(c d:Int)(e f:By)(g i:Int)(j:Rs)(l m:Int)(n o:By)(p:Int):Option R8:=itS qbD k (.e a b c d e f g i j l m n o p)
noncomputable def P8:S8→R8→Prop
 |.e a b c d e f g i j l m n o p,r=>Fin cx8 Tryd.f8 [.code qk4] (fr0 Tryd.f8 [.ag [ic a,.imm b,ic c,ic d,sc e,sc f,ic g],.ag [ic i,.imm j,ic l,ic m,sc n,sc o,ic p]] []) (res8 r) (bx8 r)
 |.h0 a b c d e f g i j l m n o p q,r=>Fin cx8 Tryd.f8 (kAt qk4 [1,0,1,2] []) ⟨[.deadv,.deadv,pL 2,pL 3]++rep 43 .deadv++[.c (bc a)]++rep 19 .deadv,[(.loc 3,[ic b,.imm c,ic d,ic e,sc f,sc g,ic i]),(.loc 2,[ic j,.imm l,ic m,ic n,sc o,sc p,ic q])]⟩ (res8 r) (bx8 r)
 |.h1 a b c d e f g i j l m n o p q t,r=>Fin cx8 Tryd.f8 (kAt qk4 [1,1,0,1,0,4] []) ⟨[.deadv,.deadv,pL 2,pL 3]++rep 46 .deadv++[.c (ic a),.c (ic b)]++rep 15 .deadv,[(.loc 3,[ic c,.imm d,ic e,ic f,sc g,sc i,ic j]),(.loc 2,[ic l,.imm m,ic n,ic o,sc p,sc q,ic t])]⟩ (res8 r) (bx8 r)
abbrev E8 (a:Int)(b:Rs)(c d:Int)(e f:By)(g i:Int)(j:Rs)(l m:Int)(n o:By)(p:Int)(r:R8):Prop:=Ev Tryd.prog noHand 8 [.ag [ic a,.imm b,ic c,ic d,sc e,sc f,ic g],.ag [ic i,.imm j,ic l,ic m,sc n,sc o,ic p]] [] (res8 r) (bx8 r)
theorem evr8 {a:Int}{b:Rs}{c d:Int}{e f:By}{g i:Int}{j:Rs}{l m:Int}{n o:By}{p:Int}{r:R8}(h:P8 (.e a b c d e f g i j l m n o p) r):E8 a b c d e f g i j l m n o p r:=evF h
theorem ok8:∀ k s r,itS qbD k s=some r→P8 s r:=qF fun k rec ih s r h=>match s,h with
 |.e ..,h=>by
  rcases qa h with⟨a,h⟩|⟨a,h⟩
  · exact mA 0 (ih _ _ h) 5 [tT 10 a] 67 147573811852188057587
  ·
   rcases qa h with⟨b,h⟩|⟨b,h⟩
   · exact mA 0 (ih _ _ h) 5 [tF 10 a,tT 16 b] 67 147573811852188057587
   ·
    rcases qa h with⟨c,h⟩|⟨c,h⟩
    · exact mA 0 (ih _ _ h) 5 [tF 10 a,tF 16 b,tT 23 c] 67 147573811852188057587
    ·
     rcases qa h with⟨d,h⟩|⟨d,h⟩
     · exact mA 0 (ih _ _ h) 5 [tF 10 a,tF 16 b,tF 23 c,tT 30 d] 67 147573811852188057587
     · rcases qa h with⟨e,h⟩|⟨e,h⟩
       · exact mA 0 (ih _ _ h) 5 [tF 10 a,tF 16 b,tF 23 c,tF 30 d,tT 37 e] 67 147573811852188057587
       · exact mA 0 (ih _ _ h) 5 [tF 10 a,tF 16 b,tF 23 c,tF 30 d,tF 37 e] 67 147573811852188057587
 |.h0 ..,h=>by
  replace h:=qa h;rcases h with⟨rfl,h⟩|⟨rfl,h⟩
  · cases h;exact mF 0 []
  · exact mA 0 (ih _ _ h) 7 [] 67 147570574889955885043
 |.h1 ..,h=>by
  rcases qa h with⟨a,h⟩|⟨a,h⟩
  · obtain⟨_,b,h⟩:=YJ h;replace h:=zB h;obtain⟨_,_,_,_,_,_,_,rfl,h⟩:=h;obtain⟨_,c,h⟩:=YJ h;replace h:=zB h;obtain⟨_,_,_,_,_,_,_,rfl,h⟩:=h;obtain⟨_,d,h⟩:=qh h;rcases qa h with⟨e,h⟩|⟨e,h⟩
    · cases h;exact mF 0 [tT 52 a,rA 57 b,rA 62 c,cA 64 (evr8 (ih _ _ d)),tT 65 e]
    · exact mA 0 (ih _ _ h) 16 [tT 52 a,rA 57 b,rA 62 c,cA 64 (evr8 (ih _ _ d)),tF 65 e] 67 147570574889955885043
  · cases h;exact mF 0 [tF 52 a]
theorem ev8 {k:Nat}{a:Int}{b:Rs}{c d:Int}{e f:By}{g i:Int}{j:Rs}{l m:Int}{n o:By}{p:Int}{r:R8}(h:g8 k a b c d e f g i j l m n o p=some r):E8 a b c d e f g i j l m n o p r:=evr8 (ok8 _ _ _ h)
inductive S9 where
 |e (a:Int)(b:Rs)(c d:Int)(e f:By)(g i:Int)(j:Rs)(l m:Int)(n o:By)(p:Int)(q:Bool)
 |h0 (a b:Bool)(c:Int)(d:Rs)(e f:Int)(g i:By)(j l:Int)(m:Rs)(n o:Int)(p q:By)(t:Int)
 |h1 (a:Bool)(b c d:Int)(e:Rs)(f g:Int)(i j:By)(l m:Int)(n:Rs)(o p:Int)(q t:By)(u:Int)
abbrev R9:=Bool
noncomputable def qn6 (k:Nat)(rec:S9→Option R9):S9→Option R9
 |.e a b c d e f g i j l m n o p q=>
  bif a != i then
   rec (.h0 q true i j l m n o p a b c d e f g)
  else
   bif c != l then
    rec (.h0 q true i j l m n o p a b c d e f g)
   else
    bif d != m then
     rec (.h0 q true i j l m n o p a b c d e f g)
    else
     bif !(e.toList==n.toList)then
      rec (.h0 q true i j l m n o p a b c d e f g)
     else
      bif !(f.toList==o.toList)then
       rec (.h0 q true i j l m n o p a b c d e f g)
      else
       bif (b.length:Int)!=(j.length:Int)then
        rec (.h0 q true i j l m n o p a b c d e f g)
       else
        bif q then
         rec (.h0 q (g != p) i j l m n o p a b c d e f g)
        else
         rec (.h0 q false i j l m n o p a b c d e f g)
 |.h0 a b c d e f g i j l m n o p q t=>
  bif b then
   some false
  else
   rec (.h1 a (m.length:Int) 0 c d e f g i j l m n o p q t)
 |.h1 a b c d e f g i j l m n o p q t u=>
  bif decide (c<b)then
   ixR n c fun v=>
   qE v fun w x y z a1 b1 c1=>
   ixR e c fun d1=>
   qE d1 fun e1 f1 g1 i1 j1 l1 m1=>
   (rec (.e w x y z a1 b1 c1 e1 f1 g1 i1 j1 l1 m1 a)).bind fun n1=>
   bif !n1 then
    some false
   else
    rec (.h1 a b (IntKind.i64.wrap (c+1)) d e f g i j l m n o p q t u)
  else
   some true
noncomputable def g9 (k:Nat)(a:Int)(b:Rs)(c d:Int)(e f:By)(g i:Int)(j:Rs)(l m:Int)(n o:By)(p:Int)(q:Bool):Option R9:=itS qn6 k (.e a b c d e f g i j l m n o p q)
inductive S11 where
 |e (a:Int)(b:Rs)(c d:Int)(e f:By)(g:Int)
 |h0 (a b c d:Int)(e:Rs)(f g:Int)(i j:By)(l:Int)
abbrev R11:=Int
noncomputable def ql7 (k:Nat)(rec:S11→Option R11):S11→Option R11
 |.e a b c d e f g=>rec (.h0 1 (b.length:Int) 0 a b c d e f g)
 |.h0 a b c d e f g i j l=>
  bif decide (c<b)then
   ixR e c fun m=>
   qE m fun n o p q t u v=>
   (rec (.e n o p q t u v)).bind fun w=>
   rec (.h0 (IntKind.i64.wrap (a+w)) b (IntKind.i64.wrap (c+1)) d e f g i j l)
  else
   some a
noncomputable def g11 (k:Nat)(a:Int)(b:Rs)(c d:Int)(e f:By)(g:Int):Option R11:=itS ql7 k (.e a b c d e f g)
inductive S12 where
 |e (a:Int)(b:Rs)(c d:Int)(e f:By)(g:Int)
 |h0 (a:Rs)(b c d e f:Int)(g i:By)(j l:Int)(m:Rs)(n o:Int)(p q:By)(t:Int)
abbrev R12:=Int×Rs×Int×Int×By×By×Int
noncomputable def qmH (k:Nat)(rec:S12→Option R12):S12→Option R12
 |.e a b c d e f g=>rec (.h0 [] (b.length:Int) 0 0 0 0 (strB []) (strB []) 0 a b c d e f g)
 |.h0 a b c d e f g i j l m n o p q t=>
  bif decide (c<b)then
   ixR m c fun u=>
   qE u fun v w x y z a1 b1=>
   (rec (.e v w x y z a1 b1)).bind fun c1=>
   tup7 c1 fun d1 e1 f1 g1 i1 j1 l1=>
   gd (apOk 88 7 a [[ic d1,.imm e1,ic f1,ic g1,sc i1,sc j1,ic l1]]) <|
   rec (.h0 (a++[[ic d1,.imm e1,ic f1,ic g1,sc i1,sc j1,ic l1]]) b (IntKind.i64.wrap (c+1)) d e f g i j l m n o p q t)
  else
   some (l,qG a,n,o,p,q,t)
noncomputable def g12 (k:Nat)(a:Int)(b:Rs)(c d:Int)(e f:By)(g:Int):Option R12:=itS qmH k (.e a b c d e f g)
inductive S3 where
 |e (a:Int)(b:Rs)(c d:Int)(e f:By)(g i:Int)(j:Rs)(l m:Int)(n o:By)(p:Int)
abbrev R3:=Bool
noncomputable def qon (k:Nat)(rec:S3→Option R3):S3→Option R3
 |.e a b c d e f g i j l m n o p=>
  (g7 k).bind fun q=>
  bif q then
   (g8 k a b c d e f g i j l m n o p).bind fun t=>
   (g9 k a b c d e f g i j l m n o p false).bind fun u=>
   bif t==u then
    (g10 k a b c d e f g).bind fun v=>
    (g11 k a b c d e f g).bind fun w=>
    bif v==w then
     (g12 k a b c d e f g).bind fun x=>
     tup7 x fun y z a1 b1 c1 d1 e1=>
     (g8 k a b c d e f g y z a1 b1 c1 d1 e1).bind fun f1=>
     some f1
    else
     some false
   else
    some false
  else
   some false
noncomputable def g3 (k:Nat)(a:Int)(b:Rs)(c d:Int)(e f:By)(g i:Int)(j:Rs)(l m:Int)(n o:By)(p:Int):Option R3:=itS qon k (.e a b c d e f g i j l m n o p)
inductive S4 where
 |e (a:By)
 |h0 (a:Bool)(b:Int)(c:Rs)(d e:Int)(f g:By)(i:Int)
abbrev R4:=Bool
def res4:R4→ARes
 |r=>.ret (.c (bc r))
def bx4:R4→List (List Cell)
 |_=>[]
noncomputable def qnB (k:Nat)(rec:S4→Option R4):S4→Option R4
 |.e a=>
  (g13 k a).bind fun b=>
  tup9 b fun c d e f g i j _ l=>
  (g7 k).bind fun m=>
  bif !m then
   rec (.h0 true c d e f g i j)
  else
   rec (.h0 (l != 0) c d e f g i j)
 |.h0 a b c d e f g i=>
  bif a then
   (g7 k).bind fun j=>
   some j
  else
   (g14 k b c d e f g i).bind fun j=>
   tup2 j fun l m=>
   bif m != 0 then
    some (m==2)
   else
    (g13 k l).bind fun n=>
    tup9 n fun o p q t u v w _ x=>
    (g14 k o p q t u v w).bind fun y=>
    tup2 y fun z a1=>
    bif x==0 then
     bif a1==0 then
      bif z.toList==l.toList then
       (g8 k o p q t u v w b c d e f g i).bind fun b1=>
       bif b1 then
        some (decide ((l.size:Int)≤4000))
       else
        some false
      else
       some false
     else
      some false
    else
     some false
noncomputable def g4 (k:Nat)(a:By):Option R4:=itS qnB k (.e a)
noncomputable def P4:S4→R4→Prop
 |.e a,r=>Fin cx4 Tryd.f4 [.code qmq] (fr0 Tryd.f4 [.c (sc a)] []) (res4 r) (bx4 r)
 |.h0 a b c d e f g i,r=>Fin cx4 Tryd.f4 (kAt qmq [1,1,0,1,2] []) ⟨rep 3 .deadv++[pL 3]++rep 20 .deadv++[.c (bc a)]++rep 42 .deadv,[(.loc 3,[ic b,.imm c,ic d,ic e,sc f,sc g,ic i])]⟩ (res4 r) (bx4 r)
abbrev E4 (a:By)(r:R4):Prop:=Ev Tryd.prog noHand 4 [.c (sc a)] [] (res4 r) (bx4 r)
theorem evr4 {a:By}{r:R4}(h:P4 (.e a) r):E4 a r:=evF h
theorem ok4:∀ k s r,itS qnB k s=some r→P4 s r:=qF fun k rec ih s r h=>match s,h with
 |.e ..,h=>by
  obtain⟨_,a,h⟩:=b9 h;obtain⟨_,b,h⟩:=qh h;rcases qa h with⟨c,h⟩|⟨c,h⟩
  · exact mA 0 (ih _ _ h) 7 [cA 15 (ev13 a),cA 19 (ev7 b),tT 20 c] 67 147573952589659635703
  · exact mA 0 (ih _ _ h) 7 [cA 15 (ev13 a),cA 19 (ev7 b),tF 20 c] 67 147573952589659635703
 |.h0 ..,h=>by
  replace h:=qa h;rcases h with⟨rfl,h⟩|⟨rfl,h⟩
  · obtain⟨_,a,h⟩:=qh h;cases h;exact mF 0 [cA 25 (ev7 a)]
  ·
   obtain⟨_,a,h⟩:=b2 h;rcases qa h with⟨b,h⟩|⟨b,h⟩
   · cases h;exact mF 0 [cA 28 (ev14 a),tT 32 b]
   ·
    obtain⟨_,c,h⟩:=b9 h;obtain⟨_,d,h⟩:=b2 h;rcases qa h with⟨e,h⟩|⟨e,h⟩
    ·
     rcases qa h with⟨f,h⟩|⟨f,h⟩
     · rcases qa h with⟨g,h⟩|⟨g,h⟩
       · obtain⟨_,i,h⟩:=qh h;replace h:=qa h;rcases h with⟨rfl,h⟩|⟨rfl,h⟩
         · cases h;exact mF 0 [cA 28 (ev14 a),tF 32 b,cA 37 (ev13 c),cA 43 (ev14 d),tT 47 e,tT 50 f,tT 55 g,cA 60 (ev8 i)]
         · cases h;exact mF 0 [cA 28 (ev14 a),tF 32 b,cA 37 (ev13 c),cA 43 (ev14 d),tT 47 e,tT 50 f,tT 55 g,cA 60 (ev8 i)]
       · cases h;exact mF 0 [cA 28 (ev14 a),tF 32 b,cA 37 (ev13 c),cA 43 (ev14 d),tT 47 e,tT 50 f,tF 55 g]
     · cases h;exact mF 0 [cA 28 (ev14 a),tF 32 b,cA 37 (ev13 c),cA 43 (ev14 d),tT 47 e,tF 50 f]
    · cases h;exact mF 0 [cA 28 (ev14 a),tF 32 b,cA 37 (ev13 c),cA 43 (ev14 d),tF 47 e]
theorem ev4 {k:Nat}{a:By}{r:R4}(h:g4 k a=some r):E4 a r:=evr4 (ok4 _ _ _ h)
inductive S5 where
 |e (a:By)
 |h0 (a:By)(b:Bool)(c:Int)(d:Rs)(e f:Int)(g i:By)(j:Int)
abbrev R5:=Bool
noncomputable def Qq (k:Nat)(rec:S5→Option R5):S5→Option R5
 |.e a=>
  (g13 k a).bind fun b=>
  tup9 b fun c d e f g i j _ l=>
  (g7 k).bind fun m=>
  bif !m then
   rec (.h0 a true c d e f g i j)
  else
   bif l != 0 then
    rec (.h0 a true c d e f g i j)
   else
    rec (.h0 a (decide ((a.size:Int)>3990)) c d e f g i j)
 |.h0 a b c d e f g i j=>
  bif b then
   (g7 k).bind fun l=>
   some l
  else
   gd (decide ((strB [40]).size+a.size≤1000000000)) <|
   gd (decide (((strB [40])++a).size+(strB [41]).size≤1000000000)) <|
   (g13 k (((strB [40])++a)++(strB [41]))).bind fun m=>
   tup9 m fun n o p q t u v _ w=>
   bif w==14 then
    some true
   else
    gd (decide ((strB [40]).size+a.size≤1000000000)) <|
    (g13 k ((strB [40])++a)).bind fun x=>
    tup9 x fun _ _ _ _ _ _ _ y z=>
    gd (decide (a.size+(strB [32,41]).size≤1000000000)) <|
    (g13 k (a++(strB [32,41]))).bind fun a1=>
    tup9 a1 fun _ _ _ _ _ _ _ b1 c1=>
    bif w==0 then
     (g8 k n o p q t u v c d e f g i j).bind fun d1=>
     bif d1 then
      bif z==13 then
       bif y==(IntKind.i64.wrap ((a.size:Int)+1))then
        bif c1==13 then
         some (b1==(IntKind.i64.wrap ((a.size:Int)+1)))
        else
         some false
       else
        some false
      else
       some false
     else
      some false
    else
     some false
noncomputable def g5 (k:Nat)(a:By):Option R5:=itS Qq k (.e a)
inductive S6 where
 |e (a b:By)(c:Int)
 |h0 (a b:By)(c:Int)(d:Bool)(e:Int)(f:Rs)(g i:Int)(j l:By)(m n:Int)(o:Rs)(p q:Int)(t u:By)(v:Int)
 |h1 (a:By)(b:Int)(c:Rs)(d:Int)(e:Bool)(f:Int)(g:Rs)(i j:Int)(l m:By)(n o:Int)(p:Rs)(q t:Int)(u v:By)(w x:Int)(y:Rs)(z a1:Int)(b1 c1:By)(d1:Int)
abbrev R6:=Bool
noncomputable def qn9 (k:Nat)(rec:S6→Option R6):S6→Option R6
 |.e a b c=>
  (g13 k a).bind fun d=>
  tup9 d fun e f g i j l m _ n=>
  (g13 k b).bind fun o=>
  tup9 o fun p q t u v w x _ y=>
  (g7 k).bind fun z=>
  bif !z then
   rec (.h0 a b c true p q t u v w x e f g i j l m)
  else
   bif n != 0 then
    rec (.h0 a b c true p q t u v w x e f g i j l m)
   else
    bif y != 0 then
     rec (.h0 a b c true p q t u v w x e f g i j l m)
    else
     rec (.h0 a b c (decide ((IntKind.i64.wrap ((a.size:Int)+(b.size:Int)))>3900)) p q t u v w x e f g i j l m)
 |.h0 a b c d e f g i j l m n o p q t u v=>
  bif d then
   (g7 k).bind fun w=>
   some w
  else
   gd (decide ((strB [40]).size+a.size≤1000000000)) <|
   gd (decide (((strB [40])++a).size+(strB [41,32]).size≤1000000000)) <|
   ixR [[sc (strB [43])],[sc (strB [45])],[sc (strB [42])],[sc (strB [47])],[sc (strB [37])],[sc (strB [61])],[sc (strB [33,61])],[sc (strB [60])],[sc (strB [60,61])],[sc (strB [62])],[sc (strB [62,61])],[sc (strB [65,78,68])],[sc (strB [79,82])]] (IntKind.i64.wrap (Int.tmod (IntKind.u64.wrap c) 13)) fun x=>
   un_s x fun y=>
   gd (decide ((((strB [40])++a)++(strB [41,32])).size+y.size≤1000000000)) <|
   gd (decide (((((strB [40])++a)++(strB [41,32]))++y).size+(strB [32,40]).size≤1000000000)) <|
   gd (decide ((((((strB [40])++a)++(strB [41,32]))++y)++(strB [32,40])).size+b.size≤1000000000)) <|
   gd (decide (((((((strB [40])++a)++(strB [41,32]))++y)++(strB [32,40]))++b).size+(strB [41]).size≤1000000000)) <|
   (g13 k (((((((strB [40])++a)++(strB [41,32]))++y)++(strB [32,40]))++b)++(strB [41]))).bind fun z=>
   tup9 z fun a1 b1 c1 d1 e1 f1 g1 _ i1=>
   bif i1==14 then
    rec (.h1 a (IntKind.i64.wrap (Int.tmod (IntKind.u64.wrap c) 13)) [[ic 1],[ic 2],[ic 3],[ic 4],[ic 5],[ic 7],[ic 8],[ic 9],[ic 10],[ic 11],[ic 12],[ic 13],[ic 14]] i1 true a1 b1 c1 d1 e1 f1 g1 e f g i j l m n o p q t u v)
   else
    rec (.h1 a (IntKind.i64.wrap (Int.tmod (IntKind.u64.wrap c) 13)) [[ic 1],[ic 2],[ic 3],[ic 4],[ic 5],[ic 7],[ic 8],[ic 9],[ic 10],[ic 11],[ic 12],[ic 13],[ic 14]] i1 (i1==2) a1 b1 c1 d1 e1 f1 g1 e f g i j l m n o p q t u v)
 |.h1 a b c d e f g _ _ _ _ i j l m n o p q t u v w x y z=>
  bif e then
   bif d==14 then
    some true
   else
    (g10 k t u v w x y z).bind fun a1=>
    (g10 k j l m n o p q).bind fun b1=>
    some (decide ((IntKind.i64.wrap (a1+b1))≥200))
  else
   bif d==0 then
    ixR c b fun c1=>
    un_i c1 fun d1=>
    bif f==d1 then
     bif (g.length:Int)==2 then
      ixR g 0 fun e1=>
      qE e1 fun f1 g1 i1 j1 l1 m1 n1=>
      (g8 k f1 g1 i1 j1 l1 m1 n1 t u v w x y z).bind fun o1=>
      bif o1 then
       ixR g 1 fun p1=>
       qE p1 fun q1 t1 u1 v1 w1 x1 y1=>
       (g8 k q1 t1 u1 v1 w1 x1 y1 j l m n o p q).bind fun z1=>
       bif z1 then
        some (i==(IntKind.i64.wrap ((a.size:Int)+3)))
       else
        some false
      else
       some false
     else
      some false
    else
     some false
   else
    some false
noncomputable def g6 (k:Nat)(a b:By)(c:Int):Option R6:=itS qn9 k (.e a b c)
end Ab
end Go.Proofs.YtfekohpjaafnhaaDoor
