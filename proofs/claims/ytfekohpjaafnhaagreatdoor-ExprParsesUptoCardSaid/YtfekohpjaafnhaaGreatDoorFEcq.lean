/-
  Functions' ways, printed by a program: what each computes, and that this is what the interpreter computes.
-/
import Derived.Test.YtfekohpjaafnhaaGreatDoorFEbq
import Derived.KernelRfl
set_option linter.all false
set_option maxRecDepth 10000
namespace Go.Proofs.YtfekohpjaafnhaaGreatDoor
namespace Ab
variable [vo]
inductive S74 where
 |e (a:Int)
 |h0 (a:Int)(b:By)(c:Int)
 |h1 (a:Int)(b:By)(c:Int)
abbrev R74:=By
def qrW:R74→ARes
 |r=>.ret (.c (sc r))
def bx74:R74→List (List Cell)
 |_=>[]
noncomputable def qpu (k:Nat)(rec:S74→Option R74):S74→Option R74
 |.e a=>
  bif decide (a<0)then
   rec (.h0 a (strB []) (IntKind.u64.wrap ((0:Int)-(IntKind.u64.wrap a))))
  else
   rec (.h0 a (strB []) (IntKind.u64.wrap a))
 |.h0 a b c=>rec (.h1 a b c)
 |.h1 a b c=>
  bif decide (c>9)then
   gd (decide ((qhy [IntKind.u8.wrap (IntKind.u64.wrap ((48:Int)+(Int.tmod c 10)))]).size+b.size≤1000000000)) <|
   rec (.h1 a ((qhy [IntKind.u8.wrap (IntKind.u64.wrap ((48:Int)+(Int.tmod c 10)))])++b) (IntKind.u64.wrap (Int.tdiv c 10)))
  else
   gd (decide ((qhy [IntKind.u8.wrap (IntKind.u64.wrap ((48:Int)+c))]).size+b.size≤1000000000)) <|
   bif decide (a<0)then
    gd (decide ((strB [45]).size+((qhy [IntKind.u8.wrap (IntKind.u64.wrap ((48:Int)+c))])++b).size≤1000000000)) <|
    some ((strB [45])++((qhy [IntKind.u8.wrap (IntKind.u64.wrap ((48:Int)+c))])++b))
   else
    some ((qhy [IntKind.u8.wrap (IntKind.u64.wrap ((48:Int)+c))])++b)
noncomputable def g74 (k:Nat)(a:Int):Option R74:=itS qpu k (.e a)
noncomputable def P74:S74→R74→Prop
 |.e a,r=>Fin cx74 Tryz.f74 [.code qrg] (fr0 Tryz.f74 [.c (ic a)] []) (qrW r) (bx74 r)
 |.h0 a b c,r=>Fin cx74 Tryz.f74 (kAt qrg [1,1,1,2] []) ⟨[.c (ic a),.deadv,.deadv,.c (sc b),.c (.val (.int .u64 c))]++rep 30 .deadv,[]⟩ (qrW r) (bx74 r)
 |.h1 a b c,r=>Fin cx74 Tryz.f74 (kAt qrg [1,1,1,0,0,4] []) ⟨[.c (ic a),.deadv,.deadv,.c (sc b),.c (.val (.int .u64 c))]++rep 30 .deadv,[]⟩ (qrW r) (bx74 r)
abbrev E74 (a:Int)(r:R74):Prop:=Ev Tryz.prog noHand 74 [.c (ic a)] [] (qrW r) (bx74 r)
theorem quy {a:Int}{r:R74}(h:P74 (.e a) r):E74 a r:=evF h
theorem ok74:∀ k s r,itS qpu k s=some r→P74 s r:=qF fun k rec ih s r h=>match s,h with
 |.e ..,h=>by
  rcases qa h with⟨a,h⟩|⟨a,h⟩
  · exact mA 0 (ih _ _ h) 9 [tT 8 a] 35 34359738342
  · exact mA 0 (ih _ _ h) 9 [tF 8 a] 35 34359738342
 |.h0 ..,h=>by exact mA 0 (ih _ _ h) 3 [] 35 34359738342
 |.h1 ..,h=>by
  rcases qa h with⟨a,h⟩|⟨a,h⟩
  · obtain⟨b,h⟩:=zo h;exact mA 0 (ih _ _ h) 11 [tT 12 a,xC 20 b] 35 34359738342
  · obtain⟨b,h⟩:=zo h;rcases qa h with⟨c,h⟩|⟨c,h⟩
    · obtain⟨d,h⟩:=zo h;cases h;exact mF 0 [tF 12 a,xC 29 b,tT 31 c,xC 33 d]
    · cases h;exact mF 0 [tF 12 a,xC 29 b,tF 31 c]
theorem ev74 {k:Nat}{a:Int}{r:R74}(h:g74 k a=some r):E74 a r:=quy (ok74 _ _ _ h)
inductive S66 where
 |e (a:By)
 |h0 (a b:By)(c:Bool)
 |h1 (a b:By)
 |h2 (a b:By)(c d:Int)
 |h3 (a b:By)(c d:Int)(e:Bool)
 |h4 (a b:By)(c:Int)
abbrev R66:=Int×Bool
def qqB:R66→ARes
 |(a,b)=>.ret ⟨.tup [false,false],[[ic a],[bc b]]⟩
def bx66:R66→List (List Cell)
 |(_,_)=>[]
noncomputable def qo4 (k:Nat)(rec:S66→Option R66):S66→Option R66
 |.e a=>
  bif decide ((a.size:Int)>0)then
   sxI a 0 fun b=>
   rec (.h0 a a (b==45))
  else
   rec (.h0 a a false)
 |.h0 a b c=>
  bif c then
   gd (decide (0≤(1:Int)∧(1:Int)≤(b.size:Int)∧(b.size:Int)≤(b.size:Int))) <|
   rec (.h1 a (b.extract (Int.toNat (1:Int)) (Int.toNat (b.size:Int))))
  else
   rec (.h1 a b)
 |.h1 a b=>rec (.h2 a b 0 0)
 |.h2 a b c d=>
  bif decide (d<(b.size:Int))then
   sxI b d fun e=>
   (g41 k e).bind fun f=>
   bif !f then
    rec (.h3 a b c d true)
   else
    rec (.h3 a b c d (decide (d>18)))
  else
   bif decide ((b.size:Int)<(a.size:Int))then
    rec (.h4 a b (IntKind.i64.wrap ((0:Int)-(IntKind.i64.wrap c))))
   else
    rec (.h4 a b (IntKind.i64.wrap c))
 |.h3 a b c d e=>
  bif e then
   some (0,false)
  else
   sxI b d fun f=>
   rec (.h2 a b (IntKind.u64.wrap ((IntKind.u64.wrap ((10:Int)*c))+(IntKind.u64.wrap (IntKind.u8.wrap (f-48))))) (IntKind.i64.wrap (d+1)))
 |.h4 a b c=>
  bif decide ((b.size:Int)>0)then
   (g74 k c).bind fun d=>
   some (c,d.toList==a.toList)
  else
   some (c,false)
noncomputable def g66 (k:Nat)(a:By):Option R66:=itS qo4 k (.e a)
noncomputable def P66:S66→R66→Prop
 |.e a,r=>Fin cx66 Tryz.f66 [.code qpZ] (fr0 Tryz.f66 [.c (sc a)] []) (qqB r) (bx66 r)
 |.h0 a b c,r=>Fin cx66 Tryz.f66 (kAt qpZ [1,1,0,1,2] []) ⟨[.c (sc a)]++rep 3 .deadv++[.c (sc b)]++rep 11 .deadv++[.c (bc c)]++rep 44 .deadv,[]⟩ (qqB r) (bx66 r)
 |.h1 a b,r=>Fin cx66 Tryz.f66 (kAt qpZ [1,1,1,2] []) ⟨[.c (sc a)]++rep 3 .deadv++[.c (sc b)]++rep 56 .deadv,[]⟩ (qqB r) (bx66 r)
 |.h2 a b c d,r=>Fin cx66 Tryz.f66 (kAt qpZ [1,1,1,1,0,1,0,4] []) ⟨[.c (sc a)]++rep 3 .deadv++[.c (sc b),.c (.val (.int .u64 c)),.c (ic d)]++rep 54 .deadv,[]⟩ (qqB r) (bx66 r)
 |.h3 a b c d e,r=>Fin cx66 Tryz.f66 (kAt qpZ [1,1,1,1,0,1,0,0,1,0,0,0,1,2] []) ⟨[.c (sc a)]++rep 3 .deadv++[.c (sc b),.c (.val (.int .u64 c)),.c (ic d)]++rep 26 .deadv++[.c (bc e)]++rep 27 .deadv,[]⟩ (qqB r) (bx66 r)
 |.h4 a b c,r=>Fin cx66 Tryz.f66 (kAt qpZ [1,1,1,1,1,1,1,2] []) ⟨[.c (sc a)]++rep 3 .deadv++[.c (sc b),.deadv,.deadv,.c (ic c)]++rep 53 .deadv,[]⟩ (qqB r) (bx66 r)
abbrev E66 (a:By)(r:R66):Prop:=Ev Tryz.prog noHand 66 [.c (sc a)] [] (qqB r) (bx66 r)
theorem qut {a:By}{r:R66}(h:P66 (.e a) r):E66 a r:=evF h
theorem ok66:∀ k s r,itS qo4 k s=some r→P66 s r:=qF fun k rec ih s r h=>match s,h with
 |.e ..,h=>by
  rcases qa h with⟨a,h⟩|⟨a,h⟩
  · obtain⟨_,b,h⟩:=Xm h;exact mA 0 (ih _ _ h) 7 [tT 11 a,sA 14 b] 61 2305843009213628398
  · exact mA 0 (ih _ _ h) 7 [tF 11 a] 61 2305843009213628398
 |.h0 ..,h=>by
  replace h:=qa h;rcases h with⟨rfl,h⟩|⟨rfl,h⟩
  · obtain⟨a,h⟩:=zo h;exact mA 0 (ih _ _ h) 2 [xS 18 a] 61 2305843009213693934
  · exact mA 0 (ih _ _ h) 2 [] 61 2305843009213693934
 |.h1 ..,h=>by exact mA 0 (ih _ _ h) 7 [] 61 2305843009213693838
 |.h2 ..,h=>by
  rcases qa h with⟨a,h⟩|⟨a,h⟩
  · obtain⟨_,b,h⟩:=Xm h;obtain⟨_,c,h⟩:=qh h;rcases qa h with⟨d,h⟩|⟨d,h⟩
    · exact mA 0 (ih _ _ h) 11 [tT 22 a,sA 27 b,cA 28 (ev41 c),tT 29 d] 61 2305843000623759246
    · exact mA 0 (ih _ _ h) 11 [tT 22 a,sA 27 b,cA 28 (ev41 c),tF 29 d] 61 2305843000623759246
  · rcases qa h with⟨e,h⟩|⟨e,h⟩
    · exact mA 0 (ih _ _ h) 13 [tF 22 a,tT 48 e] 61 2305843009213693806
    · exact mA 0 (ih _ _ h) 13 [tF 22 a,tF 48 e] 61 2305843009213693806
 |.h3 ..,h=>by
  replace h:=qa h;rcases h with⟨rfl,h⟩|⟨rfl,h⟩
  · cases h;exact mF 0 []
  · obtain⟨_,a,h⟩:=Xm h;exact mA 0 (ih _ _ h) 5 [sA 38 a] 61 2305843009213693838
 |.h4 ..,h=>by
  rcases qa h with⟨a,h⟩|⟨a,h⟩
  · obtain⟨_,b,h⟩:=qh h;cases h;exact mF 0 [tT 54 a,cA 57 (ev74 b)]
  · cases h;exact mF 0 [tF 54 a]
theorem ev66 {k:Nat}{a:By}{r:R66}(h:g66 k a=some r):E66 a r:=qut (ok66 _ _ _ h)
inductive S42 where
 |e (a:By)(b:Int)
 |h0 (a:By)(b c:Int)(d:By)(e:Int)(f:Bool)(g:Int)(i:By)(j l m:Int)
 |h1 (a:By)(b c:Int)(d:By)(e f:Int)(g:By)(i j l:Int)
 |h2 (a:By)(b c:Int)(d:By)(e:Int)(f:Bool)(g:Int)(i:By)(j l m:Int)
 |h3 (a b c:Int)(d:Rs)(e f g:Int)(i:By)(j l m:Int)
abbrev R42:=Int×By×Int×Int×Int×Int
def qls:R42→ARes
 |(a,b,c,d,e,f)=>.ret ⟨.tup [true,false],[[ic a,sc b,ic c,ic d,ic e],[ic f]]⟩
def bx42:R42→List (List Cell)
 |(_,_,_,_,_,_)=>[]
noncomputable def qd3 (k:Nat)(rec:S42→Option R42):S42→Option R42
 |.e a b=>
  (g38 k a b false).bind fun c=>
  gd (decide (0≤b∧b≤(IntKind.i64.wrap (b+c))∧(IntKind.i64.wrap (b+c))≤(a.size:Int))) <|
  bif decide ((IntKind.i64.wrap (b+c))<(a.size:Int))then
   sxI a (IntKind.i64.wrap (b+c)) fun d=>
   rec (.h0 a b c (a.extract (Int.toNat b) (Int.toNat (IntKind.i64.wrap (b+c)))) 0 (d==46) 0 (strB []) 0 0 0)
  else
   rec (.h0 a b c (a.extract (Int.toNat b) (Int.toNat (IntKind.i64.wrap (b+c)))) 0 false 0 (strB []) 0 0 0)
 |.h0 a b c d e f g i j l m=>
  bif f then
   (g38 k a (IntKind.i64.wrap ((IntKind.i64.wrap (b+c))+1)) false).bind fun n=>
   rec (.h1 a b c d n g i j l m)
  else
   rec (.h1 a b c d e g i j l m)
 |.h1 a b c d e f g i j l=>
  bif decide (c>1)then
   sxI d 0 fun m=>
   bif m==48 then
    rec (.h2 a b c d e true f g i j l)
   else
    bif e==0 then
     bif decide (c>19)then
      rec (.h2 a b c d e true f g i j l)
     else
      rec (.h2 a b c d e false f g i j l)
    else
     bif decide (e>0)then
      rec (.h2 a b c d e (decide ((IntKind.i64.wrap (c+e))>15)) f g i j l)
     else
      rec (.h2 a b c d e false f g i j l)
  else
   bif e==0 then
    bif decide (c>19)then
     rec (.h2 a b c d e true f g i j l)
    else
     rec (.h2 a b c d e false f g i j l)
   else
    bif decide (e>0)then
     rec (.h2 a b c d e (decide ((IntKind.i64.wrap (c+e))>15)) f g i j l)
    else
     rec (.h2 a b c d e false f g i j l)
 |.h2 a b c d e f g i j l m=>
  bif f then
   some (0,strB [],0,0,0,0)
  else
   bif e==0 then
    (g66 k d).bind fun n=>
    tup2 n fun o p=>
    bif !p then
     some (0,strB [],0,0,0,0)
    else
     some (3,strB [],o,0,0,c)
   else
    gd (decide (0≤(IntKind.i64.wrap ((IntKind.i64.wrap (b+c))+1))∧(IntKind.i64.wrap ((IntKind.i64.wrap (b+c))+1))≤(IntKind.i64.wrap ((IntKind.i64.wrap ((IntKind.i64.wrap (b+c))+1))+e))∧(IntKind.i64.wrap ((IntKind.i64.wrap ((IntKind.i64.wrap (b+c))+1))+e))≤(a.size:Int))) <|
    gd (decide (d.size+(a.extract (Int.toNat (IntKind.i64.wrap ((IntKind.i64.wrap (b+c))+1))) (Int.toNat (IntKind.i64.wrap ((IntKind.i64.wrap ((IntKind.i64.wrap (b+c))+1))+e)))).size≤1000000000)) <|
    rec (.h3 c e 0 (yH (d++(a.extract (Int.toNat (IntKind.i64.wrap ((IntKind.i64.wrap (b+c))+1))) (Int.toNat (IntKind.i64.wrap ((IntKind.i64.wrap ((IntKind.i64.wrap (b+c))+1))+e)))))) ((yH (d++(a.extract (Int.toNat (IntKind.i64.wrap ((IntKind.i64.wrap (b+c))+1))) (Int.toNat (IntKind.i64.wrap ((IntKind.i64.wrap ((IntKind.i64.wrap (b+c))+1))+e)))))).length:Int) 0 g i j l m)
 |.h3 a b c d e f g i j l m=>
  bif decide (f<e)then
   ixR d f fun n=>
   un_y n fun o=>
   rec (.h3 a b (IntKind.i64.wrap ((IntKind.i64.wrap ((10:Int)*c))+(IntKind.i64.wrap (IntKind.u8.wrap (o-48))))) d e (IntKind.i64.wrap (f+1)) g i j l m)
  else
   some (4,strB [],c,b,0,IntKind.i64.wrap ((IntKind.i64.wrap (a+1))+b))
noncomputable def g42 (k:Nat)(a:By)(b:Int):Option R42:=itS qd3 k (.e a b)
noncomputable def P42:S42→R42→Prop
 |.e a b,r=>Fin cx42 Tryz.f42 [.code qj1] (fr0 Tryz.f42 [.c (sc a),.c (ic b)] []) (qls r) (bx42 r)
 |.h0 a b c d e f g i j l m,r=>Fin cx42 Tryz.f42 (kAt qj1 [1,1,1,1,0,1,2] []) ⟨[.c (sc a),.c (ic b),.deadv,.deadv,pL 4,.deadv,.c (ic c),.c (sc d),.c (ic e)]++rep 27 .deadv++[.c (bc f)]++rep 79 .deadv,[(.loc 4,[ic g,sc i,ic j,ic l,ic m])]⟩ (qls r) (bx42 r)
 |.h1 a b c d e f g i j l,r=>Fin cx42 Tryz.f42 (kAt qj1 [1,1,1,1,1,2] []) ⟨[.c (sc a),.c (ic b),.deadv,.deadv,pL 4,.deadv,.c (ic c),.c (sc d),.c (ic e)]++rep 107 .deadv,[(.loc 4,[ic f,sc g,ic i,ic j,ic l])]⟩ (qls r) (bx42 r)
 |.h2 a b c d e f g i j l m,r=>Fin cx42 Tryz.f42 (kAt qj1 [1,1,1,1,1,0,1,2] []) ⟨[.c (sc a),.c (ic b),.deadv,.deadv,pL 4,.deadv,.c (ic c),.c (sc d),.c (ic e)]++rep 58 .deadv++[.c (bc f)]++rep 48 .deadv,[(.loc 4,[ic g,sc i,ic j,ic l,ic m])]⟩ (qls r) (bx42 r)
 |.h3 a b c d e f g i j l m,r=>Fin cx42 Tryz.f42 (kAt qj1 [1,1,1,1,1,1,1,1,0,1,0,4] []) ⟨rep 4 .deadv++[pL 4,.deadv,.c (ic a),.deadv,.c (ic b),.deadv,.deadv,.c (ic c)]++rep 84 .deadv++[.c (.imm d),.c (ic e),.c (ic f)]++rep 17 .deadv,[(.loc 4,[ic g,sc i,ic j,ic l,ic m])]⟩ (qls r) (bx42 r)
abbrev E42 (a:By)(b:Int)(r:R42):Prop:=Ev Tryz.prog noHand 42 [.c (sc a),.c (ic b)] [] (qls r) (bx42 r)
theorem qoc {a:By}{b:Int}{r:R42}(h:P42 (.e a b) r):E42 a b r:=evF h
theorem ok42:∀ k s r,itS qd3 k s=some r→P42 s r:=qF fun k rec ih s r h=>match s,h with
 |.e ..,h=>by
  obtain⟨_,a,h⟩:=qh h;obtain⟨b,h⟩:=zo h;rcases qa h with⟨c,h⟩|⟨c,h⟩
  · obtain⟨_,d,h⟩:=Xm h;exact mA 0 (ih _ _ h) 11 [cA 16 (ev38 a),xS 22 b,tT 28 c,sA 34 d] 116 83076749736557242056487872548044332
  · exact mA 0 (ih _ _ h) 11 [cA 16 (ev38 a),xS 22 b,tF 28 c] 116 83076749736557242056487872548044332
 |.h0 ..,h=>by
  replace h:=qa h;rcases h with⟨rfl,h⟩|⟨rfl,h⟩
  · obtain⟨_,a,h⟩:=qh h;exact mA 0 (ih _ _ h) 2 [cA 42 (ev38 a)] 116 83076749736557242056487941267521068
  · exact mA 0 (ih _ _ h) 2 [] 116 83076749736557242056487941267521068
 |.h1 _ _ _ _ a ..,h=>by
  rcases qa h with⟨b,h⟩|⟨b,h⟩
  ·
   obtain⟨_,c,h⟩:=Xm h;rcases qa h with⟨d,h⟩|⟨d,h⟩
   · exact mA 0 (ih _ _ h) 3 [tT 44 b,sA 47 c,tT 48 d] 116 83076749736557094482535351591108140
   ·
    rcases qa h with⟨e,h⟩|⟨e,h⟩
    · rcases qa h with⟨f,h⟩|⟨f,h⟩
      · exact mA 0 (ih _ _ h) 3 [tT 44 b,sA 47 c,tF 48 d,tT 52 e,tT 55 f] 116 83076749736557094482535351591108140
      · exact mA 0 (ih _ _ h) 3 [tT 44 b,sA 47 c,tF 48 d,tT 52 e,tF 55 f,tF 60 (show(decide (a>0))=false from by rw[eq_of_beq e];rfl)] 116 83076749736557094482535351591108140
    · rcases qa h with⟨f,h⟩|⟨f,h⟩
      · exact mA 0 (ih _ _ h) 3 [tT 44 b,sA 47 c,tF 48 d,tF 52 e,tT 60 f] 116 83076749736557094482535351591108140
      · exact mA 0 (ih _ _ h) 3 [tT 44 b,sA 47 c,tF 48 d,tF 52 e,tF 60 f] 116 83076749736557094482535351591108140
  ·
   rcases qa h with⟨g,h⟩|⟨g,h⟩
   · rcases qa h with⟨c,h⟩|⟨c,h⟩
     · exact mA 0 (ih _ _ h) 3 [tF 44 b,tT 52 g,tT 55 c] 116 83076749736557094482535351591108140
     · exact mA 0 (ih _ _ h) 3 [tF 44 b,tT 52 g,tF 55 c,tF 60 (show(decide (a>0))=false from by rw[eq_of_beq g];rfl)] 116 83076749736557094482535351591108140
   · rcases qa h with⟨c,h⟩|⟨c,h⟩
     · exact mA 0 (ih _ _ h) 3 [tF 44 b,tF 52 g,tT 60 c] 116 83076749736557094482535351591108140
     · exact mA 0 (ih _ _ h) 3 [tF 44 b,tF 52 g,tF 60 c] 116 83076749736557094482535351591108140
 |.h2 ..,h=>by
  replace h:=qa h;rcases h with⟨rfl,h⟩|⟨rfl,h⟩
  · cases h;exact mF 0 []
  ·
   rcases qa h with⟨a,h⟩|⟨a,h⟩
   · obtain⟨_,b,h⟩:=b2 h;rcases qa h with⟨c,h⟩|⟨c,h⟩
     · cases h;exact mF 0 [tT 70 a,cA 73 (ev66 b),tT 77 c]
     · cases h;exact mF 0 [tT 70 a,cA 73 (ev66 b),tF 77 c]
   · obtain⟨d,h⟩:=zo h;obtain⟨b,h⟩:=zo h;exact mA 0 (ih _ _ h) 14 [tF 70 a,xS 94 d,xC 95 b] 116 83076195139419642206124786459866799
 |.h3 ..,h=>by
  rcases qa h with⟨a,h⟩|⟨a,h⟩
  · obtain⟨_,b,h⟩:=YJ h;replace h:=qsN h;obtain⟨_,rfl,h⟩:=h;exact mA 0 (ih _ _ h) 13 [tT 99 a,rA 100 b] 116 83076195139419642206124786459866799
  · cases h;exact mF 0 [tF 99 a]
theorem ev42 {k:Nat}{a:By}{b:Int}{r:R42}(h:g42 k a b=some r):E42 a b r:=qoc (ok42 _ _ _ h)
inductive S22 where
 |e (a:By)(b:Int)
 |h0 (a:Int)(b:By)(c:Bool)(d:Int)(e:By)(f g i:Int)
 |h1 (a:By)(b:Int)(c:Rs)(d e f:Int)(g:By)(i j l:Int)
 |h2 (a:By)(b:Int)(c:By)(d:Rs)(e f:Int)(g:Bool)(i:Int)(j:By)(l m n:Int)
abbrev R22:=Int×By×Int×Int×Int×Int
def qmv:R22→ARes
 |(a,b,c,d,e,f)=>.ret ⟨.tup [true,false],[[ic a,sc b,ic c,ic d,ic e],[ic f]]⟩
def bx22:R22→List (List Cell)
 |(_,_,_,_,_,_)=>[]
noncomputable def qb (k:Nat)(rec:S22→Option R22):S22→Option R22
 |.e a b=>
  sxI a b fun c=>
  (g37 k c).bind fun d=>
  bif d then
   (g38 k a b true).bind fun e=>
   gd (decide (0≤b∧b≤(IntKind.i64.wrap (b+e))∧(IntKind.i64.wrap (b+e))≤(a.size:Int))) <|
   (g39 k (a.extract (Int.toNat b) (Int.toNat (IntKind.i64.wrap (b+e))))).bind fun f=>
   bif f then
    some (1,(a.extract (Int.toNat b) (Int.toNat (IntKind.i64.wrap (b+e)))),0,0,0,e)
   else
    (g40 k (a.extract (Int.toNat b) (Int.toNat (IntKind.i64.wrap (b+e))))).bind fun g=>
    bif g then
     some (2,(a.extract (Int.toNat b) (Int.toNat (IntKind.i64.wrap (b+e)))),0,0,0,e)
    else
     some (0,strB [],0,0,0,0)
  else
   (g41 k c).bind fun e=>
   bif e then
    (g42 k a b).bind fun i=>
    tup6 i fun j l m n o p=>
    some (j,l,m,n,o,p)
   else
    bif c==39 then
     (g38 k a (IntKind.i64.wrap (b+1)) true).bind fun f=>
     gd (decide (0≤(IntKind.i64.wrap (b+1))∧(IntKind.i64.wrap (b+1))≤(IntKind.i64.wrap ((IntKind.i64.wrap (b+1))+f))∧(IntKind.i64.wrap ((IntKind.i64.wrap (b+1))+f))≤(a.size:Int))) <|
     (g40 k (a.extract (Int.toNat (IntKind.i64.wrap (b+1))) (Int.toNat (IntKind.i64.wrap ((IntKind.i64.wrap (b+1))+f))))).bind fun q=>
     bif !q then
      rec (.h0 f (a.extract (Int.toNat (IntKind.i64.wrap (b+1))) (Int.toNat (IntKind.i64.wrap ((IntKind.i64.wrap (b+1))+f)))) true 0 (strB []) 0 0 0)
     else
      bif decide ((IntKind.i64.wrap ((IntKind.i64.wrap (b+1))+f))≥(a.size:Int))then
       rec (.h0 f (a.extract (Int.toNat (IntKind.i64.wrap (b+1))) (Int.toNat (IntKind.i64.wrap ((IntKind.i64.wrap (b+1))+f)))) true 0 (strB []) 0 0 0)
      else
       sxI a (IntKind.i64.wrap ((IntKind.i64.wrap (b+1))+f)) fun t=>
       rec (.h0 f (a.extract (Int.toNat (IntKind.i64.wrap (b+1))) (Int.toNat (IntKind.i64.wrap ((IntKind.i64.wrap (b+1))+f)))) (t != 39) 0 (strB []) 0 0 0)
    else
     rec (.h1 a b [[sc (strB [33,61])],[sc (strB [60,61])],[sc (strB [62,61])],[sc (strB [40])],[sc (strB [41])],[sc (strB [44])],[sc (strB [46])],[sc (strB [43])],[sc (strB [45])],[sc (strB [42])],[sc (strB [47])],[sc (strB [37])],[sc (strB [61])],[sc (strB [60])],[sc (strB [62])],[sc (strB [33])],[sc (strB [124])]] 17 0 0 (strB []) 0 0 0)
 |.h0 a b c ..=>
  bif c then
   some (0,strB [],0,0,0,0)
  else
   some (5,b,0,0,0,IntKind.i64.wrap (a+2))
 |.h1 a b c d e f g i j l=>
  bif decide (e<d)then
   ixR c e fun m=>
   un_s m fun n=>
   bif decide ((IntKind.i64.wrap (b+(n.size:Int)))≤(a.size:Int))then
    gd (decide (0≤b∧b≤(IntKind.i64.wrap (b+(n.size:Int)))∧(IntKind.i64.wrap (b+(n.size:Int)))≤(a.size:Int))) <|
    rec (.h2 a b n c d e ((a.extract (Int.toNat b) (Int.toNat (IntKind.i64.wrap (b+(n.size:Int))))).toList==n.toList) f g i j l)
   else
    rec (.h2 a b n c d e false f g i j l)
  else
   some (0,strB [],0,0,0,0)
 |.h2 a b c d e f g i j l m n=>
  bif g then
   some (6,c,0,0,0,(c.size:Int))
  else
   rec (.h1 a b d e (IntKind.i64.wrap (f+1)) i j l m n)
noncomputable def g22 (k:Nat)(a:By)(b:Int):Option R22:=itS qb k (.e a b)
noncomputable def P22:S22→R22→Prop
 |.e a b,r=>Fin cx22 Tryz.f22 [.code qh1] (fr0 Tryz.f22 [.c (sc a),.c (ic b)] []) (qmv r) (bx22 r)
 |.h0 a b c d e f g i,r=>Fin cx22 Tryz.f22 (kAt qh1 [1,1,1,1,0,1,0,1,1,0,1,2] []) ⟨rep 4 .deadv++[pL 4]++rep 4 .deadv++[.c (ic a),.c (sc b)]++rep 68 .deadv++[.c (bc c)]++rep 35 .deadv,[(.loc 4,[ic d,sc e,ic f,ic g,ic i])]⟩ (qmv r) (bx22 r)
 |.h1 a b c d e f g i j l,r=>Fin cx22 Tryz.f22 (kAt qh1 [1,1,1,1,1,0,1,0,4] []) ⟨[.c (sc a),.c (ic b),.deadv,.deadv,pL 4]++rep 80 .deadv++[.c (.own 1 c),.c (ic d),.c (ic e)]++rep 27 .deadv,[(.loc 4,[ic f,sc g,ic i,ic j,ic l])]⟩ (qmv r) (bx22 r)
 |.h2 a b c d e f g i j l m n,r=>Fin cx22 Tryz.f22 (kAt qh1 [1,1,1,1,1,0,1,0,0,1,1,0,0,1,1,2] []) ⟨[.c (sc a),.c (ic b),.deadv,.deadv,pL 4]++rep 7 .deadv++[.c (sc c)]++rep 72 .deadv++[.c (.own 1 d),.c (ic e),.c (ic f)]++rep 20 .deadv++[.c (bc g)]++rep 6 .deadv,[(.loc 4,[ic i,sc j,ic l,ic m,ic n])]⟩ (qmv r) (bx22 r)
abbrev E22 (a:By)(b:Int)(r:R22):Prop:=Ev Tryz.prog noHand 22 [.c (sc a),.c (ic b)] [] (qmv r) (bx22 r)
theorem qdN {a:By}{b:Int}{r:R22}(h:P22 (.e a b) r):E22 a b r:=evF h
theorem ok22:∀ k s r,itS qb k s=some r→P22 s r:=qF fun k rec ih s r h=>match s,h with
 |.e ..,h=>by
  obtain⟨_,a,h⟩:=Xm h;obtain⟨_,b,h⟩:=qh h;replace h:=qa h;rcases h with⟨rfl,h⟩|⟨rfl,h⟩
  ·
   obtain⟨_,c,h⟩:=qh h;obtain⟨d,h⟩:=zo h;obtain⟨_,e,h⟩:=qh h;replace h:=qa h;rcases h with⟨rfl,h⟩|⟨rfl,h⟩
   · cases h;exact mF 0 [sA 15 a,cA 17 (ev37 b),cA 20 (ev38 c),xS 26 d,cA 28 (ev39 e)]
   · obtain⟨_,f,h⟩:=qh h;replace h:=qa h;rcases h with⟨rfl,h⟩|⟨rfl,h⟩
     · cases h;exact mF 0 [sA 15 a,cA 17 (ev37 b),cA 20 (ev38 c),xS 26 d,cA 28 (ev39 e),cA 33 (ev40 f)]
     · cases h;exact mF 0 [sA 15 a,cA 17 (ev37 b),cA 20 (ev38 c),xS 26 d,cA 28 (ev39 e),cA 33 (ev40 f)]
  ·
   obtain⟨_,c,h⟩:=qh h;replace h:=qa h;rcases h with⟨rfl,h⟩|⟨rfl,h⟩
   · obtain⟨_,g,h⟩:=b6 h;cases h;exact mF 0 [sA 15 a,cA 17 (ev37 b),cA 39 (ev41 c),cA 42 (ev42 g)]
   ·
    rcases qa h with⟨d,h⟩|⟨d,h⟩
    ·
     obtain⟨_,e,h⟩:=qh h;obtain⟨i,h⟩:=zo h;obtain⟨_,j,h⟩:=qh h;rcases qa h with⟨l,h⟩|⟨l,h⟩
     · exact mA 0 (ih _ _ h) 25 [sA 15 a,cA 17 (ev37 b),cA 39 (ev41 c),tT 46 d,cA 50 (ev38 e),xS 58 i,cA 60 (ev40 j),tT 61 l] 115 41538374867674158118436656046406127
     · rcases qa h with⟨m,h⟩|⟨m,h⟩
       · exact mA 0 (ih _ _ h) 25 [sA 15 a,cA 17 (ev37 b),cA 39 (ev41 c),tT 46 d,cA 50 (ev38 e),xS 58 i,cA 60 (ev40 j),tF 61 l,tT 69 m] 115 41538374867674158118436656046406127
       · obtain⟨_,n,h⟩:=Xm h;exact mA 0 (ih _ _ h) 25 [sA 15 a,cA 17 (ev37 b),cA 39 (ev41 c),tT 46 d,cA 50 (ev38 e),xS 58 i,cA 60 (ev40 j),tF 61 l,tF 69 m,sA 77 n] 115 41538374867674158118436656046406127
    · exact mA 0 (ih _ _ h) 24 [sA 15 a,cA 17 (ev37 b),cA 39 (ev41 c),tF 46 d] 115 41538374597479237434567035499577324
 |.h0 ..,h=>by
  replace h:=qa h;rcases h with⟨rfl,h⟩|⟨rfl,h⟩
  · cases h;exact mF 0 []
  · cases h;exact mF 0 []
 |.h1 ..,h=>by
  rcases qa h with⟨a,h⟩|⟨a,h⟩
  · obtain⟨_,b,h⟩:=YJ h;replace h:=qkP h;obtain⟨c,rfl,h⟩:=h;rcases qa h with⟨d,h⟩|⟨d,h⟩
    · obtain⟨e,h⟩:=zo h;exact mA 0 (ih _ _ h) 12 [tT 88 a,⟨(some 89,.bnd),[_],⟨qot b,trivial⟩⟩,⟨(some 90,.ld [sc c]),[_],⟨b.2,trivial⟩⟩,tT 97 d,xS 105 e] 115 41213856043820810707783879478996972
    · exact mA 0 (ih _ _ h) 12 [tT 88 a,⟨(some 89,.bnd),[_],⟨qot b,trivial⟩⟩,⟨(some 90,.ld [sc c]),[_],⟨b.2,trivial⟩⟩,tF 97 d] 115 41213856043820810707783879478996972
  · cases h;exact mF 0 [tF 88 a]
 |.h2 ..,h=>by
  replace h:=qa h;rcases h with⟨rfl,h⟩|⟨rfl,h⟩
  · cases h;exact mF 0 []
  · exact mA 0 (ih _ _ h) 4 [] 115 41538374597479237434567035499577324
theorem ev22 {k:Nat}{a:By}{b:Int}{r:R22}(h:g22 k a b=some r):E22 a b r:=qdN (ok22 _ _ _ h)
inductive S11 where
 |e (a:By)
 |h0 (a:Rs)(b c:Int)
 |h1 (a:By)(b:Rs)(c:Int)
 |h2 (a:By)(b:Rs)(c:Int)
 |h3 (a:By)(b:Rs)(c:Int)(d:Bool)
 |h4 (a:Rs)(b c:Int)
 |h5 (a:Rs)(b c:Int)
abbrev R11:=Rs×Int×Int
def qqk:R11→ARes
 |(a,b,c)=>.ret ⟨.tup [false,false,false],[[.own 5 a],[ic b],[ic c]]⟩
def bx11:R11→List (List Cell)
 |(_,_,_)=>[]
noncomputable def ql7 (k:Nat)(rec:S11→Option R11):S11→Option R11
 |.e a=>
  bif decide ((a.size:Int)>4000)then
   rec (.h0 [] 0 2)
  else
   rec (.h1 a [] 0)
 |.h0 a b c=>some (a,b,c)
 |.h1 a b c=>rec (.h2 a b c)
 |.h2 a b c=>
  bif decide (c<(a.size:Int))then
   sxI a c fun d=>
   (g21 k d).bind fun e=>
   rec (.h3 a b c e)
  else
   rec (.h3 a b c false)
 |.h3 a b c d=>
  bif d then
   rec (.h2 a b (IntKind.i64.wrap (c+1)))
  else
   bif c==(a.size:Int)then
    gd (apOk 48 5 b [[ic 0,sc (strB []),ic 0,ic 0,ic c]]) <|
    rec (.h4 (b++[[ic 0,sc (strB []),ic 0,ic 0,ic c]]) 0 0)
   else
    (g22 k a c).bind fun e=>
    tup6 e fun f g i j _ l=>
    bif l==0 then
     rec (.h5 [] c 12)
    else
     gd (apOk 48 5 b [[ic f,sc g,ic i,ic j,ic c]]) <|
     rec (.h1 a (b++[[ic f,sc g,ic i,ic j,ic c]]) (IntKind.i64.wrap (c+l)))
 |.h4 a b c=>some (a,b,c)
 |.h5 a b c=>some (a,b,c)
noncomputable def g11 (k:Nat)(a:By):Option R11:=itS ql7 k (.e a)
noncomputable def P11:S11→R11→Prop
 |.e a,r=>Fin cx11 Tryz.f11 [.code qpS] (fr0 Tryz.f11 [.c (sc a)] []) (qqk r) (bx11 r)
 |.h0 a b c,r=>Fin cx11 Tryz.f11 (kAt qpS [1,0,1,0,1,2] []) ⟨[.deadv,.deadv,.c (.own 5 a),.c (ic b),.c (ic c)]++rep 46 .deadv,[]⟩ (qqk r) (bx11 r)
 |.h1 a b c,r=>Fin cx11 Tryz.f11 (kAt qpS [1,1,1,1,0,4] []) ⟨[.c (sc a)]++rep 4 .deadv++[.c (.own 5 b),.c (ic c)]++rep 44 .deadv,[]⟩ (qqk r) (bx11 r)
 |.h2 a b c,r=>Fin cx11 Tryz.f11 (kAt qpS [1,1,1,1,0,0,0,0,0,4] []) ⟨[.c (sc a)]++rep 4 .deadv++[.c (.own 5 b),.c (ic c)]++rep 44 .deadv,[]⟩ (qqk r) (bx11 r)
 |.h3 a b c d,r=>Fin cx11 Tryz.f11 (kAt qpS [1,1,1,1,0,0,0,0,0,0,0,1,2] []) ⟨[.c (sc a)]++rep 4 .deadv++[.c (.own 5 b),.c (ic c)]++rep 14 .deadv++[.c (bc d)]++rep 29 .deadv,[]⟩ (qqk r) (bx11 r)
 |.h4 a b c,r=>Fin cx11 Tryz.f11 (kAt qpS [1,1,1,1,0,0,0,1,0,1,0,1,2] []) ⟨[.deadv,.deadv,.c (.own 5 a),.c (ic b),.c (ic c)]++rep 46 .deadv,[]⟩ (qqk r) (bx11 r)
 |.h5 a b c,r=>Fin cx11 Tryz.f11 (kAt qpS [1,1,1,1,0,0,0,1,1,1,0,1,0,1,2] []) ⟨[.deadv,.deadv,.c (.own 5 a),.c (ic b),.c (ic c)]++rep 46 .deadv,[]⟩ (qqk r) (bx11 r)
abbrev E11 (a:By)(r:R11):Prop:=Ev Tryz.prog noHand 11 [.c (sc a)] [] (qqk r) (bx11 r)
theorem qud {a:By}{r:R11}(h:P11 (.e a) r):E11 a r:=evF h
theorem ok11:∀ k s r,itS ql7 k s=some r→P11 s r:=qF fun k rec ih s r h=>match s,h with
 |.e ..,h=>by
  rcases qa h with⟨a,h⟩|⟨a,h⟩
  · exact mG 0 (ih _ _ h) 8 [tT 11 a] 51 2251799813685219 [] [(⟨⟨.slot 2,[]⟩,0,0⟩,some 5)]
  · exact mG 0 (ih _ _ h) 13 [tF 11 a] 51 2251799813685150 [] [(⟨⟨.slot 5,[]⟩,0,0⟩,some 5)]
 |.h0 ..,h=>by cases h;exact mF 0 []
 |.h1 ..,h=>by exact mA 0 (ih _ _ h) 5 [] 51 2251799813685150
 |.h2 ..,h=>by
  rcases qa h with⟨a,h⟩|⟨a,h⟩
  · obtain⟨_,b,h⟩:=Xm h;obtain⟨_,c,h⟩:=qh h;exact mA 0 (ih _ _ h) 4 [tT 15 a,sA 19 b,cA 20 (ev21 c)] 51 2251799811587998
  · exact mA 0 (ih _ _ h) 4 [tF 15 a] 51 2251799811587998
 |.h3 _ _ a ..,h=>by
  replace h:=qa h;rcases h with⟨rfl,h⟩|⟨rfl,h⟩
  · exact mA 0 (ih _ _ h) 5 [] 51 2251799813685150
  ·
   rcases qa h with⟨b,h⟩|⟨b,h⟩
   · obtain⟨c,h⟩:=zo h;exact mA 0 (ih _ _ h) 8 [tT 27 b,⟨(some 32,.okE false),[_],⟨okF [[ic 0,sc (strB []),ic 0,ic 0,ic a]] c,trivial⟩⟩] 51 2251799813685219
   · obtain⟨_,d,h⟩:=qh h;replace h:=qk3 h;obtain⟨e,f,g,i,_,_,rfl,h⟩:=h;rcases qa h with⟨j,h⟩|⟨j,h⟩
     · exact mG 0 (ih _ _ h) 15 [tF 27 b,cA 36 (ev22 d),tT 40 j] 51 2251799813685219 [7] [(⟨⟨.slot 2,[]⟩,0,0⟩,some 5)]
     · obtain⟨l,h⟩:=zo h;exact mG 0 (ih _ _ h) 20 [tF 27 b,cA 36 (ev22 d),tF 40 j,⟨(some 47,.okE false),[_],⟨okF [[ic e,sc f,ic g,ic i,ic a]] l,trivial⟩⟩] 51 2251799813685150 [7] []
 |.h4 ..,h=>by cases h;exact mF 0 []
 |.h5 ..,h=>by cases h;exact mF 0 []
theorem ev11 {k:Nat}{a:By}{r:R11}(h:g11 k a=some r):E11 a r:=qud (ok11 _ _ _ h)
inductive S50 where
 |e (a:Rs)(b c d e:Int)
abbrev R50:=Int×By×Int×Int×Int×Rs
def qtH:R50→ARes
 |(a,b,c,d,e,_)=>.ret (.ag [ic a,sc b,ic c,ic d,ic e])
def bx50 (b0_1:Int)(b0_2:Int)(b0_3:Int)(b0_4:Int):R50→List (List Cell)
 |(_,_,_,_,_,a)=>[[.imm a,ic b0_1,ic b0_2,ic b0_3,ic b0_4]]
noncomputable def qq3 (k:Nat)(rec:S50→Option R50):S50→Option R50
 |.e a b ..=>
  ixR a b fun c=>
  qaM c fun d e f g i=>
  some (d,e,f,g,i,a)
noncomputable def g50 (k:Nat)(a:Rs)(b c d e:Int):Option R50:=itS qq3 k (.e a b c d e)
noncomputable def P50:S50→R50→Prop
 |.e a b c d e,r=>Fin cx50 Tryz.f50 [.code qsS] (fr0 Tryz.f50 [pP 0] [[.imm a,ic b,ic c,ic d,ic e]]) (qtH r) (bx50 b c d e r)
abbrev E50 (a:Rs)(b c d e:Int)(r:R50):Prop:=Ev Tryz.prog noHand 50 [pP 0] [[.imm a,ic b,ic c,ic d,ic e]] (qtH r) (bx50 b c d e r)
theorem qul {a:Rs}{b c d e:Int}{r:R50}(h:P50 (.e a b c d e) r):E50 a b c d e r:=evF h
theorem ok50:∀ k s r,itS qq3 k s=some r→P50 s r:=qF fun k rec ih s r h=>match s,h with
 |.e ..,h=>by obtain⟨_,a,h⟩:=YJ h;replace h:=qca h;obtain⟨_,_,_,_,_,rfl,h⟩:=h;cases h;exact mF 1 [rA 11 a]
theorem ev50 {k:Nat}{a:Rs}{b c d e:Int}{r:R50}(h:g50 k a b c d e=some r):E50 a b c d e r:=qul (ok50 _ _ _ h)
inductive S49 where
 |e (a:By)(b:Rs)(c d e f:Int)
abbrev R49:=Bool×Rs
def qtG:R49→ARes
 |(r,_)=>.ret (.c (bc r))
def bx49 (b0_1:Int)(b0_2:Int)(b0_3:Int)(b0_4:Int):R49→List (List Cell)
 |(_,a)=>[[.imm a,ic b0_1,ic b0_2,ic b0_3,ic b0_4]]
noncomputable def qq2 (k:Nat)(rec:S49→Option R49):S49→Option R49
 |.e a b c d e f=>
  (g50 k b c d e f).bind fun g=>
  tup6 g fun i j _ _ _ l=>
  bif i==1 then
   some (j.toList==a.toList,l)
  else
   bif i==6 then
    some (j.toList==a.toList,l)
   else
    some (false,l)
noncomputable def g49 (k:Nat)(a:By)(b:Rs)(c d e f:Int):Option R49:=itS qq2 k (.e a b c d e f)
noncomputable def P49:S49→R49→Prop
 |.e a b c d e f,r=>Fin cx49 Tryz.f49 [.code qsR] (fr0 Tryz.f49 [pP 0,.c (sc a)] [[.imm b,ic c,ic d,ic e,ic f]]) (qtG r) (bx49 c d e f r)
abbrev E49 (a:By)(b:Rs)(c d e f:Int)(r:R49):Prop:=Ev Tryz.prog noHand 49 [pP 0,.c (sc a)] [[.imm b,ic c,ic d,ic e,ic f]] (qtG r) (bx49 c d e f r)
theorem quk {a:By}{b:Rs}{c d e f:Int}{r:R49}(h:P49 (.e a b c d e f) r):E49 a b c d e f r:=evF h
theorem ok49:∀ k s r,itS qq2 k s=some r→P49 s r:=qF fun k rec ih s r h=>match s,h with
 |.e ..,h=>by
  obtain⟨_,a,h⟩:=b6 h;rcases qa h with⟨b,h⟩|⟨b,h⟩
  · cases h;exact mF 1 [cA 7 (ev50 a),tT 10 b]
  · rcases qa h with⟨c,h⟩|⟨c,h⟩
    · cases h;exact mF 1 [cA 7 (ev50 a),tF 10 b,tT 14 c]
    · cases h;exact mF 1 [cA 7 (ev50 a),tF 10 b,tF 14 c]
theorem ev49 {k:Nat}{a:By}{b:Rs}{c d e f:Int}{r:R49}(h:g49 k a b c d e f=some r):E49 a b c d e f r:=quk (ok49 _ _ _ h)
inductive S81 where
 |e (a:Int)(b:Rs)(c d e f:Int)
abbrev R81:=Rs×Int×Int
def qtS:R81→ARes
 |(_,_,_)=>.ret .undef
def bx81 (b0_1:Int)(b0_2:Int):R81→List (List Cell)
 |(a,b,c)=>[[.imm a,ic b0_1,ic b0_2,ic b,ic c]]
noncomputable def qq6 (k:Nat)(rec:S81→Option R81):S81→Option R81
 |.e a b c d e f=>
  bif e==0 then
   (g50 k b c d e f).bind fun g=>
   tup6 g fun _ _ _ _ i j=>
   some (j,a,i)
  else
   some (b,e,f)
noncomputable def g81 (k:Nat)(a:Int)(b:Rs)(c d e f:Int):Option R81:=itS qq6 k (.e a b c d e f)
noncomputable def P81:S81→R81→Prop
 |.e a b c d e f,r=>Fin cx81 Tryz.f81 [.code qs1] (fr0 Tryz.f81 [pP 0,.c (ic a)] [[.imm b,ic c,ic d,ic e,ic f]]) (qtS r) (bx81 c d r)
abbrev E81 (a:Int)(b:Rs)(c d e f:Int)(r:R81):Prop:=Ev Tryz.prog noHand 81 [pP 0,.c (ic a)] [[.imm b,ic c,ic d,ic e,ic f]] (qtS r) (bx81 c d r)
theorem quB {a:Int}{b:Rs}{c d e f:Int}{r:R81}(h:P81 (.e a b c d e f) r):E81 a b c d e f r:=evF h
theorem ok81:∀ k s r,itS qq6 k s=some r→P81 s r:=qF fun k rec ih s r h=>match s,h with
 |.e ..,h=>by
  rcases qa h with⟨a,h⟩|⟨a,h⟩
  · obtain⟨_,b,h⟩:=b6 h;cases h;exact mF 1 [tT 8 a,cA 13 (ev50 b)]
  · cases h;exact mF 1 [tF 8 a]
theorem ev81 {k:Nat}{a:Int}{b:Rs}{c d e f:Int}{r:R81}(h:g81 k a b c d e f=some r):E81 a b c d e f r:=quB (ok81 _ _ _ h)
inductive S69 where
 |e (a:Rs)(b c d e:Int)
 |h0 (a:Int)(b:Rs)(c d e f:Int)
abbrev R69:=Int×Rs×Int×Int×Int×Int
def qsL:R69→ARes
 |(r,_,_,_,_,_)=>.ret (.c (ic r))
def bx69:R69→List (List Cell)
 |(_,a,b,c,d,e)=>[[.imm a,ic b,ic c,ic d,ic e]]
noncomputable def qpN (k:Nat)(rec:S69→Option R69):S69→Option R69
 |.e a b c d e=>
  (g50 k a b c d e).bind fun f=>
  tup6 f fun _ _ _ _ g i=>
  bif c==30 then
   (g81 k 14 i b c d e).bind fun j=>
   tup3 j fun l m n=>
   rec (.h0 g l b c m n)
  else
   rec (.h0 g i b c d e)
 |.h0 a b c d e f=>some (a,b,IntKind.i64.wrap (c+1),IntKind.i64.wrap (d+1),e,f)
noncomputable def g69 (k:Nat)(a:Rs)(b c d e:Int):Option R69:=itS qpN k (.e a b c d e)
noncomputable def P69:S69→R69→Prop
 |.e a b c d e,r=>Fin cx69 Tryz.f69 [.code qr5] (fr0 Tryz.f69 [pP 0] [[.imm a,ic b,ic c,ic d,ic e]]) (qsL r) (bx69 r)
 |.h0 a b c d e f,r=>Fin cx69 Tryz.f69 (kAt qr5 [1,1,1,2] []) ⟨[pP 0,.deadv,.deadv,.c (ic a)]++rep 25 .deadv,[(.par 0,[.imm b,ic c,ic d,ic e,ic f])]⟩ (qsL r) (bx69 r)
abbrev E69 (a:Rs)(b c d e:Int)(r:R69):Prop:=Ev Tryz.prog noHand 69 [pP 0] [[.imm a,ic b,ic c,ic d,ic e]] (qsL r) (bx69 r)
theorem quv {a:Rs}{b c d e:Int}{r:R69}(h:P69 (.e a b c d e) r):E69 a b c d e r:=evF h
theorem ok69:∀ k s r,itS qpN k s=some r→P69 s r:=qF fun k rec ih s r h=>match s,h with
 |.e ..,h=>by
  obtain⟨_,a,h⟩:=b6 h;rcases qa h with⟨b,h⟩|⟨b,h⟩
  · obtain⟨_,c,h⟩:=b3 h;exact mA 1 (ih _ _ h) 9 [cA 5 (ev50 a),tT 11 b,cA 13 (ev81 c)] 29 536870902
  · exact mA 1 (ih _ _ h) 9 [cA 5 (ev50 a),tF 11 b] 29 536870902
 |.h0 ..,h=>by cases h;exact mF 1 []
theorem ev69 {k:Nat}{a:Rs}{b c d e:Int}{r:R69}(h:g69 k a b c d e=some r):E69 a b c d e r:=quv (ok69 _ _ _ h)
inductive S82 where
 |e (a:Rs)(b c d e:Int)
abbrev R82:=By×Rs×Int×Int×Int
def qtT:R82→ARes
 |(r,_,_,_,_)=>.ret (.c (sc r))
def bx82 (b0_2:Int):R82→List (List Cell)
 |(_,a,b,c,d)=>[[.imm a,ic b,ic b0_2,ic c,ic d]]
noncomputable def qp2 (k:Nat)(rec:S82→Option R82):S82→Option R82
 |.e a b c d e=>
  bif d != 0 then
   some (strB [],a,b,d,e)
  else
   (g50 k a b c d e).bind fun f=>
   tup6 f fun g i _ _ _ j=>
   bif g != 2 then
    (g81 k 13 j b c d e).bind fun l=>
    tup3 l fun m n o=>
    some (strB [],m,b,n,o)
   else
    some (i,j,IntKind.i64.wrap (b+1),d,e)
noncomputable def g82 (k:Nat)(a:Rs)(b c d e:Int):Option R82:=itS qp2 k (.e a b c d e)
noncomputable def P82:S82→R82→Prop
 |.e a b c d e,r=>Fin cx82 Tryz.f82 [.code qs3] (fr0 Tryz.f82 [pP 0] [[.imm a,ic b,ic c,ic d,ic e]]) (qtT r) (bx82 c r)
abbrev E82 (a:Rs)(b c d e:Int)(r:R82):Prop:=Ev Tryz.prog noHand 82 [pP 0] [[.imm a,ic b,ic c,ic d,ic e]] (qtT r) (bx82 c r)
theorem quC {a:Rs}{b c d e:Int}{r:R82}(h:P82 (.e a b c d e) r):E82 a b c d e r:=evF h
theorem ok82:∀ k s r,itS qp2 k s=some r→P82 s r:=qF fun k rec ih s r h=>match s,h with
 |.e ..,h=>by
  rcases qa h with⟨a,h⟩|⟨a,h⟩
  · cases h;exact mF 1 [tT 8 a]
  · obtain⟨_,b,h⟩:=b6 h;rcases qa h with⟨c,h⟩|⟨c,h⟩
    · obtain⟨_,d,h⟩:=b3 h;cases h;exact mF 1 [tF 8 a,cA 10 (ev50 b),tT 13 c,cA 15 (ev81 d)]
    · cases h;exact mF 1 [tF 8 a,cA 10 (ev50 b),tF 13 c]
theorem ev82 {k:Nat}{a:Rs}{b c d e:Int}{r:R82}(h:g82 k a b c d e=some r):E82 a b c d e r:=quC (ok82 _ _ _ h)
inductive S71 where
 |e (a:By)(b:Rs)(c d e f:Int)
abbrev R71:=Rs×Int×Int×Int
def qtO:R71→ARes
 |(_,_,_,_)=>.ret .undef
def bx71 (b0_2:Int):R71→List (List Cell)
 |(a,b,c,d)=>[[.imm a,ic b,ic b0_2,ic c,ic d]]
noncomputable def qp1 (k:Nat)(rec:S71→Option R71):S71→Option R71
 |.e a b c d e f=>
  bif e != 0 then
   some (b,c,e,f)
  else
   (g49 k a b c d e f).bind fun g=>
   tup2 g fun i j=>
   bif !i then
    (g81 k 13 j c d e f).bind fun l=>
    tup3 l fun m n o=>
    some (m,c,n,o)
   else
    some (j,IntKind.i64.wrap (c+1),e,f)
noncomputable def g71 (k:Nat)(a:By)(b:Rs)(c d e f:Int):Option R71:=itS qp1 k (.e a b c d e f)
noncomputable def P71:S71→R71→Prop
 |.e a b c d e f,r=>Fin cx71 Tryz.f71 [.code qsZ] (fr0 Tryz.f71 [pP 0,.c (sc a)] [[.imm b,ic c,ic d,ic e,ic f]]) (qtO r) (bx71 d r)
abbrev E71 (a:By)(b:Rs)(c d e f:Int)(r:R71):Prop:=Ev Tryz.prog noHand 71 [pP 0,.c (sc a)] [[.imm b,ic c,ic d,ic e,ic f]] (qtO r) (bx71 d r)
theorem quw {a:By}{b:Rs}{c d e f:Int}{r:R71}(h:P71 (.e a b c d e f) r):E71 a b c d e f r:=evF h
theorem ok71:∀ k s r,itS qp1 k s=some r→P71 s r:=qF fun k rec ih s r h=>match s,h with
 |.e ..,h=>by
  rcases qa h with⟨a,h⟩|⟨a,h⟩
  · cases h;exact mF 1 [tT 8 a]
  · obtain⟨_,b,h⟩:=b2 h;rcases qa h with⟨c,h⟩|⟨c,h⟩
    · obtain⟨_,d,h⟩:=b3 h;cases h;exact mF 1 [tF 8 a,cA 11 (ev49 b),tT 12 c,cA 14 (ev81 d)]
    · cases h;exact mF 1 [tF 8 a,cA 11 (ev49 b),tF 12 c]
theorem ev71 {k:Nat}{a:By}{b:Rs}{c d e f:Int}{r:R71}(h:g71 k a b c d e f=some r):E71 a b c d e f r:=quw (ok71 _ _ _ h)
inductive S70 where
 |e (a:Rs)(b c d e:Int)
 |h0 (a:By)(b:Bool)(c:Rs)(d e f g:Int)
abbrev R70:=By×By×Rs×Int×Int×Int
def qlU:R70→ARes
 |(a,b,_,_,_,_)=>.ret ⟨.tup [false,false],[[sc a],[sc b]]⟩
def bx70 (b0_2:Int):R70→List (List Cell)
 |(_,_,a,b,c,d)=>[[.imm a,ic b,ic b0_2,ic c,ic d]]
noncomputable def qoO (k:Nat)(rec:S70→Option R70):S70→Option R70
 |.e a b c d e=>
  (g82 k a b c d e).bind fun f=>
  tup5 f fun g i j l m=>
  (g71 k (strB [46]) i j c l m).bind fun n=>
  tup4 n fun o p q t=>
  bif q==0 then
   (g49 k (strB [84,73,77,69]) o p c q t).bind fun u=>
   tup2 u fun v w=>
   rec (.h0 g v w p c q t)
  else
   rec (.h0 g false o p c q t)
 |.h0 a b c d e f g=>
  bif b then
   some (a,strB [84,73,77,69],c,IntKind.i64.wrap (d+1),f,g)
  else
   (g82 k c d e f g).bind fun i=>
   tup5 i fun j l m n o=>
   some (a,j,l,m,n,o)
noncomputable def g70 (k:Nat)(a:Rs)(b c d e:Int):Option R70:=itS qoO k (.e a b c d e)
noncomputable def P70:S70→R70→Prop
 |.e a b c d e,r=>Fin cx70 Tryz.f70 [.code qhg] (fr0 Tryz.f70 [pP 0] [[.imm a,ic b,ic c,ic d,ic e]]) (qlU r) (bx70 c r)
 |.h0 a b c d e f g,r=>Fin cx70 Tryz.f70 (kAt qhg [1,1,1,0,1,2] []) ⟨[pP 0]++rep 3 .deadv++[.c (sc a)]++rep 12 .deadv++[.c (bc b)]++rep 11 .deadv,[(.par 0,[.imm c,ic d,ic e,ic f,ic g])]⟩ (qlU r) (bx70 e r)
abbrev E70 (a:Rs)(b c d e:Int)(r:R70):Prop:=Ev Tryz.prog noHand 70 [pP 0] [[.imm a,ic b,ic c,ic d,ic e]] (qlU r) (bx70 c r)
theorem qiN {a:Rs}{b c d e:Int}{r:R70}(h:P70 (.e a b c d e) r):E70 a b c d e r:=evF h
theorem ok70:∀ k s r,itS qoO k s=some r→P70 s r:=qF fun k rec ih s r h=>match s,h with
 |.e ..,h=>by
  obtain⟨_,a,h⟩:=b5 h;obtain⟨_,b,h⟩:=b4 h;rcases qa h with⟨c,h⟩|⟨c,h⟩
  · obtain⟨_,d,h⟩:=b2 h;exact mA 1 (ih _ _ h) 9 [cA 6 (ev82 a),cA 8 (ev71 b),tT 13 c,cA 16 (ev49 d)] 29 536739822
  · exact mA 1 (ih _ _ h) 9 [cA 6 (ev82 a),cA 8 (ev71 b),tF 13 c] 29 536739822
 |.h0 ..,h=>by
  replace h:=qa h;rcases h with⟨rfl,h⟩|⟨rfl,h⟩
  · cases h;exact mF 1 []
  · obtain⟨_,a,h⟩:=b5 h;cases h;exact mF 1 [cA 28 (ev82 a)]
theorem ev70 {k:Nat}{a:Rs}{b c d e:Int}{r:R70}(h:g70 k a b c d e=some r):E70 a b c d e r:=qiN (ok70 _ _ _ h)
inductive S75 where
 |e
abbrev R75:=Rs
def qtP:R75→ARes
 |r=>.ret (.c (.own 1 r))
def bx75:R75→List (List Cell)
 |_=>[]
noncomputable def qrC (k:Nat)(rec:S75→Option R75):S75→Option R75
 |.e=>some [[sc (strB [67,79,85,78,84])],[sc (strB [70,73,82,83,84])],[sc (strB [76,65,83,84])],[sc (strB [83,85,77])],[sc (strB [77,73,78])],[sc (strB [77,65,88])],[sc (strB [77,69,65,78])]]
noncomputable def g75 (k:Nat):Option R75:=itS qrC k (.e)
noncomputable def P75:S75→R75→Prop
 |.e,r=>Fin cx75 Tryz.f75 [.code qke] (fr0 Tryz.f75 [] []) (qtP r) (bx75 r)
abbrev E75 (r:R75):Prop:=Ev Tryz.prog noHand 75 [] [] (qtP r) (bx75 r)
theorem quz {r:R75}(h:P75 (.e) r):E75 r:=evF h
theorem ok75:∀ k s r,itS qrC k s=some r→P75 s r:=qF fun k rec ih s r h=>match s,h with
 |.e,h=>by cases h;exact mF 0 []
theorem ev75 {k:Nat}{r:R75}(h:g75 k=some r):E75 r:=quz (ok75 _ _ _ h)
inductive S72b where
 |e (a:Rs)(b c d e f:Int)(g:Rs)(i j:Int)(l m:By)(n:Int)
 |h0 (a:Rs)(b c:Int)(d:Rs)(e f g i j:Int)(l:Rs)(m n:Int)(o p:By)(q:Int)
 |h1 (a:Int)(b:Rs)(c d:Int)(e:Bool)(f:Rs)(g i j l m:Int)(n:Rs)(o p:Int)(q t:By)(u:Int)
 |h2 (a:Rs)(b c:Int)(d:Rs)(e f g i j:Int)(l:Rs)(m n:Int)(o p:By)(q:Int)
 |h3 (a:Rs)(b c:Int)(d:Rs)(e f g i j:Int)(l:Rs)(m n:Int)(o p:By)(q:Int)
abbrev R72b:=Rs×Int×Int×Int×Int×Rs×By×By
def qp0:R72b→ARes
 |(_,_,_,_,_,_,_,_)=>.ret .undef
def qq7 (b0_2:Int)(b1_2:Int)(b1_3:Int)(b1_6:Int):R72b→List (List Cell)
 |(a,b,c,d,e,f,g,i)=>[[.imm a,ic b,ic b0_2,ic c,ic d],[ic e,.own 7 f,ic b1_2,ic b1_3,sc g,sc i,ic b1_6]]
noncomputable def qoH (k:Nat)(rec:S72b→Option R72b):S72b→Option R72b
 |.e a b c d e f g i j l m n=>
  (g75 k).bind fun o=>
  rec (.h0 o (o.length:Int) 0 a b c d e f g i j l m n)
 |.h0 a b c d e f g i j l m n o p q=>
  bif decide (c<b)then
   ixR a c fun t=>
   un_s t fun u=>
   bif j==0 then
    (g49 k u d e f g i).bind fun v=>
    tup2 v fun w x=>
    rec (.h1 c a b c w x e f g i j l m n o p q)
   else
    rec (.h1 c a b c false d e f g i j l m n o p q)
  else
   bif j==0 then
    (g81 k 13 d e f g i).bind fun y=>
    tup3 y fun z a1 b1=>
    some (z,e,a1,b1,j,l,o,p)
   else
    some (d,e,g,i,j,l,o,p)
 |.h1 a b c d e f g i j l m n o p q t u=>
  bif e then
   (g71 k (strB [40]) f (IntKind.i64.wrap (g+1)) i j l).bind fun v=>
   tup4 v fun w x y z=>
   bif a==0 then
    (g82 k w x i y z).bind fun a1=>
    tup5 a1 fun b1 c1 d1 e1 f1=>
    rec (.h2 b c d c1 d1 i e1 f1 (IntKind.i64.wrap ((25:Int)+a)) n o p b1 t u)
   else
    (g70 k w x i y z).bind fun a1=>
    tup6 a1 fun g1 i1 c1 d1 e1 f1=>
    rec (.h2 b c d c1 d1 i e1 f1 (IntKind.i64.wrap ((25:Int)+a)) n o p g1 i1 u)
  else
   rec (.h3 b c d f g i j l m n o p q t u)
 |.h2 a b c d e f g i j l m n o p q=>
  (g71 k (strB [41]) d e f g i).bind fun t=>
  tup4 t fun u v w x=>
  rec (.h3 a b c u v f w x j l m n o p q)
 |.h3 a b c d e f g i j l m n o p q=>rec (.h0 a b (IntKind.i64.wrap (c+1)) d e f g i j l m n o p q)
noncomputable def g72b (k:Nat)(a:Rs)(b c d e f:Int)(g:Rs)(i j:Int)(l m:By)(n:Int):Option R72b:=itS qoH k (.e a b c d e f g i j l m n)
noncomputable def P72b:S72b→R72b→Prop
 |.e a b c d e f g i j l m n,r=>Fin cx72 Tryz.f72 [.code qqd] (fr0 Tryz.f72 [pP 0,pP 1] [[.imm a,ic b,ic c,ic d,ic e],[ic f,.own 7 g,ic i,ic j,sc l,sc m,ic n]]) (qp0 r) (qq7 c i j n r)
 |.h0 a b c d e f g i j l m n o p q,r=>Fin cx72 Tryz.f72 (kAt qqd [0,1,0,4] []) ⟨[pP 0,pP 1]++rep 4 .deadv++[.c (.own 1 a),.c (ic b),.c (ic c)]++rep 56 .deadv,[(.par 0,[.imm d,ic e,ic f,ic g,ic i]),(.par 1,[ic j,.own 7 l,ic m,ic n,sc o,sc p,ic q])]⟩ (qp0 r) (qq7 f m n q r)
 |.h1 a b c d e f g i j l m n o p q t u,r=>Fin cx72 Tryz.f72 (kAt qqd [0,1,0,0,1,1,0,0,1,1,2] []) ⟨[pP 0,pP 1,.deadv,.deadv,.c (ic a),.deadv,.c (.own 1 b),.c (ic c),.c (ic d)]++rep 13 .deadv++[.c (bc e)]++rep 42 .deadv,[(.par 0,[.imm f,ic g,ic i,ic j,ic l]),(.par 1,[ic m,.own 7 n,ic o,ic p,sc q,sc t,ic u])]⟩ (qp0 r) (qq7 i o p u r)
 |.h2 a b c d e f g i j l m n o p q,r=>Fin cx72 Tryz.f72 (kAt qqd [0,1,0,0,1,1,0,0,1,1,0,1,1,1,1,2] []) ⟨[pP 0,pP 1]++rep 4 .deadv++[.c (.own 1 a),.c (ic b),.c (ic c)]++rep 56 .deadv,[(.par 0,[.imm d,ic e,ic f,ic g,ic i]),(.par 1,[ic j,.own 7 l,ic m,ic n,sc o,sc p,ic q])]⟩ (qp0 r) (qq7 f m n q r)
 |.h3 a b c d e f g i j l m n o p q,r=>Fin cx72 Tryz.f72 (kAt qqd [0,1,0,0,1,1,1,2] []) ⟨[pP 0,pP 1]++rep 4 .deadv++[.c (.own 1 a),.c (ic b),.c (ic c)]++rep 56 .deadv,[(.par 0,[.imm d,ic e,ic f,ic g,ic i]),(.par 1,[ic j,.own 7 l,ic m,ic n,sc o,sc p,ic q])]⟩ (qp0 r) (qq7 f m n q r)
abbrev E72b (a:Rs)(b c d e f:Int)(g:Rs)(i j:Int)(l m:By)(n:Int)(r:R72b):Prop:=Ev Tryz.prog noHand 72 [pP 0,pP 1] [[.imm a,ic b,ic c,ic d,ic e],[ic f,.own 7 g,ic i,ic j,sc l,sc m,ic n]] (qp0 r) (qq7 c i j n r)
theorem qtp {a:Rs}{b c d e f:Int}{g:Rs}{i j:Int}{l m:By}{n:Int}{r:R72b}(h:P72b (.e a b c d e f g i j l m n) r):E72b a b c d e f g i j l m n r:=evF h
theorem quJ:∀ k s r,itS qoH k s=some r→P72b s r:=qF fun k rec ih s r h=>match s,h with
 |.e ..,h=>by obtain⟨_,a,h⟩:=qh h;exact mA 2 (ih _ _ h) 5 [cA 6 (ev75 a)] 65 36893488147419102780
 |.h0 ..,h=>by
  rcases qa h with⟨a,h⟩|⟨a,h⟩
  · obtain⟨_,b,h⟩:=YJ h;replace h:=qkP h;obtain⟨c,rfl,h⟩:=h;rcases qa h with⟨d,h⟩|⟨d,h⟩
    · obtain⟨_,e,h⟩:=b2 h;exact mA 2 (ih _ _ h) 12 [tT 9 a,⟨(some 11,.bnd),[_],⟨qot b,trivial⟩⟩,⟨(some 12,.ld [sc c]),[_],⟨b.2,trivial⟩⟩,tT 17 d,cA 21 (ev49 e)] 65 36893488147414908460
    · exact mA 2 (ih _ _ h) 12 [tT 9 a,⟨(some 11,.bnd),[_],⟨qot b,trivial⟩⟩,⟨(some 12,.ld [sc c]),[_],⟨b.2,trivial⟩⟩,tF 17 d] 65 36893488147414908460
  · rcases qa h with⟨f,h⟩|⟨f,h⟩
    · obtain⟨_,g,h⟩:=b3 h;cases h;exact mF 2 [tF 9 a,tT 62 f,cA 64 (ev81 g)]
    · cases h;exact mF 2 [tF 9 a,tF 62 f]
 |.h1 ..,h=>by
  replace h:=qa h;rcases h with⟨rfl,h⟩|⟨rfl,h⟩
  · obtain⟨_,a,h⟩:=b4 h;rcases qa h with⟨b,h⟩|⟨b,h⟩
    · obtain⟨_,c,h⟩:=b5 h;exact mA 2 (ih _ _ h) 12 [cA 31 (ev71 a),tT 38 b,cA 41 (ev82 c)] 65 36893488147419102780
    · obtain⟨_,c,h⟩:=b6 h;exact mA 2 (ih _ _ h) 12 [cA 31 (ev71 a),tF 38 b,cA 48 (ev70 c)] 65 36893488147419102780
  · exact mA 2 (ih _ _ h) 3 [] 65 36893488147419102780
 |.h2 ..,h=>by obtain⟨_,a,h⟩:=b4 h;exact mA 2 (ih _ _ h) 2 [cA 56 (ev71 a)] 65 36893488147419102780
 |.h3 ..,h=>by exact mA 2 (ih _ _ h) 1 [] 65 36893488147419102780
theorem quc {k:Nat}{a:Rs}{b c d e f:Int}{g:Rs}{i j:Int}{l m:By}{n:Int}{r:R72b}(h:g72b k a b c d e f g i j l m n=some r):E72b a b c d e f g i j l m n r:=qtp (quJ _ _ _ h)
inductive S48 where
 |e (a:Int)
 |h0 (a:Rs)(b:Int)
 |h1 (a:Rs)(b:Int)
 |h2 (a:Rs)(b:Int)
 |h3 (a:Rs)(b:Int)
 |h4 (a:Rs)(b:Int)
 |h5 (a:Rs)(b:Int)
abbrev R48:=Rs×Int
def qql:R48→ARes
 |(a,b)=>.ret ⟨.tup [false,false],[[.own 1 a],[ic b]]⟩
def bx48:R48→List (List Cell)
 |(_,_)=>[]
noncomputable def qpX (k:Nat)(rec:S48→Option R48):S48→Option R48
 |.e a=>
  bif a==1 then
   rec (.h0 [[sc (strB [79,82])]] 14)
  else
   bif a==2 then
    rec (.h1 [[sc (strB [65,78,68])]] 13)
   else
    bif a==4 then
     rec (.h2 [[sc (strB [61])],[sc (strB [33,61])],[sc (strB [60])],[sc (strB [60,61])],[sc (strB [62])],[sc (strB [62,61])]] 7)
    else
     bif a==5 then
      rec (.h3 [[sc (strB [43])],[sc (strB [45])]] 1)
     else
      bif a==6 then
       rec (.h4 [[sc (strB [42])],[sc (strB [47])],[sc (strB [37])]] 3)
      else
       rec (.h5 [] 0)
 |.h0 a b=>some (a,b)
 |.h1 a b=>some (a,b)
 |.h2 a b=>some (a,b)
 |.h3 a b=>some (a,b)
 |.h4 a b=>some (a,b)
 |.h5 a b=>some (a,b)
noncomputable def g48 (k:Nat)(a:Int):Option R48:=itS qpX k (.e a)
noncomputable def P48:S48→R48→Prop
 |.e a,r=>Fin cx48 Tryz.f48 [.code qpT] (fr0 Tryz.f48 [.c (ic a)] []) (qql r) (bx48 r)
 |.h0 a b,r=>Fin cx48 Tryz.f48 (kAt qpT [1,0,1,0,1,0,1,2] []) ⟨[.deadv,.deadv,.c (.own 1 a),.c (ic b)]++rep 16 .deadv,[]⟩ (qql r) (bx48 r)
 |.h1 a b,r=>Fin cx48 Tryz.f48 (kAt qpT [1,0,1,0,1,1,1,0,1,2] []) ⟨[.deadv,.deadv,.c (.own 1 a),.c (ic b)]++rep 16 .deadv,[]⟩ (qql r) (bx48 r)
 |.h2 a b,r=>Fin cx48 Tryz.f48 (kAt qpT [1,0,1,0,1,1,1,1,1,0,1,2] []) ⟨[.deadv,.deadv,.c (.own 1 a),.c (ic b)]++rep 16 .deadv,[]⟩ (qql r) (bx48 r)
 |.h3 a b,r=>Fin cx48 Tryz.f48 (kAt qpT [1,0,1,0,1,1,1,1,1,1,1,0,1,2] []) ⟨[.deadv,.deadv,.c (.own 1 a),.c (ic b)]++rep 16 .deadv,[]⟩ (qql r) (bx48 r)
 |.h4 a b,r=>Fin cx48 Tryz.f48 (kAt qpT [1,0,1,0,1,1,1,1,1,1,1,1,1,0,1,2] []) ⟨[.deadv,.deadv,.c (.own 1 a),.c (ic b)]++rep 16 .deadv,[]⟩ (qql r) (bx48 r)
 |.h5 a b,r=>Fin cx48 Tryz.f48 (kAt qpT [1,1,1,2] []) ⟨[.deadv,.deadv,.c (.own 1 a),.c (ic b)]++rep 16 .deadv,[]⟩ (qql r) (bx48 r)
abbrev E48 (a:Int)(r:R48):Prop:=Ev Tryz.prog noHand 48 [.c (ic a)] [] (qql r) (bx48 r)
theorem quj {a:Int}{r:R48}(h:P48 (.e a) r):E48 a r:=evF h
theorem ok48:∀ k s r,itS qpX k s=some r→P48 s r:=qF fun k rec ih s r h=>match s,h with
 |.e ..,h=>by
  rcases qa h with⟨a,h⟩|⟨a,h⟩
  · exact mA 0 (ih _ _ h) 11 [tT 6 a] 20 1048563
  ·
   rcases qa h with⟨b,h⟩|⟨b,h⟩
   · exact mA 0 (ih _ _ h) 14 [tF 6 a,tT 9 b] 20 1048563
   ·
    rcases qa h with⟨c,h⟩|⟨c,h⟩
    · exact mA 0 (ih _ _ h) 17 [tF 6 a,tF 9 b,tT 12 c] 20 1048563
    ·
     rcases qa h with⟨d,h⟩|⟨d,h⟩
     · exact mA 0 (ih _ _ h) 20 [tF 6 a,tF 9 b,tF 12 c,tT 15 d] 20 1048563
     · rcases qa h with⟨e,h⟩|⟨e,h⟩
       · exact mA 0 (ih _ _ h) 23 [tF 6 a,tF 9 b,tF 12 c,tF 15 d,tT 18 e] 20 1048563
       · exact mG 0 (ih _ _ h) 25 [tF 6 a,tF 9 b,tF 12 c,tF 15 d,tF 18 e] 20 1048563 [] [(⟨⟨.slot 2,[]⟩,0,0⟩,some 1)]
 |.h0 ..,h=>by cases h;exact mF 0 []
 |.h1 ..,h=>by cases h;exact mF 0 []
 |.h2 ..,h=>by cases h;exact mF 0 []
 |.h3 ..,h=>by cases h;exact mF 0 []
 |.h4 ..,h=>by cases h;exact mF 0 []
 |.h5 ..,h=>by cases h;exact mF 0 []
theorem ev48 {k:Nat}{a:Int}{r:R48}(h:g48 k a=some r):E48 a r:=quj (ok48 _ _ _ h)
inductive S25 where
 |e_25 (a:Int)(b:Rs)(c d e f:Int)
 |h0_25 (a:Int)(b:Bool)(c d e:Int)(f g:By)(i:Int)(j:Rs)(l m n o:Int)
 |h1_25 (a b:Int)(c:Rs)(d e:Int)(f g:By)(i j l m:Int)(n o:By)(p:Int)(q:Rs)(t u v w:Int)
 |h2_25 (a b:Int)(c:Rs)(d e:Int)(f g:By)(i j l m:Int)(n o:By)(p:Int)(q:Rs)(t u v w:Int)
 |h3_25 (a:Int)(b:Rs)(c d e f g:Int)(i:Rs)(j l:Int)(m n:By)(o p q t:Int)(u v:By)(w:Int)(x:Rs)(y z a1 b1:Int)
 |h4_25 (a:Int)(b:Rs)(c d e f g:Int)(i:Rs)(j l:Int)(m n:By)(o p q t:Int)(u v:By)(w:Int)(x:Rs)(y z a1 b1:Int)
 |h5_25 (a:Int)(b:Rs)(c d e f g:Int)(i:Rs)(j l:Int)(m n:By)(o p q t:Int)(u v:By)(w:Int)(x:Rs)(y z a1 b1:Int)
 |h6_25 (a:Int)(b:Bool)(c:Int)(d:Rs)(e f:Int)(g i:By)(j l m n:Int)(o p:By)(q:Int)(t:Rs)(u v w x:Int)
 |h7_25 (a:Int)(b:Rs)(c d e f g:Int)(i:Rs)(j l:Int)(m n:By)(o p q t:Int)(u v:By)(w:Int)(x:Rs)(y z a1 b1:Int)
 |e_46 (a:Int)(b:Rs)(c d e f:Int)
 |h0_46 (a:Int)(b:By)(c d e f:Int)(g i:By)(j:Int)(l:Rs)(m n o p:Int)
 |h1_46 (a:Int)(b:Rs)(c d:Int)(e f:By)(g:Int)(i:Rs)(j l m n:Int)
 |h2_46 (a:Int)(b:Rs)(c d:Int)(e f:By)(g:Int)(i:Rs)(j l m n:Int)
 |h3_46 (a:Int)(b:Rs)(c d:Int)(e f:By)(g:Int)(i:Rs)(j l m n:Int)
 |e_47 (a:Rs)(b c d e:Int)
 |h0_47 (a:Int)(b:Rs)(c d:Int)(e f:By)(g i j l:Int)(m n:By)(o:Int)(p:Rs)(q t u v:Int)
 |h1_47 (a:Int)(b:Rs)(c d:Int)(e f:By)(g i j l:Int)(m n:By)(o:Int)(p:Rs)(q t u v:Int)
 |h2_47 (a:Bool)(b c d:Int)(e f:By)(g i j l:Int)(m n:By)(o:Int)(p:Rs)(q t u v:Int)
 |h3_47 (a b c:Int)(d e:By)(f g i j:Int)(l m:By)(n:Int)(o:Rs)(p q t u:Int)
 |h4_47 (a:Bool)(b c d:Int)(e f:By)(g i j l:Int)(m n:By)(o:Int)(p:Rs)(q t u v:Int)
 |h5_47 (a b c:Int)(d e:By)(f g i j:Int)(l m:By)(n:Int)(o:Rs)(p q t u:Int)
 |h6_47 (a:Int)(b:Rs)(c d:Int)(e f:By)(g i j l:Int)(m n:By)(o:Int)(p:Rs)(q t u v:Int)
abbrev qpk:=(Int×Int×Int×By×By×Int×Rs×Int×Int×Int×Int)⊕(Int×Rs×Int×Int×By×By×Int×Rs×Int×Int×Int×Int)⊕(Int×Rs×Int×Int×By×By×Int×Rs×Int×Int×Int×Int)
abbrev qpw:=(Int×Rs×Int×Int×By×By×Int×Rs×Int×Int×Int×Int)⊕(Int×Rs×Int×Int×By×By×Int×Rs×Int×Int×Int×Int)
abbrev qpl:=Int×Rs×Int×Int×By×By×Int×Rs×Int×Int×Int×Int
abbrev R25:=qpk⊕qpw⊕qpl
def qoJ (o:Option R25):Option qpk:=o.bind fun|(.inl x)=>some x|_=>none
theorem qoI {o:Option R25}{v:qpk}(h:qoJ o=some v):o=some (.inl v):=by
 cases o with
 |none=>cases h
 |some r=>
  unfold qoJ at h;simp only[ae]at h;split at h
  · injection h with h;rw[h]
  · cases h
def qrA (o:Option R25):Option qpw:=o.bind fun|(.inr (.inl x))=>some x|_=>none
theorem qqY {o:Option R25}{v:qpw}(h:qrA o=some v):o=some (.inr (.inl v)):=by
 cases o with
 |none=>cases h
 |some r=>
  unfold qrA at h;simp only[ae]at h;split at h
  · injection h with h;rw[h]
  · cases h
def qrY (o:Option R25):Option qpl:=o.bind fun|(.inr (.inr x))=>some x|_=>none
theorem qrZ {o:Option R25}{v:qpl}(h:qrY o=some v):o=some (.inr (.inr v)):=by
 cases o with
 |none=>cases h
 |some r=>
  unfold qrY at h;simp only[ae]at h;split at h
  · injection h with h;rw[h]
  · cases h
def qhG:qpk→ARes
 |(.inl (a,b,c,d,e,f,_,_,_,_,_))=>.ret (.ag [ic a,.nil,ic b,ic c,sc d,sc e,ic f])
 |(.inr (.inl (a,b,c,d,e,f,g,_,_,_,_,_)))=>.ret (.ag [ic a,.own 7 b,ic c,ic d,sc e,sc f,ic g])
 |(.inr (.inr (a,b,c,d,e,f,g,_,_,_,_,_)))=>.ret (.ag [ic a,.imm b,ic c,ic d,sc e,sc f,ic g])
def bx25:qpk→List (List Cell)
 |(.inl (_,_,_,_,_,_,a,b,c,d,e))=>[[.imm a,ic b,ic c,ic d,ic e]]
 |(.inr (.inl (_,_,_,_,_,_,_,a,b,c,d,e)))=>[[.imm a,ic b,ic c,ic d,ic e]]
 |(.inr (.inr (_,_,_,_,_,_,_,a,b,c,d,e)))=>[[.imm a,ic b,ic c,ic d,ic e]]
def rs25:R25→ARes
 |(.inl x)=>qhG x
 |_=>.panic .nilIface
def bs25:R25→List (List Cell)
 |(.inl x)=>bx25 x
 |_=>[]
def qmr:qpw→ARes
 |(.inl (a,b,c,d,e,f,g,_,_,_,_,_))=>.ret (.ag [ic a,.own 7 b,ic c,ic d,sc e,sc f,ic g])
 |(.inr (a,b,c,d,e,f,g,_,_,_,_,_))=>.ret (.ag [ic a,.imm b,ic c,ic d,sc e,sc f,ic g])
def bx46:qpw→List (List Cell)
 |(.inl (_,_,_,_,_,_,_,a,b,c,d,e))=>[[.imm a,ic b,ic c,ic d,ic e]]
 |(.inr (_,_,_,_,_,_,_,a,b,c,d,e))=>[[.imm a,ic b,ic c,ic d,ic e]]
def rs46:R25→ARes
 |(.inr (.inl x))=>qmr x
 |_=>.panic .nilIface
def bs46:R25→List (List Cell)
 |(.inr (.inl x))=>bx46 x
 |_=>[]
def qtF:qpl→ARes
 |(a,b,c,d,e,f,g,_,_,_,_,_)=>.ret (.ag [ic a,.imm b,ic c,ic d,sc e,sc f,ic g])
def bx47:qpl→List (List Cell)
 |(_,_,_,_,_,_,_,a,b,c,d,e)=>[[.imm a,ic b,ic c,ic d,ic e]]
def rs47:R25→ARes
 |(.inr (.inr x))=>qtF x
 |_=>.panic .nilIface
def bs47:R25→List (List Cell)
 |(.inr (.inr x))=>bx47 x
 |_=>[]
noncomputable def qjZ (k:Nat)(rec:S25→Option R25):S25→Option R25
 |.e_25 a b c d e f=>
  bif e != 0 then
   some (.inl (.inl (0,0,0,strB [],strB [],0,b,c,d,e,f)))
  else
   bif a==3 then
    rec (.h0_25 a true 0 0 0 (strB []) (strB []) 0 b c d e f)
   else
    rec (.h0_25 a (a==7) 0 0 0 (strB []) (strB []) 0 b c d e f)
 |.h0_25 a b c d e f g i j l m n o=>
  bif b then
   (qrA (rec (.e_46 a j l m n o))).bind fun p=>
   altC p (fun q=>
     zu q fun t u v w x y z a1 b1 c1 d1 e1=>
     some (.inl (.inr (.inl (t,u,v,w,x,y,z,a1,b1,c1,d1,e1))))) (fun q=>
     zu q fun t u v w x y z a1 b1 c1 d1 e1=>
     some (.inl (.inr (.inr (t,u,v,w,x,y,z,a1,b1,c1,d1,e1)))))
  else
   bif a==8 then
    (qrY (rec (.e_47 j l m n o))).bind fun f1=>
    zu f1 fun t u v w x y z a1 b1 c1 d1 e1=>
    some (.inl (.inr (.inr (t,u,v,w,x,y,z,a1,b1,c1,d1,e1))))
   else
    (qoJ (rec (.e_25 (IntKind.i64.wrap (a+1)) j l m n o))).bind fun f1=>
    altC f1 (fun g1=>
      qoG g1 fun i1 j1 l1 m1 n1 o1 p1 q1 t1 u1 v1=>
      rec (.h1_25 a i1 [] j1 l1 m1 n1 o1 c d e f g i p1 q1 t1 u1 v1)) (fun w1=>altC w1 (fun g1=>
      zu g1 fun i1 x1 j1 l1 m1 n1 o1 p1 q1 t1 u1 v1=>
      rec (.h1_25 a i1 x1 j1 l1 m1 n1 o1 c d e f g i p1 q1 t1 u1 v1)) (fun g1=>
      zu g1 fun i1 x1 j1 l1 m1 n1 o1 p1 q1 t1 u1 v1=>
      rec (.h2_25 a i1 x1 j1 l1 m1 n1 o1 c d e f g i p1 q1 t1 u1 v1)))
 |.h1_25 a b c d e f g i j l m n o p q t u v w=>
  bif v==0 then
   (g48 k a).bind fun x=>
   tup2 x fun y z=>
   rec (.h3_25 a y z 0 (y.length:Int) 0 b c d e f g i j l m n o p q t u v w)
  else
   some (.inl (.inr (.inr (b,qG c,d,e,f,g,i,q,t,u,v,w))))
 |.h2_25 a b c d e f g i j l m n o p q t u v w=>
  bif v==0 then
   (g48 k a).bind fun x=>
   tup2 x fun y z=>
   rec (.h4_25 a y z 0 (y.length:Int) 0 b c d e f g i j l m n o p q t u v w)
  else
   some (.inl (.inr (.inr (b,c,d,e,f,g,i,q,t,u,v,w))))
 |.h3_25 a b c d e f g i j l m n o p q t u v w x y z a1 b1=>
  bif decide (f<e)then
   ixR b f fun c1=>
   un_s c1 fun d1=>
   (g49 k d1 x y z a1 b1).bind fun e1=>
   tup2 e1 fun f1 g1=>
   bif f1 then
    rec (.h5_25 a b c (IntKind.i64.wrap (c+f)) e f g i j l m n o p q t u v w g1 y z a1 b1)
   else
    rec (.h5_25 a b c d e f g i j l m n o p q t u v w g1 y z a1 b1)
  else
   bif d==0 then
    some (.inl (.inr (.inr (g,qG i,j,l,m,n,o,x,y,z,a1,b1))))
   else
    (g50 k x y z a1 b1).bind fun i1=>
    tup6 i1 fun _ _ _ _ j1 l1=>
    (qoJ (rec (.e_25 (IntKind.i64.wrap (a+1)) l1 (IntKind.i64.wrap (y+1)) z a1 b1))).bind fun m1=>
    altC m1 (fun n1=>
      qoG n1 fun o1 p1 q1 t1 u1 v1 w1 x1 y1 z1 a2=>
      rec (.h6_25 a (a==4) d [[ic g,.imm (qG i),ic j,ic l,sc m,sc n,ic o],[ic o1,.nil,ic p1,ic q1,sc t1,sc u1,ic v1]] 0 0 (strB []) (strB []) j1 p q t u v w w1 x1 y1 z1 a2)) (fun b2=>altC b2 (fun n1=>
      zu n1 fun o1 c2 p1 q1 t1 u1 v1 w1 x1 y1 z1 a2=>
      rec (.h6_25 a (a==4) d [[ic g,.imm (qG i),ic j,ic l,sc m,sc n,ic o],[ic o1,.own 7 c2,ic p1,ic q1,sc t1,sc u1,ic v1]] 0 0 (strB []) (strB []) j1 p q t u v w w1 x1 y1 z1 a2)) (fun n1=>
      zu n1 fun o1 c2 p1 q1 t1 u1 v1 w1 x1 y1 z1 a2=>
      rec (.h6_25 a (a==4) d [[ic g,.imm (qG i),ic j,ic l,sc m,sc n,ic o],[ic o1,.imm c2,ic p1,ic q1,sc t1,sc u1,ic v1]] 0 0 (strB []) (strB []) j1 p q t u v w w1 x1 y1 z1 a2)))
 |.h4_25 a b c d e f g i j l m n o p q t u v w x y z a1 b1=>
  bif decide (f<e)then
   ixR b f fun c1=>
   un_s c1 fun d1=>
   (g49 k d1 x y z a1 b1).bind fun e1=>
   tup2 e1 fun f1 g1=>
   bif f1 then
    rec (.h7_25 a b c (IntKind.i64.wrap (c+f)) e f g i j l m n o p q t u v w g1 y z a1 b1)
   else
    rec (.h7_25 a b c d e f g i j l m n o p q t u v w g1 y z a1 b1)
  else
   bif d==0 then
    some (.inl (.inr (.inr (g,i,j,l,m,n,o,x,y,z,a1,b1))))
   else
    (g50 k x y z a1 b1).bind fun i1=>
    tup6 i1 fun _ _ _ _ j1 l1=>
    (qoJ (rec (.e_25 (IntKind.i64.wrap (a+1)) l1 (IntKind.i64.wrap (y+1)) z a1 b1))).bind fun m1=>
    altC m1 (fun n1=>
      qoG n1 fun o1 p1 q1 t1 u1 v1 w1 x1 y1 z1 a2=>
      rec (.h6_25 a (a==4) d [[ic g,.imm i,ic j,ic l,sc m,sc n,ic o],[ic o1,.nil,ic p1,ic q1,sc t1,sc u1,ic v1]] 0 0 (strB []) (strB []) j1 p q t u v w w1 x1 y1 z1 a2)) (fun b2=>altC b2 (fun n1=>
      zu n1 fun o1 c2 p1 q1 t1 u1 v1 w1 x1 y1 z1 a2=>
      rec (.h6_25 a (a==4) d [[ic g,.imm i,ic j,ic l,sc m,sc n,ic o],[ic o1,.own 7 c2,ic p1,ic q1,sc t1,sc u1,ic v1]] 0 0 (strB []) (strB []) j1 p q t u v w w1 x1 y1 z1 a2)) (fun n1=>
      zu n1 fun o1 c2 p1 q1 t1 u1 v1 w1 x1 y1 z1 a2=>
      rec (.h6_25 a (a==4) d [[ic g,.imm i,ic j,ic l,sc m,sc n,ic o],[ic o1,.imm c2,ic p1,ic q1,sc t1,sc u1,ic v1]] 0 0 (strB []) (strB []) j1 p q t u v w w1 x1 y1 z1 a2)))
 |.h5_25 a b c d e f g i j l m n o p q t u v w x y z a1 b1=>rec (.h3_25 a b c d e (IntKind.i64.wrap (f+1)) g i j l m n o p q t u v w x y z a1 b1)
 |.h6_25 a b c d e f g i j l m n o p q t u v w x=>
  bif b then
   some (.inl (.inr (.inr (c,qG d,e,f,g,i,j,t,u,v,w,x))))
  else
   rec (.h1_25 a c d e f g i j l m n o p q t u v w x)
 |.h7_25 a b c d e f g i j l m n o p q t u v w x y z a1 b1=>rec (.h4_25 a b c d e (IntKind.i64.wrap (f+1)) g i j l m n o p q t u v w x y z a1 b1)
 |.e_46 a b c d e f=>
  bif a==7 then
   rec (.h0_46 a (strB [45]) 6 0 0 0 (strB []) (strB []) 0 b c d e f)
  else
   rec (.h0_46 a (strB [78,79,84]) 15 0 0 0 (strB []) (strB []) 0 b c d e f)
 |.h0_46 a b c _ _ _ _ _ _ d e f g i=>
  (g49 k b d e f g i).bind fun j=>
  tup2 j fun l m=>
  bif !l then
   (qoJ (rec (.e_25 (IntKind.i64.wrap (a+1)) m e f g i))).bind fun n=>
   altC n (fun o=>
     qoG o fun p q t u v w x y z a1 b1=>
     rec (.h1_46 p [] q t u v w x y z a1 b1)) (fun c1=>altC c1 (fun o=>
     zu o fun p d1 q t u v w x y z a1 b1=>
     rec (.h1_46 p d1 q t u v w x y z a1 b1)) (fun o=>
     zu o fun p d1 q t u v w x y z a1 b1=>
     rec (.h2_46 p d1 q t u v w x y z a1 b1)))
  else
   (g69 k m e f g i).bind fun n=>
   tup6 n fun e1 f1 g1 i1 j1 l1=>
   (qoJ (rec (.e_25 a f1 g1 i1 j1 l1))).bind fun m1=>
   altC m1 (fun n1=>
     qoG n1 fun o1 p1 q1 t1 u1 v1 w1 x1 y1 z1 a2=>
     rec (.h3_46 c [[ic o1,.nil,ic p1,ic q1,sc t1,sc u1,ic v1]] 0 0 (strB []) (strB []) e1 w1 x1 (IntKind.i64.wrap (y1-1)) z1 a2)) (fun b2=>altC b2 (fun n1=>
     zu n1 fun o1 c2 p1 q1 t1 u1 v1 w1 x1 y1 z1 a2=>
     rec (.h3_46 c [[ic o1,.imm (qG c2),ic p1,ic q1,sc t1,sc u1,ic v1]] 0 0 (strB []) (strB []) e1 w1 x1 (IntKind.i64.wrap (y1-1)) z1 a2)) (fun n1=>
     zu n1 fun o1 c2 p1 q1 t1 u1 v1 w1 x1 y1 z1 a2=>
     rec (.h3_46 c [[ic o1,.imm c2,ic p1,ic q1,sc t1,sc u1,ic v1]] 0 0 (strB []) (strB []) e1 w1 x1 (IntKind.i64.wrap (y1-1)) z1 a2)))
 |.h1_46 a b c d e f g i j l m n=>some (.inr (.inl (.inl (a,b,c,d,e,f,g,i,j,l,m,n))))
 |.h2_46 a b c d e f g i j l m n=>some (.inr (.inl (.inr (a,b,c,d,e,f,g,i,j,l,m,n))))
 |.h3_46 a b c d e f g i j l m n=>some (.inr (.inl (.inl (a,b,c,d,e,f,g,i,j,l,m,n))))
 |.e_47 a b c d e=>
  (g50 k a b c d e).bind fun f=>
  tup6 f fun g i j l m n=>
  bif g==3 then
   rec (.h0_47 20 [] j 0 (strB []) (strB []) m 0 0 0 (strB []) (strB []) 0 n (IntKind.i64.wrap (b+1)) c d e)
  else
   bif g==4 then
    rec (.h0_47 21 [] j l (strB []) (strB []) m 0 0 0 (strB []) (strB []) 0 n (IntKind.i64.wrap (b+1)) c d e)
   else
    bif g==5 then
     rec (.h0_47 23 [] 0 0 i (strB []) m 0 0 0 (strB []) (strB []) 0 n (IntKind.i64.wrap (b+1)) c d e)
    else
     bif g==2 then
      (g70 k n b c d e).bind fun o=>
      tup6 o fun p q t u v w=>
      rec (.h0_47 24 [] 0 0 p q m 0 0 0 (strB []) (strB []) 0 t u c v w)
     else
      (g49 k (strB [40]) n b c d e).bind fun o=>
      tup2 o fun x t=>
      bif x then
       (g69 k t b c d e).bind fun y=>
       tup6 y fun z a1 b1 c1 d1 e1=>
       (qoJ (rec (.e_25 1 a1 b1 c1 d1 e1))).bind fun f1=>
       altC f1 (fun g1=>
         qoG g1 fun i1 j1 l1 m1 n1 o1 p1 q1 t1 u1 v1=>
         (g71 k (strB [41]) p1 q1 t1 u1 v1).bind fun w1=>
         tup4 w1 fun x1 y1 z1 a2=>
         rec (.h0_47 i1 [] j1 l1 m1 n1 o1 0 0 0 (strB []) (strB []) 0 x1 y1 (IntKind.i64.wrap (t1-1)) z1 a2)) (fun b2=>altC b2 (fun g1=>
         zu g1 fun i1 c2 j1 l1 m1 n1 o1 p1 q1 t1 u1 v1=>
         (g71 k (strB [41]) p1 q1 t1 u1 v1).bind fun w1=>
         tup4 w1 fun x1 y1 z1 a2=>
         rec (.h0_47 i1 c2 j1 l1 m1 n1 o1 0 0 0 (strB []) (strB []) 0 x1 y1 (IntKind.i64.wrap (t1-1)) z1 a2)) (fun g1=>
         zu g1 fun i1 c2 j1 l1 m1 n1 o1 p1 q1 t1 u1 v1=>
         (g71 k (strB [41]) p1 q1 t1 u1 v1).bind fun w1=>
         tup4 w1 fun x1 y1 z1 a2=>
         rec (.h1_47 i1 c2 j1 l1 m1 n1 o1 0 0 0 (strB []) (strB []) 0 x1 y1 (IntKind.i64.wrap (t1-1)) z1 a2)))
      else
       (g49 k (strB [84,82,85,69]) t b c d e).bind fun y=>
       tup2 y fun z a1=>
       bif z then
        rec (.h2_47 true 0 0 0 (strB []) (strB []) m 0 0 0 (strB []) (strB []) 0 a1 b c d e)
       else
        (g49 k (strB [70,65,76,83,69]) a1 b c d e).bind fun f1=>
        tup2 f1 fun d2 e2=>
        rec (.h2_47 d2 0 0 0 (strB []) (strB []) m 0 0 0 (strB []) (strB []) 0 e2 b c d e)
 |.h0_47 a b c d e f g _ _ _ _ _ _ i j l m n=>some (.inr (.inr (a,qG b,c,d,e,f,g,i,j,l,m,n)))
 |.h1_47 a b c d e f g _ _ _ _ _ _ i j l m n=>some (.inr (.inr (a,b,c,d,e,f,g,i,j,l,m,n)))
 |.h2_47 a b c d e f g i j l m n o p q t u v=>
  bif a then
   (g49 k (strB [84,82,85,69]) p q t u v).bind fun w=>
   tup2 w fun x y=>
   bif x then
    rec (.h3_47 22 1 d e f g i j l m n o y q t u v)
   else
    rec (.h3_47 22 c d e f g i j l m n o y q t u v)
  else
   (g49 k (strB [82,69,65,76]) p q t u v).bind fun w=>
   tup2 w fun x y=>
   bif x then
    rec (.h4_47 true b c d e f g i j l m n o y q t u v)
   else
    (g49 k (strB [73,83,78,65,78]) y q t u v).bind fun z=>
    tup2 z fun a1 b1=>
    rec (.h4_47 a1 b c d e f g i j l m n o b1 q t u v)
 |.h3_47 a b c d e f g i j l m n o p q t u=>rec (.h0_47 a [] b c d e f g i j l m n o (IntKind.i64.wrap (p+1)) q t u)
 |.h4_47 a b c d e f g i j l m n o p q t u v=>
  bif a then
   (g49 k (strB [73,83,78,65,78]) p q t u v).bind fun w=>
   tup2 w fun x y=>
   bif x then
    rec (.h5_47 17 c d e f g i j l m n o y q t u v)
   else
    rec (.h5_47 16 c d e f g i j l m n o y q t u v)
  else
   rec (.h6_47 b [] c d e f g i j l m n o p q t u v)
 |.h5_47 a b c d e f g i j l m n o p q t u=>
  (g69 k o p q t u).bind fun v=>
  tup6 v fun _ w x y z a1=>
  (g71 k (strB [40]) w x y z a1).bind fun b1=>
  tup4 b1 fun c1 d1 e1 f1=>
  (qoJ (rec (.e_25 1 c1 d1 y e1 f1))).bind fun g1=>
  altC g1 (fun i1=>
    qoG i1 fun j1 l1 m1 n1 o1 p1 q1 t1 u1 v1 w1=>
    (g71 k (strB [41]) q1 t1 u1 v1 w1).bind fun x1=>
    tup4 x1 fun y1 z1 a2 b2=>
    rec (.h0_47 a [[ic j1,.nil,ic l1,ic m1,sc n1,sc o1,ic p1]] b c d e f g i j l m n y1 z1 (IntKind.i64.wrap (u1-1)) a2 b2)) (fun c2=>altC c2 (fun i1=>
    zu i1 fun j1 d2 l1 m1 n1 o1 p1 q1 t1 u1 v1 w1=>
    (g71 k (strB [41]) q1 t1 u1 v1 w1).bind fun x1=>
    tup4 x1 fun y1 z1 a2 b2=>
    rec (.h0_47 a [[ic j1,.own 7 d2,ic l1,ic m1,sc n1,sc o1,ic p1]] b c d e f g i j l m n y1 z1 (IntKind.i64.wrap (u1-1)) a2 b2)) (fun i1=>
    zu i1 fun j1 d2 l1 m1 n1 o1 p1 q1 t1 u1 v1 w1=>
    (g71 k (strB [41]) q1 t1 u1 v1 w1).bind fun x1=>
    tup4 x1 fun y1 z1 a2 b2=>
    rec (.h0_47 a [[ic j1,.imm d2,ic l1,ic m1,sc n1,sc o1,ic p1]] b c d e f g i j l m n y1 z1 (IntKind.i64.wrap (u1-1)) a2 b2)))
 |.h6_47 a b c d e f g i j l m n o p q t u v=>
  (g72b k p q t u v a b c d e f g).bind fun w=>
  tup8 w fun x y z a1 b1 c1 d1 e1=>
  rec (.h0_47 b1 c1 c d d1 e1 g i j l m n o x y t z a1)
noncomputable def g25 (k:Nat)(a:Int)(b:Rs)(c d e f:Int):Option qpk:=qoJ (itS qjZ k (.e_25 a b c d e f))
noncomputable def P25:S25→R25→Prop
 |.e_25 a b c d e f,r=>Fin cx25 Tryz.f25 [.code qfD] (fr0 Tryz.f25 [pP 0,.c (ic a)] [[.imm b,ic c,ic d,ic e,ic f]]) (rs25 r) (bs25 r)
 |.h0_25 a b c d e f g i j l m n o,r=>Fin cx25 Tryz.f25 (kAt qfD [1,1,0,1,2] []) ⟨[pP 0,.c (ic a),.deadv,.deadv,pL 4]++rep 18 .deadv++[.c (bc b)]++rep 61 .deadv,[(.loc 4,[ic c,.nil,ic d,ic e,sc f,sc g,ic i]),(.par 0,[.imm j,ic l,ic m,ic n,ic o])]⟩ (rs25 r) (bs25 r)
 |.h1_25 a b c d e f g i j l m n o p q t u v w,r=>Fin cx25 Tryz.f25 (kAt qfD [1,1,1,1,1,0,0,4] []) ⟨[pP 0,.c (ic a),.deadv,.deadv,pL 4,pL 5]++rep 79 .deadv,[(.loc 5,[ic b,.own 7 c,ic d,ic e,sc f,sc g,ic i]),(.loc 4,[ic j,.nil,ic l,ic m,sc n,sc o,ic p]),(.par 0,[.imm q,ic t,ic u,ic v,ic w])]⟩ (rs25 r) (bs25 r)
 |.h2_25 a b c d e f g i j l m n o p q t u v w,r=>Fin cx25 Tryz.f25 (kAt qfD [1,1,1,1,1,0,0,4] []) ⟨[pP 0,.c (ic a),.deadv,.deadv,pL 4,pL 5]++rep 79 .deadv,[(.loc 5,[ic b,.imm c,ic d,ic e,sc f,sc g,ic i]),(.loc 4,[ic j,.nil,ic l,ic m,sc n,sc o,ic p]),(.par 0,[.imm q,ic t,ic u,ic v,ic w])]⟩ (rs25 r) (bs25 r)
 |.h3_25 a b c d e f g i j l m n o p q t u v w x y z a1 b1,r=>Fin cx25 Tryz.f25 (kAt qfD [1,1,1,1,1,0,0,0,1,0,1,1,0,1,0,4] []) ⟨[pP 0,.c (ic a),.deadv,.deadv,pL 4,pL 5,.c (.own 1 b),.c (ic c),.c (ic d)]++rep 36 .deadv++[.c (.ref ⟨⟨.slot 6,[]⟩,0,0⟩),.c (ic e),.c (ic f)]++rep 37 .deadv,[(.loc 5,[ic g,.own 7 i,ic j,ic l,sc m,sc n,ic o]),(.loc 4,[ic p,.nil,ic q,ic t,sc u,sc v,ic w]),(.par 0,[.imm x,ic y,ic z,ic a1,ic b1])]⟩ (rs25 r) (bs25 r)
 |.h4_25 a b c d e f g i j l m n o p q t u v w x y z a1 b1,r=>Fin cx25 Tryz.f25 (kAt qfD [1,1,1,1,1,0,0,0,1,0,1,1,0,1,0,4] []) ⟨[pP 0,.c (ic a),.deadv,.deadv,pL 4,pL 5,.c (.own 1 b),.c (ic c),.c (ic d)]++rep 36 .deadv++[.c (.ref ⟨⟨.slot 6,[]⟩,0,0⟩),.c (ic e),.c (ic f)]++rep 37 .deadv,[(.loc 5,[ic g,.imm i,ic j,ic l,sc m,sc n,ic o]),(.loc 4,[ic p,.nil,ic q,ic t,sc u,sc v,ic w]),(.par 0,[.imm x,ic y,ic z,ic a1,ic b1])]⟩ (rs25 r) (bs25 r)
 |.h5_25 a b c d e f g i j l m n o p q t u v w x y z a1 b1,r=>Fin cx25 Tryz.f25 (kAt qfD [1,1,1,1,1,0,0,0,1,0,1,1,0,1,0,0,1,1,1,2] []) ⟨[pP 0,.c (ic a),.deadv,.deadv,pL 4,pL 5,.c (.own 1 b),.c (ic c),.c (ic d)]++rep 36 .deadv++[.c (.ref ⟨⟨.slot 6,[]⟩,0,0⟩),.c (ic e),.c (ic f)]++rep 37 .deadv,[(.loc 5,[ic g,.own 7 i,ic j,ic l,sc m,sc n,ic o]),(.loc 4,[ic p,.nil,ic q,ic t,sc u,sc v,ic w]),(.par 0,[.imm x,ic y,ic z,ic a1,ic b1])]⟩ (rs25 r) (bs25 r)
 |.h6_25 a b c d e f g i j l m n o p q t u v w x,r=>Fin cx25 Tryz.f25 (kAt qfD [1,1,1,1,1,0,0,0,1,0,1,1,1,1,1,1,1,1,2] []) ⟨[pP 0,.c (ic a),.deadv,.deadv,pL 4,pL 5]++rep 76 .deadv++[.c (bc b),.deadv,.deadv],[(.loc 5,[ic c,.own 7 d,ic e,ic f,sc g,sc i,ic j]),(.loc 4,[ic l,.nil,ic m,ic n,sc o,sc p,ic q]),(.par 0,[.imm t,ic u,ic v,ic w,ic x])]⟩ (rs25 r) (bs25 r)
 |.h7_25 a b c d e f g i j l m n o p q t u v w x y z a1 b1,r=>Fin cx25 Tryz.f25 (kAt qfD [1,1,1,1,1,0,0,0,1,0,1,1,0,1,0,0,1,1,1,2] []) ⟨[pP 0,.c (ic a),.deadv,.deadv,pL 4,pL 5,.c (.own 1 b),.c (ic c),.c (ic d)]++rep 36 .deadv++[.c (.ref ⟨⟨.slot 6,[]⟩,0,0⟩),.c (ic e),.c (ic f)]++rep 37 .deadv,[(.loc 5,[ic g,.imm i,ic j,ic l,sc m,sc n,ic o]),(.loc 4,[ic p,.nil,ic q,ic t,sc u,sc v,ic w]),(.par 0,[.imm x,ic y,ic z,ic a1,ic b1])]⟩ (rs25 r) (bs25 r)
 |.e_46 a b c d e f,r=>Fin cx46 Tryz.f46 [.code qg7] (fr0 Tryz.f46 [pP 0,.c (ic a)] [[.imm b,ic c,ic d,ic e,ic f]]) (rs46 r) (bs46 r)
 |.h0_46 a b c d e f g i j l m n o p,r=>Fin cx46 Tryz.f46 (kAt qg7 [1,1,1,2] []) ⟨[pP 0,.c (ic a),.deadv,.deadv,pL 4,.c (sc b),.c (ic c)]++rep 29 .deadv,[(.loc 4,[ic d,.nil,ic e,ic f,sc g,sc i,ic j]),(.par 0,[.imm l,ic m,ic n,ic o,ic p])]⟩ (rs46 r) (bs46 r)
 |.h1_46 a b c d e f g i j l m n,r=>Fin cx46 Tryz.f46 (kAt qg7 [1,1,1,0,1,0,1,2] []) ⟨rep 4 .deadv++[pL 4]++rep 31 .deadv,[(.loc 4,[ic a,.own 7 b,ic c,ic d,sc e,sc f,ic g]),(.par 0,[.imm i,ic j,ic l,ic m,ic n])]⟩ (rs46 r) (bs46 r)
 |.h2_46 a b c d e f g i j l m n,r=>Fin cx46 Tryz.f46 (kAt qg7 [1,1,1,0,1,0,1,2] []) ⟨rep 4 .deadv++[pL 4]++rep 31 .deadv,[(.loc 4,[ic a,.imm b,ic c,ic d,sc e,sc f,ic g]),(.par 0,[.imm i,ic j,ic l,ic m,ic n])]⟩ (rs46 r) (bs46 r)
 |.h3_46 a b c d e f g i j l m n,r=>Fin cx46 Tryz.f46 (kAt qg7 [1,1,1,1,1,1,1,1,2] []) ⟨rep 4 .deadv++[pL 4]++rep 31 .deadv,[(.loc 4,[ic a,.own 7 b,ic c,ic d,sc e,sc f,ic g]),(.par 0,[.imm i,ic j,ic l,ic m,ic n])]⟩ (rs46 r) (bs46 r)
 |.e_47 a b c d e,r=>Fin cx47 Tryz.f47 [.code qpJ] (fr0 Tryz.f47 [pP 0] [[.imm a,ic b,ic c,ic d,ic e]]) (rs47 r) (bs47 r)
 |.h0_47 a b c d e f g i j l m n o p q t u v,r=>Fin cx47 Tryz.f47 (kAt qpJ [1,1,1,1,2] []) ⟨[.deadv,.deadv,pL 2,.deadv,pL 4]++rep 130 .deadv,[(.loc 4,[ic a,.own 7 b,ic c,ic d,sc e,sc f,ic g]),(.loc 2,[ic i,.nil,ic j,ic l,sc m,sc n,ic o]),(.par 0,[.imm p,ic q,ic t,ic u,ic v])]⟩ (rs47 r) (bs47 r)
 |.h1_47 a b c d e f g i j l m n o p q t u v,r=>Fin cx47 Tryz.f47 (kAt qpJ [1,1,1,1,2] []) ⟨[.deadv,.deadv,pL 2,.deadv,pL 4]++rep 130 .deadv,[(.loc 4,[ic a,.imm b,ic c,ic d,sc e,sc f,ic g]),(.loc 2,[ic i,.nil,ic j,ic l,sc m,sc n,ic o]),(.par 0,[.imm p,ic q,ic t,ic u,ic v])]⟩ (rs47 r) (bs47 r)
 |.h2_47 a b c d e f g i j l m n o p q t u v,r=>Fin cx47 Tryz.f47 (kAt qpJ [1,1,1,0,0,1,1,1,1,1,1,1,1,1,1,1,2] []) ⟨[pP 0,.deadv,pL 2,.deadv,pL 4]++rep 83 .deadv++[.c (bc a)]++rep 46 .deadv,[(.loc 4,[ic b,.nil,ic c,ic d,sc e,sc f,ic g]),(.loc 2,[ic i,.nil,ic j,ic l,sc m,sc n,ic o]),(.par 0,[.imm p,ic q,ic t,ic u,ic v])]⟩ (rs47 r) (bs47 r)
 |.h3_47 a b c d e f g i j l m n o p q t u,r=>Fin cx47 Tryz.f47 (kAt qpJ [1,1,1,0,0,1,1,1,1,1,1,1,1,1,1,1,0,1,1,2] []) ⟨[pP 0,.deadv,pL 2,.deadv,pL 4]++rep 130 .deadv,[(.loc 4,[ic a,.nil,ic b,ic c,sc d,sc e,ic f]),(.loc 2,[ic g,.nil,ic i,ic j,sc l,sc m,ic n]),(.par 0,[.imm o,ic p,ic q,ic t,ic u])]⟩ (rs47 r) (bs47 r)
 |.h4_47 a b c d e f g i j l m n o p q t u v,r=>Fin cx47 Tryz.f47 (kAt qpJ [1,1,1,0,0,1,1,1,1,1,1,1,1,1,1,1,1,1,2] []) ⟨[pP 0,.deadv,pL 2,.deadv,pL 4]++rep 101 .deadv++[.c (bc a)]++rep 28 .deadv,[(.loc 4,[ic b,.nil,ic c,ic d,sc e,sc f,ic g]),(.loc 2,[ic i,.nil,ic j,ic l,sc m,sc n,ic o]),(.par 0,[.imm p,ic q,ic t,ic u,ic v])]⟩ (rs47 r) (bs47 r)
 |.h5_47 a b c d e f g i j l m n o p q t u,r=>Fin cx47 Tryz.f47 (kAt qpJ [1,1,1,0,0,1,1,1,1,1,1,1,1,1,1,1,1,1,0,1,1,2] []) ⟨[pP 0,.deadv,pL 2,.deadv,pL 4]++rep 130 .deadv,[(.loc 4,[ic a,.nil,ic b,ic c,sc d,sc e,ic f]),(.loc 2,[ic g,.nil,ic i,ic j,sc l,sc m,ic n]),(.par 0,[.imm o,ic p,ic q,ic t,ic u])]⟩ (rs47 r) (bs47 r)
 |.h6_47 a b c d e f g i j l m n o p q t u v,r=>Fin cx47 Tryz.f47 (kAt qpJ [1,1,1,0,0,1,1,1,1,1,1,1,1,1,1,1,1,1,1,2] []) ⟨[pP 0,.deadv,pL 2,.deadv,pL 4]++rep 130 .deadv,[(.loc 4,[ic a,.own 7 b,ic c,ic d,sc e,sc f,ic g]),(.loc 2,[ic i,.nil,ic j,ic l,sc m,sc n,ic o]),(.par 0,[.imm p,ic q,ic t,ic u,ic v])]⟩ (rs47 r) (bs47 r)
abbrev E25 (a:Int)(b:Rs)(c d e f:Int)(r:qpk):Prop:=Ev Tryz.prog noHand 25 [pP 0,.c (ic a)] [[.imm b,ic c,ic d,ic e,ic f]] (qhG r) (bx25 r)
theorem qni {a:Int}{b:Rs}{c d e f:Int}{r:qpk}(h:P25 (.e_25 a b c d e f) (.inl r)):E25 a b c d e f r:=evF h
abbrev E46 (a:Int)(b:Rs)(c d e f:Int)(r:qpw):Prop:=Ev Tryz.prog noHand 46 [pP 0,.c (ic a)] [[.imm b,ic c,ic d,ic e,ic f]] (qmr r) (bx46 r)
theorem qnS {a:Int}{b:Rs}{c d e f:Int}{r:qpw}(h:P25 (.e_46 a b c d e f) (.inr (.inl r))):E46 a b c d e f r:=evF h
abbrev E47 (a:Rs)(b c d e:Int)(r:qpl):Prop:=Ev Tryz.prog noHand 47 [pP 0] [[.imm a,ic b,ic c,ic d,ic e]] (qtF r) (bx47 r)
theorem qui {a:Rs}{b c d e:Int}{r:qpl}(h:P25 (.e_47 a b c d e) (.inr (.inr r))):E47 a b c d e r:=evF h
theorem ok25:∀ k s r,itS qjZ k s=some r→P25 s r:=qF fun k rec ih s r h=>match s,h with
 |.e_25 ..,h=>by
  rcases qa h with⟨a,h⟩|⟨a,h⟩
  · cases h;exact mF 1 [tT 16 a]
  · rcases qa h with⟨b,h⟩|⟨b,h⟩
    · exact mA 1 (ih _ _ h) 10 [tF 16 a,tT 19 b] 85 38685626227668133582209004
    · exact mA 1 (ih _ _ h) 10 [tF 16 a,tF 19 b] 85 38685626227668133582209004
 |.h0_25 ..,h=>by
  replace h:=qa h;rcases h with⟨rfl,h⟩|⟨rfl,h⟩
  · obtain⟨_,a,h⟩:=qh h;replace h:=qf h;rcases h with⟨_,rfl,h⟩|⟨_,rfl,h⟩
    · replace h:=t12 h;cases h;exact mF 1 [cA 26 (qnS (ih _ _ (qqY a)))]
    · replace h:=t12 h;cases h;exact mF 1 [cA 26 (qnS (ih _ _ (qqY a)))]
  ·
   rcases qa h with⟨b,h⟩|⟨b,h⟩
   · obtain⟨_,c,h⟩:=b12 h;cases h;exact mF 1 [tT 28 b,cA 30 (qui (ih _ _ (qrZ c)))]
   ·
    obtain⟨_,c,h⟩:=qh h;replace h:=qf h;rcases h with⟨_,rfl,h⟩|⟨_,rfl,h⟩
    · replace h:=t11 h;exact mG 1 (ih _ _ h) 12 [tF 28 b,cA 34 (qni (ih _ _ (qoI c)))] 85 38685626227668133590597580 [] [(⟨⟨.loc 5,[]⟩,0,1⟩,some 7)]
    · replace h:=qf h;rcases h with⟨_,rfl,h⟩|⟨_,rfl,h⟩
      · replace h:=t12 h;exact mA 1 (ih _ _ h) 12 [tF 28 b,cA 34 (qni (ih _ _ (qoI c)))] 85 38685626227668133590597580
      · replace h:=t12 h;exact mA 1 (ih _ _ h) 12 [tF 28 b,cA 34 (qni (ih _ _ (qoI c)))] 85 38685626227668133590597580
 |.h1_25 ..,h=>by
  rcases qa h with⟨a,h⟩|⟨a,h⟩
  · obtain⟨_,b,h⟩:=b2 h;exact mA 1 (ih _ _ h) 16 [tT 39 a,cA 42 (ev48 b)] 85 38685626227421842985975308
  · cases h;exact mF 1 [tF 39 a]
 |.h2_25 ..,h=>by
  rcases qa h with⟨a,h⟩|⟨a,h⟩
  · obtain⟨_,b,h⟩:=b2 h;exact mA 1 (ih _ _ h) 16 [tT 39 a,cA 42 (ev48 b)] 85 38685626227421842985975308
  · cases h;exact mF 1 [tF 39 a]
 |.h3_25 ..,h=>by
  rcases qa h with⟨a,h⟩|⟨a,h⟩
  · obtain⟨_,b,h⟩:=YJ h;replace h:=qkP h;obtain⟨c,rfl,h⟩:=h;obtain⟨_,d,h⟩:=qh h;replace h:=QD h;obtain⟨_,_,rfl,h⟩:=h;replace h:=qa h;rcases h with⟨rfl,h⟩|⟨rfl,h⟩
    · exact mA 1 (ih _ _ h) 15 [tT 48 a,⟨(some 50,.bnd),[_],⟨qot b,trivial⟩⟩,⟨(some 51,.ld [sc c]),[_],⟨b.2,trivial⟩⟩,cA 54 (ev49 d)] 85 38685626227421842985975308
    · exact mA 1 (ih _ _ h) 15 [tT 48 a,⟨(some 50,.bnd),[_],⟨qot b,trivial⟩⟩,⟨(some 51,.ld [sc c]),[_],⟨b.2,trivial⟩⟩,cA 54 (ev49 d)] 85 38685626227421842985975308
  ·
   rcases qa h with⟨e,h⟩|⟨e,h⟩
   · cases h;exact mF 1 [tF 48 a,tT 60 e]
   ·
    obtain⟨_,f,h⟩:=b6 h;obtain⟨_,g,h⟩:=qh h;replace h:=qf h;rcases h with⟨_,rfl,h⟩|⟨_,rfl,h⟩
    · replace h:=t11 h;exact mA 1 (ih _ _ h) 19 [tF 48 a,tF 60 e,cA 63 (ev50 f),cA 77 (qni (ih _ _ (qoI g)))] 85 33849922949209616891772876
    · replace h:=qf h;rcases h with⟨_,rfl,h⟩|⟨_,rfl,h⟩
      · replace h:=t12 h;exact mA 1 (ih _ _ h) 19 [tF 48 a,tF 60 e,cA 63 (ev50 f),cA 77 (qni (ih _ _ (qoI g)))] 85 33849922949209616891772876
      · replace h:=t12 h;exact mA 1 (ih _ _ h) 19 [tF 48 a,tF 60 e,cA 63 (ev50 f),cA 77 (qni (ih _ _ (qoI g)))] 85 33849922949209616891772876
 |.h4_25 ..,h=>by
  rcases qa h with⟨a,h⟩|⟨a,h⟩
  · obtain⟨_,b,h⟩:=YJ h;replace h:=qkP h;obtain⟨c,rfl,h⟩:=h;obtain⟨_,d,h⟩:=qh h;replace h:=QD h;obtain⟨_,_,rfl,h⟩:=h;replace h:=qa h;rcases h with⟨rfl,h⟩|⟨rfl,h⟩
    · exact mA 1 (ih _ _ h) 15 [tT 48 a,⟨(some 50,.bnd),[_],⟨qot b,trivial⟩⟩,⟨(some 51,.ld [sc c]),[_],⟨b.2,trivial⟩⟩,cA 54 (ev49 d)] 85 38685626227421842985975308
    · exact mA 1 (ih _ _ h) 15 [tT 48 a,⟨(some 50,.bnd),[_],⟨qot b,trivial⟩⟩,⟨(some 51,.ld [sc c]),[_],⟨b.2,trivial⟩⟩,cA 54 (ev49 d)] 85 38685626227421842985975308
  ·
   rcases qa h with⟨e,h⟩|⟨e,h⟩
   · cases h;exact mF 1 [tF 48 a,tT 60 e]
   ·
    obtain⟨_,f,h⟩:=b6 h;obtain⟨_,g,h⟩:=qh h;replace h:=qf h;rcases h with⟨_,rfl,h⟩|⟨_,rfl,h⟩
    · replace h:=t11 h;exact mA 1 (ih _ _ h) 19 [tF 48 a,tF 60 e,cA 63 (ev50 f),cA 77 (qni (ih _ _ (qoI g)))] 85 33849922949209616891772876
    · replace h:=qf h;rcases h with⟨_,rfl,h⟩|⟨_,rfl,h⟩
      · replace h:=t12 h;exact mA 1 (ih _ _ h) 19 [tF 48 a,tF 60 e,cA 63 (ev50 f),cA 77 (qni (ih _ _ (qoI g)))] 85 33849922949209616891772876
      · replace h:=t12 h;exact mA 1 (ih _ _ h) 19 [tF 48 a,tF 60 e,cA 63 (ev50 f),cA 77 (qni (ih _ _ (qoI g)))] 85 33849922949209616891772876
 |.h5_25 ..,h=>by exact mA 1 (ih _ _ h) 1 [] 85 38685626227421842985975308
 |.h6_25 ..,h=>by
  replace h:=qa h;rcases h with⟨rfl,h⟩|⟨rfl,h⟩
  · cases h;exact mF 1 []
  · exact mA 1 (ih _ _ h) 3 [] 85 38685626227668133590597580
 |.h7_25 ..,h=>by exact mA 1 (ih _ _ h) 1 [] 85 38685626227421842985975308
 |.e_46 ..,h=>by
  rcases qa h with⟨a,h⟩|⟨a,h⟩
  · exact mA 1 (ih _ _ h) 9 [tT 10 a] 36 68719476620
  · exact mA 1 (ih _ _ h) 9 [tF 10 a] 36 68719476620
 |.h0_46 ..,h=>by
  obtain⟨_,a,h⟩:=b2 h;rcases qa h with⟨b,h⟩|⟨b,h⟩
  ·
   obtain⟨_,c,h⟩:=qh h;replace h:=qf h;rcases h with⟨_,rfl,h⟩|⟨_,rfl,h⟩
   · replace h:=t11 h;exact mG 1 (ih _ _ h) 6 [cA 13 (ev49 a),tT 14 b,cA 18 (qni (ih _ _ (qoI c)))] 36 68719476719 [] [(⟨⟨.loc 4,[]⟩,0,1⟩,some 7)]
   · replace h:=qf h;rcases h with⟨_,rfl,h⟩|⟨_,rfl,h⟩
     · replace h:=t12 h;exact mA 1 (ih _ _ h) 6 [cA 13 (ev49 a),tT 14 b,cA 18 (qni (ih _ _ (qoI c)))] 36 68719476719
     · replace h:=t12 h;exact mA 1 (ih _ _ h) 6 [cA 13 (ev49 a),tT 14 b,cA 18 (qni (ih _ _ (qoI c)))] 36 68719476719
  ·
   obtain⟨_,c,h⟩:=b6 h;obtain⟨_,d,h⟩:=qh h;replace h:=qf h;rcases h with⟨_,rfl,h⟩|⟨_,rfl,h⟩
   · replace h:=t11 h;exact mG 1 (ih _ _ h) 13 [cA 13 (ev49 a),tF 14 b,cA 20 (ev69 c),cA 23 (qni (ih _ _ (qoI d)))] 36 68719476719 [8] []
   · replace h:=qf h;rcases h with⟨_,rfl,h⟩|⟨_,rfl,h⟩
     · replace h:=t12 h;exact mG 1 (ih _ _ h) 13 [cA 13 (ev49 a),tF 14 b,cA 20 (ev69 c),cA 23 (qni (ih _ _ (qoI d)))] 36 68719476719 [8] []
     · replace h:=t12 h;exact mG 1 (ih _ _ h) 13 [cA 13 (ev49 a),tF 14 b,cA 20 (ev69 c),cA 23 (qni (ih _ _ (qoI d)))] 36 68719476719 [8] []
 |.h1_46 ..,h=>by cases h;exact mF 1 []
 |.h2_46 ..,h=>by cases h;exact mF 1 []
 |.h3_46 ..,h=>by cases h;exact mF 1 []
 |.e_47 ..,h=>by
  obtain⟨_,a,h⟩:=b6 h;rcases qa h with⟨b,h⟩|⟨b,h⟩
  · exact mG 1 (ih _ _ h) 15 [cA 6 (ev50 a),tT 15 b] 135 43556142965880123323311949751266331066347 [3] [(⟨⟨.loc 4,[]⟩,0,1⟩,some 7)]
  ·
   rcases qa h with⟨c,h⟩|⟨c,h⟩
   · exact mG 1 (ih _ _ h) 18 [cA 6 (ev50 a),tF 15 b,tT 30 c] 135 43556142965880123323311949751266331066347 [3] [(⟨⟨.loc 4,[]⟩,0,1⟩,some 7)]
   ·
    rcases qa h with⟨d,h⟩|⟨d,h⟩
    · exact mG 1 (ih _ _ h) 21 [cA 6 (ev50 a),tF 15 b,tF 30 c,tT 48 d] 135 43556142965880123323311949751266331066347 [3] [(⟨⟨.loc 4,[]⟩,0,1⟩,some 7)]
    ·
     rcases qa h with⟨e,h⟩|⟨e,h⟩
     · obtain⟨_,f,h⟩:=b6 h;exact mG 1 (ih _ _ h) 24 [cA 6 (ev50 a),tF 15 b,tF 30 c,tF 48 d,tT 63 e,cA 67 (ev70 f)] 135 43556142965880123323311949751266331066347 [3] [(⟨⟨.loc 4,[]⟩,0,1⟩,some 7)]
     ·
      obtain⟨_,f,h⟩:=qh h;replace h:=QD h;obtain⟨_,_,rfl,h⟩:=h;replace h:=qa h;rcases h with⟨rfl,h⟩|⟨rfl,h⟩
      · obtain⟨_,g,h⟩:=b6 h;obtain⟨_,i,h⟩:=qh h;replace h:=qf h;rcases h with⟨_,rfl,h⟩|⟨_,rfl,h⟩
        · replace h:=t11 h;obtain⟨_,j,h⟩:=b4 h;exact mG 1 (ih _ _ h) 31 [cA 6 (ev50 a),tF 15 b,tF 30 c,tF 48 d,tF 63 e,cA 74 (ev49 f),cA 76 (ev69 g),cA 78 (qni (ih _ _ (qoI i))),cA 80 (ev71 j)] 135 43556142965880123323311949751266331066347 [3] [(⟨⟨.loc 4,[]⟩,0,1⟩,some 7)]
        · replace h:=qf h;rcases h with⟨_,rfl,h⟩|⟨_,rfl,h⟩
          · replace h:=t12 h;obtain⟨_,j,h⟩:=b4 h;exact mG 1 (ih _ _ h) 31 [cA 6 (ev50 a),tF 15 b,tF 30 c,tF 48 d,tF 63 e,cA 74 (ev49 f),cA 76 (ev69 g),cA 78 (qni (ih _ _ (qoI i))),cA 80 (ev71 j)] 135 43556142965880123323311949751266331066347 [3] []
          · replace h:=t12 h;obtain⟨_,j,h⟩:=b4 h;exact mG 1 (ih _ _ h) 31 [cA 6 (ev50 a),tF 15 b,tF 30 c,tF 48 d,tF 63 e,cA 74 (ev49 f),cA 76 (ev69 g),cA 78 (qni (ih _ _ (qoI i))),cA 80 (ev71 j)] 135 43556142965880123323311949751266331066347 [3] []
      · obtain⟨_,g,h⟩:=qh h;replace h:=QD h;obtain⟨_,_,rfl,h⟩:=h;replace h:=qa h;rcases h with⟨rfl,h⟩|⟨rfl,h⟩
        · exact mG 1 (ih _ _ h) 25 [cA 6 (ev50 a),tF 15 b,tF 30 c,tF 48 d,tF 63 e,cA 74 (ev49 f),cA 90 (ev49 g)] 135 43556142965879813838302128406197606285290 [3] []
        · obtain⟨_,i,h⟩:=b2 h;exact mG 1 (ih _ _ h) 25 [cA 6 (ev50 a),tF 15 b,tF 30 c,tF 48 d,tF 63 e,cA 74 (ev49 f),cA 90 (ev49 g),cA 93 (ev49 i)] 135 43556142965879813838302128406197606285290 [3] []
 |.h0_47 ..,h=>by cases h;exact mF 1 []
 |.h1_47 ..,h=>by cases h;exact mF 1 []
 |.h2_47 ..,h=>by
  replace h:=qa h;rcases h with⟨rfl,h⟩|⟨rfl,h⟩
  · obtain⟨_,a,h⟩:=qh h;replace h:=QD h;obtain⟨_,_,rfl,h⟩:=h;replace h:=qa h;rcases h with⟨rfl,h⟩|⟨rfl,h⟩
    · exact mA 1 (ih _ _ h) 8 [cA 97 (ev49 a)] 135 43556142965880123323311949751266331066346
    · exact mA 1 (ih _ _ h) 8 [cA 97 (ev49 a)] 135 43556142965880123323311949751266331066346
  · obtain⟨_,a,h⟩:=qh h;replace h:=QD h;obtain⟨_,_,rfl,h⟩:=h;replace h:=qa h;rcases h with⟨rfl,h⟩|⟨rfl,h⟩
    · exact mA 1 (ih _ _ h) 3 [cA 108 (ev49 a)] 135 43556142884750484908705268055477325922282
    · obtain⟨_,b,h⟩:=b2 h;exact mA 1 (ih _ _ h) 3 [cA 108 (ev49 a),cA 111 (ev49 b)] 135 43556142884750484908705268055477325922282
 |.h3_47 ..,h=>by exact mG 1 (ih _ _ h) 2 [] 135 43556142965880123323311949751266331066347 [] [(⟨⟨.loc 4,[]⟩,0,1⟩,some 7)]
 |.h4_47 ..,h=>by
  replace h:=qa h;rcases h with⟨rfl,h⟩|⟨rfl,h⟩
  · obtain⟨_,a,h⟩:=qh h;replace h:=QD h;obtain⟨_,_,rfl,h⟩:=h;replace h:=qa h;rcases h with⟨rfl,h⟩|⟨rfl,h⟩
    · exact mA 1 (ih _ _ h) 8 [cA 115 (ev49 a)] 135 43556142965880123323311949751266331066346
    · exact mA 1 (ih _ _ h) 8 [cA 115 (ev49 a)] 135 43556142965880123323311949751266331066346
  · exact mG 1 (ih _ _ h) 1 [] 135 43556142965880123323311949751266331066346 [] [(⟨⟨.loc 4,[]⟩,0,1⟩,some 7)]
 |.h5_47 ..,h=>by
  obtain⟨_,a,h⟩:=b6 h;obtain⟨_,b,h⟩:=b4 h;obtain⟨_,c,h⟩:=qh h;replace h:=qf h;rcases h with⟨_,rfl,h⟩|⟨_,rfl,h⟩
  · replace h:=t11 h;obtain⟨_,d,h⟩:=b4 h;exact mA 1 (ih _ _ h) 10 [cA 118 (ev69 a),cA 120 (ev71 b),cA 122 (qni (ih _ _ (qoI c))),cA 126 (ev71 d)] 135 43556142965880123323311949751266331066347
  · replace h:=qf h;rcases h with⟨_,rfl,h⟩|⟨_,rfl,h⟩
    · replace h:=t12 h;obtain⟨_,d,h⟩:=b4 h;exact mA 1 (ih _ _ h) 10 [cA 118 (ev69 a),cA 120 (ev71 b),cA 122 (qni (ih _ _ (qoI c))),cA 126 (ev71 d)] 135 43556142965880123323311949751266331066347
    · replace h:=t12 h;obtain⟨_,d,h⟩:=b4 h;exact mA 1 (ih _ _ h) 10 [cA 118 (ev69 a),cA 120 (ev71 b),cA 122 (qni (ih _ _ (qoI c))),cA 126 (ev71 d)] 135 43556142965880123323311949751266331066347
 |.h6_47 ..,h=>by obtain⟨_,a,h⟩:=b8 h;exact mA 1 (ih _ _ h) 2 [cA 11 (quc a)] 135 43556142965880123323311949751266331066347
theorem ev25 {k:Nat}{a:Int}{b:Rs}{c d e f:Int}{r:qpk}(h:g25 k a b c d e f=some r):E25 a b c d e f r:=qni (ok25 _ _ _ (qoI h))
inductive S13 where
 |e (a:Rs)(b:Int)
 |h0 (a:Rs)(b:Int)(c:Bool)(d e f:Int)(g i:By)(j:Int)
 |h1 (a b c d:Int)(e:Rs)(f g:Int)(i j:By)(l:Int)
 |h2 (a:Bool)(b:Int)(c:Rs)(d e:Int)(f g:By)(i:Int)(j:Rs)(l m n o p q t:Int)(u v:By)(w:Int)
 |h3 (a:Bool)(b:Int)(c:Rs)(d e:Int)(f g:By)(i:Int)(j:Rs)(l m n o p q t:Int)(u v:By)(w:Int)
 |h4 (a b c d:Int)(e:Rs)(f g:Int)(i j:By)(l:Int)
 |h5 (a b c d:Int)(e:Rs)(f g:Int)(i j:By)(l:Int)
abbrev R13:=Int×Rs×Int×Int×By×By×Int×Int×Int×Int
def qcN:R13→ARes
 |(a,b,c,d,e,f,g,i,j,l)=>.ret ⟨.tup [true,false,false,false],[[ic a,.imm b,ic c,ic d,sc e,sc f,ic g],[ic i],[ic j],[ic l]]⟩
def bx13:R13→List (List Cell)
 |(_,_,_,_,_,_,_,_,_,_)=>[]
noncomputable def zx (k:Nat)(rec:S13→Option R13):S13→Option R13
 |.e a b=>
  bif decide (b<0)then
   rec (.h0 a b true 0 0 0 (strB []) (strB []) 0)
  else
   rec (.h0 a b (decide (b≥(a.length:Int))) 0 0 0 (strB []) (strB []) 0)
 |.h0 a b c d e f g i j=>
  bif c then
   rec (.h1 0 0 1 0 [] 0 0 (strB []) (strB []) 0)
  else
   (g25 k 1 a b 0 0 0).bind fun l=>
   altC l (fun m=>
     qoG m fun n o p q t u v w x y z=>
     rec (.h2 (y != 0) n [] o p q t u v w x y z d e f g i j)) (fun a1=>altC a1 (fun m=>
     zu m fun n b1 o p q t u v w x y z=>
     rec (.h2 (y != 0) n b1 o p q t u v w x y z d e f g i j)) (fun m=>
     zu m fun n b1 o p q t u v w x y z=>
     rec (.h3 (y != 0) n b1 o p q t u v w x y z d e f g i j)))
 |.h1 a b c d e f g i j l=>some (d,e,f,g,i,j,l,a,b,c)
 |.h2 a b c d e f g i _ j _ l m ..=>
  bif a then
   rec (.h4 0 m l 0 [] 0 0 (strB []) (strB []) 0)
  else
   rec (.h5 j 0 0 b (qG c) d e f g i)
 |.h3 a b c d e f g i _ j _ l m ..=>
  bif a then
   rec (.h4 0 m l 0 [] 0 0 (strB []) (strB []) 0)
  else
   rec (.h5 j 0 0 b c d e f g i)
 |.h4 a b c d e f g i j l=>some (d,e,f,g,i,j,l,a,b,c)
 |.h5 a b c d e f g i j l=>some (d,e,f,g,i,j,l,a,b,c)
noncomputable def g13 (k:Nat)(a:Rs)(b:Int):Option R13:=itS zx k (.e a b)
noncomputable def P13:S13→R13→Prop
 |.e a b,r=>Fin cx13 Tryz.f13 [.code qac] (fr0 Tryz.f13 [.c (.imm a),.c (ic b)] []) (qcN r) (bx13 r)
 |.h0 a b c d e f g i j,r=>Fin cx13 Tryz.f13 (kAt qac [1,0,1,2] []) ⟨[.c (.imm a),.c (ic b),.deadv,.deadv,pL 4]++rep 12 .deadv++[.c (bc c)]++rep 26 .deadv,[(.loc 4,[ic d,.nil,ic e,ic f,sc g,sc i,ic j])]⟩ (qcN r) (bx13 r)
 |.h1 a b c d e f g i j l,r=>Fin cx13 Tryz.f13 (kAt qac [1,0,1,0,1,2] []) ⟨rep 4 .deadv++[pL 4,.c (ic a),.c (ic b),.c (ic c)]++rep 36 .deadv,[(.loc 4,[ic d,.imm e,ic f,ic g,sc i,sc j,ic l])]⟩ (qcN r) (bx13 r)
 |.h2 a b c d e f g i j l m n o p q t u v w,r=>Fin cx13 Tryz.f13 (kAt qac [1,1,1,1,0,1,2] []) ⟨rep 4 .deadv++[pL 4]++rep 3 .deadv++[pL 22,pL 9]++rep 19 .deadv++[.c (bc a)]++rep 14 .deadv,[(.loc 9,[ic b,.own 7 c,ic d,ic e,sc f,sc g,ic i]),(.loc 22,[.imm j,ic l,ic m,ic n,ic o]),(.loc 4,[ic p,.nil,ic q,ic t,sc u,sc v,ic w])]⟩ (qcN r) (bx13 r)
 |.h3 a b c d e f g i j l m n o p q t u v w,r=>Fin cx13 Tryz.f13 (kAt qac [1,1,1,1,0,1,2] []) ⟨rep 4 .deadv++[pL 4]++rep 3 .deadv++[pL 22,pL 9]++rep 19 .deadv++[.c (bc a)]++rep 14 .deadv,[(.loc 9,[ic b,.imm c,ic d,ic e,sc f,sc g,ic i]),(.loc 22,[.imm j,ic l,ic m,ic n,ic o]),(.loc 4,[ic p,.nil,ic q,ic t,sc u,sc v,ic w])]⟩ (qcN r) (bx13 r)
 |.h4 a b c d e f g i j l,r=>Fin cx13 Tryz.f13 (kAt qac [1,1,1,1,0,1,0,1,2] []) ⟨rep 4 .deadv++[pL 4,.c (ic a),.c (ic b),.c (ic c)]++rep 36 .deadv,[(.loc 4,[ic d,.imm e,ic f,ic g,sc i,sc j,ic l])]⟩ (qcN r) (bx13 r)
 |.h5 a b c d e f g i j l,r=>Fin cx13 Tryz.f13 (kAt qac [1,1,1,1,1,1,2] []) ⟨rep 4 .deadv++[pL 4,.c (ic a),.c (ic b),.c (ic c)]++rep 36 .deadv,[(.loc 4,[ic d,.imm e,ic f,ic g,sc i,sc j,ic l])]⟩ (qcN r) (bx13 r)
abbrev E13 (a:Rs)(b:Int)(r:R13):Prop:=Ev Tryz.prog noHand 13 [.c (.imm a),.c (ic b)] [] (qcN r) (bx13 r)
theorem qnR {a:Rs}{b:Int}{r:R13}(h:P13 (.e a b) r):E13 a b r:=evF h
theorem ok13:∀ k s r,itS zx k s=some r→P13 s r:=qF fun k rec ih s r h=>match s,h with
 |.e ..,h=>by
  rcases qa h with⟨a,h⟩|⟨a,h⟩
  · exact mA 0 (ih _ _ h) 5 [tT 11 a] 44 17592185913324
  · exact mA 0 (ih _ _ h) 5 [tF 11 a] 44 17592185913324
 |.h0 ..,h=>by
  replace h:=qa h;rcases h with⟨rfl,h⟩|⟨rfl,h⟩
  · exact mG 0 (ih _ _ h) 3 [] 44 17592186044175 [] [(⟨⟨.loc 4,[]⟩,0,1⟩,none)]
  ·
   obtain⟨_,a,h⟩:=qh h;replace h:=qf h;rcases h with⟨_,rfl,h⟩|⟨_,rfl,h⟩
   · replace h:=t11 h;exact mG 0 (ih _ _ h) 9 [cA 24 (ev25 a)] 44 17591649172719 [] [(⟨⟨.loc 9,[]⟩,0,1⟩,some 7)]
   · replace h:=qf h;rcases h with⟨_,rfl,h⟩|⟨_,rfl,h⟩
     · replace h:=t12 h;exact mA 0 (ih _ _ h) 9 [cA 24 (ev25 a)] 44 17591649172719
     · replace h:=t12 h;exact mA 0 (ih _ _ h) 9 [cA 24 (ev25 a)] 44 17591649172719
 |.h1 ..,h=>by cases h;exact mF 0 []
 |.h2 ..,h=>by
  replace h:=qa h;rcases h with⟨rfl,h⟩|⟨rfl,h⟩
  · exact mG 0 (ih _ _ h) 3 [] 44 17592186044175 [9,22] [(⟨⟨.loc 4,[]⟩,0,1⟩,none)]
  · exact mG 0 (ih _ _ h) 4 [] 44 17592186044175 [9,22] []
 |.h3 ..,h=>by
  replace h:=qa h;rcases h with⟨rfl,h⟩|⟨rfl,h⟩
  · exact mG 0 (ih _ _ h) 3 [] 44 17592186044175 [9,22] [(⟨⟨.loc 4,[]⟩,0,1⟩,none)]
  · exact mG 0 (ih _ _ h) 4 [] 44 17592186044175 [9,22] []
 |.h4 ..,h=>by cases h;exact mF 0 []
 |.h5 ..,h=>by cases h;exact mF 0 []
theorem ev13 {k:Nat}{a:Rs}{b:Int}{r:R13}(h:g13 k a b=some r):E13 a b r:=qnR (ok13 _ _ _ h)
inductive S18 where
 |e (a:Int)(b:Rs)(c d:Int)(e f:By)(g:Int)
 |h0 (a b c d:Int)(e:Rs)(f g:Int)(i j:By)(l:Int)
abbrev R18:=Int
def qlw:R18→ARes
 |r=>.ret (.c (ic r))
def bx18:R18→List (List Cell)
 |_=>[]
noncomputable def qj2 (k:Nat)(rec:S18→Option R18):S18→Option R18
 |.e a b c d e f g=>rec (.h0 1 (b.length:Int) 0 a b c d e f g)
 |.h0 a b c d e f g i j l=>
  bif decide (c<b)then
   ixR e c fun m=>
   qE m fun n o p q t u v=>
   (rec (.e n o p q t u v)).bind fun w=>
   rec (.h0 (IntKind.i64.wrap (a+w)) b (IntKind.i64.wrap (c+1)) d e f g i j l)
  else
   some a
noncomputable def g18 (k:Nat)(a:Int)(b:Rs)(c d:Int)(e f:By)(g:Int):Option R18:=itS qj2 k (.e a b c d e f g)
noncomputable def P18:S18→R18→Prop
 |.e a b c d e f g,r=>Fin cx18 Tryz.f18 [.code qne] (fr0 Tryz.f18 [.ag [ic a,.imm b,ic c,ic d,sc e,sc f,ic g]] []) (qlw r) (bx18 r)
 |.h0 a b c d e f g i j l,r=>Fin cx18 Tryz.f18 (kAt qne [1,1,0,1,0,4] []) ⟨[.deadv,pL 1,.deadv,.c (ic a)]++rep 3 .deadv++[.c (ic b),.c (ic c)]++rep 12 .deadv,[(.loc 1,[ic d,.imm e,ic f,ic g,sc i,sc j,ic l])]⟩ (qlw r) (bx18 r)
abbrev E18 (a:Int)(b:Rs)(c d:Int)(e f:By)(g:Int)(r:R18):Prop:=Ev Tryz.prog noHand 18 [.ag [ic a,.imm b,ic c,ic d,sc e,sc f,ic g]] [] (qlw r) (bx18 r)
theorem qlt {a:Int}{b:Rs}{c d:Int}{e f:By}{g:Int}{r:R18}(h:P18 (.e a b c d e f g) r):E18 a b c d e f g r:=evF h
theorem ok18:∀ k s r,itS qj2 k s=some r→P18 s r:=qF fun k rec ih s r h=>match s,h with
 |.e ..,h=>by exact mA 0 (ih _ _ h) 9 [] 21 2096757
 |.h0 ..,h=>by
  rcases qa h with⟨a,h⟩|⟨a,h⟩
  · obtain⟨_,b,h⟩:=YJ h;replace h:=zB h;obtain⟨_,_,_,_,_,_,_,rfl,h⟩:=h;obtain⟨_,c,h⟩:=qh h;exact mA 0 (ih _ _ h) 13 [tT 9 a,rA 15 b,cA 17 (qlt (ih _ _ c))] 21 2096757
  · cases h;exact mF 0 [tF 9 a]
theorem ev18 {k:Nat}{a:Int}{b:Rs}{c d:Int}{e f:By}{g:Int}{r:R18}(h:g18 k a b c d e f g=some r):E18 a b c d e f g r:=qlt (ok18 _ _ _ h)
inductive S7 where
 |e (a:By)
 |h0 (a b c:Int)(d:Rs)(e f:Int)(g i:By)(j:Int)
 |h1 (a b c:Int)(d:Rs)(e f:Int)(g i:By)(j:Int)
 |h2 (a b c:Int)(d:Rs)(e f:Int)(g i:By)(j:Int)
 |h3 (a b c:Int)(d:Rs)(e f:Int)(g i:By)(j:Int)
 |h4 (a b c:Int)(d:Rs)(e f:Int)(g i:By)(j:Int)
abbrev R7:=Int×Rs×Int×Int×By×By×Int×Int×Int
def res7:R7→ARes
 |(a,b,c,d,e,f,g,i,j)=>.ret ⟨.tup [true,false,false],[[ic a,.imm b,ic c,ic d,sc e,sc f,ic g],[ic i],[ic j]]⟩
def bx7:R7→List (List Cell)
 |(_,_,_,_,_,_,_,_,_)=>[]
noncomputable def qm4 (k:Nat)(rec:S7→Option R7):S7→Option R7
 |.e a=>
  (g11 k a).bind fun b=>
  tup3 b fun c d e=>
  bif e != 0 then
   rec (.h0 d e 0 [] 0 0 (strB []) (strB []) 0)
  else
   (g13 k (qG c) 0).bind fun f=>
   ql f fun g i j l m n o p q t=>
   bif t != 0 then
    rec (.h1 q t 0 [] 0 0 (strB []) (strB []) 0)
   else
    ixR (qG c) p fun u=>
    qaM u fun v _ _ _ w=>
    bif v != 0 then
     rec (.h2 w 13 0 [] 0 0 (strB []) (strB []) 0)
    else
     (g18 k g i j l m n o).bind fun x=>
     bif decide (x>200)then
      rec (.h3 0 2 0 [] 0 0 (strB []) (strB []) 0)
     else
      rec (.h4 0 0 g i j l m n o)
 |.h0 a b c d e f g i j=>some (c,d,e,f,g,i,j,a,b)
 |.h1 a b c d e f g i j=>some (c,d,e,f,g,i,j,a,b)
 |.h2 a b c d e f g i j=>some (c,d,e,f,g,i,j,a,b)
 |.h3 a b c d e f g i j=>some (c,d,e,f,g,i,j,a,b)
 |.h4 a b c d e f g i j=>some (c,d,e,f,g,i,j,a,b)
noncomputable def g7 (k:Nat)(a:By):Option R7:=itS qm4 k (.e a)
noncomputable def P7:S7→R7→Prop
 |.e a,r=>Fin cx7 Tryz.f7 [.code qnU] (fr0 Tryz.f7 [.c (sc a)] []) (res7 r) (bx7 r)
 |.h0 a b c d e f g i j,r=>Fin cx7 Tryz.f7 (kAt qnU [1,1,0,1,0,1,2] []) ⟨[.deadv,.deadv,pL 2,.c (ic a),.c (ic b)]++rep 45 .deadv,[(.loc 2,[ic c,.imm d,ic e,ic f,sc g,sc i,ic j])]⟩ (res7 r) (bx7 r)
 |.h1 a b c d e f g i j,r=>Fin cx7 Tryz.f7 (kAt qnU [1,1,1,1,0,1,0,1,2] []) ⟨[.deadv,.deadv,pL 2,.c (ic a),.c (ic b)]++rep 45 .deadv,[(.loc 2,[ic c,.imm d,ic e,ic f,sc g,sc i,ic j])]⟩ (res7 r) (bx7 r)
 |.h2 a b c d e f g i j,r=>Fin cx7 Tryz.f7 (kAt qnU [1,1,1,1,1,0,1,0,1,2] []) ⟨[.deadv,.deadv,pL 2,.c (ic a),.c (ic b)]++rep 45 .deadv,[(.loc 2,[ic c,.imm d,ic e,ic f,sc g,sc i,ic j])]⟩ (res7 r) (bx7 r)
 |.h3 a b c d e f g i j,r=>Fin cx7 Tryz.f7 (kAt qnU [1,1,1,1,1,1,0,1,0,1,2] []) ⟨[.deadv,.deadv,pL 2,.c (ic a),.c (ic b)]++rep 45 .deadv,[(.loc 2,[ic c,.imm d,ic e,ic f,sc g,sc i,ic j])]⟩ (res7 r) (bx7 r)
 |.h4 a b c d e f g i j,r=>Fin cx7 Tryz.f7 (kAt qnU [1,1,1,1,1,1,1,1,2] []) ⟨[.deadv,.deadv,pL 2,.c (ic a),.c (ic b)]++rep 45 .deadv,[(.loc 2,[ic c,.imm d,ic e,ic f,sc g,sc i,ic j])]⟩ (res7 r) (bx7 r)
abbrev E7 (a:By)(r:R7):Prop:=Ev Tryz.prog noHand 7 [.c (sc a)] [] (res7 r) (bx7 r)
theorem evr7 {a:By}{r:R7}(h:P7 (.e a) r):E7 a r:=evF h
theorem ok7:∀ k s r,itS qm4 k s=some r→P7 s r:=qF fun k rec ih s r h=>match s,h with
 |.e ..,h=>by
  obtain⟨_,a,h⟩:=b3 h;rcases qa h with⟨b,h⟩|⟨b,h⟩
  · exact mG 0 (ih _ _ h) 10 [cA 12 (ev11 a),tT 17 b] 50 1125899906842595 [] [(⟨⟨.loc 2,[]⟩,0,1⟩,none)]
  ·
   obtain⟨_,c,h⟩:=b10 h;rcases qa h with⟨d,h⟩|⟨d,h⟩
   · exact mG 0 (ih _ _ h) 17 [cA 12 (ev11 a),tF 17 b,cF 23 (ev13 c),tT 29 d] 50 1125899906842595 [8] [(⟨⟨.loc 2,[]⟩,0,1⟩,none)]
   ·
    obtain⟨_,e,h⟩:=YJ h;replace h:=qca h;obtain⟨_,_,_,_,_,rfl,h⟩:=h;rcases qa h with⟨f,h⟩|⟨f,h⟩
    · exact mG 0 (ih _ _ h) 22 [cA 12 (ev11 a),tF 17 b,cF 23 (ev13 c),tF 29 d,rA 35 e,tT 38 f,rA 42 e] 50 1125899906842595 [8] [(⟨⟨.loc 2,[]⟩,0,1⟩,none)]
    · obtain⟨_,g,h⟩:=qh h;rcases qa h with⟨i,h⟩|⟨i,h⟩
      · exact mG 0 (ih _ _ h) 27 [cA 12 (ev11 a),tF 17 b,cF 23 (ev13 c),tF 29 d,rA 35 e,tF 38 f,cA 46 (ev18 g),tT 47 i] 50 1125899906842595 [8] [(⟨⟨.loc 2,[]⟩,0,1⟩,none)]
      · exact mG 0 (ih _ _ h) 28 [cA 12 (ev11 a),tF 17 b,cF 23 (ev13 c),tF 29 d,rA 35 e,tF 38 f,cA 46 (ev18 g),tF 47 i] 50 1125899906842595 [8] []
 |.h0 ..,h=>by cases h;exact mF 0 []
 |.h1 ..,h=>by cases h;exact mF 0 []
 |.h2 ..,h=>by cases h;exact mF 0 []
 |.h3 ..,h=>by cases h;exact mF 0 []
 |.h4 ..,h=>by cases h;exact mF 0 []
theorem ev7 {k:Nat}{a:By}{r:R7}(h:g7 k a=some r):E7 a r:=evr7 (ok7 _ _ _ h)
inductive S51 where
 |e (a:Int)
 |h0 (a:Int)(b:Bool)
 |h1 (a:Int)(b:Bool)
 |h2 (a:Bool)
abbrev R51:=Int
def qmz:R51→ARes
 |r=>.ret (.c (ic r))
def bx51:R51→List (List Cell)
 |_=>[]
noncomputable def qss (k:Nat)(rec:S51→Option R51):S51→Option R51
 |.e a=>
  bif a==6 then
   rec (.h0 a true)
  else
   bif a==15 then
    rec (.h0 a true)
   else
    bif a==16 then
     rec (.h0 a true)
    else
     rec (.h0 a (a==17))
 |.h0 a b=>
  bif b then
   some 1
  else
   bif decide (a≥1)then
    rec (.h1 a (decide (a≤14)))
   else
    rec (.h1 a false)
 |.h1 a b=>
  bif b then
   some 2
  else
   bif decide (a≥20)then
    rec (.h2 (decide (a≤31)))
   else
    rec (.h2 false)
 |.h2 a=>
  bif a then
   some 0
  else
   some (-1)
noncomputable def g51 (k:Nat)(a:Int):Option R51:=itS qss k (.e a)
noncomputable def P51:S51→R51→Prop
 |.e a,r=>Fin cx51 Tryz.f51 [.code qhR] (fr0 Tryz.f51 [.c (ic a)] []) (qmz r) (bx51 r)
 |.h0 a b,r=>Fin cx51 Tryz.f51 (kAt qhR [1,0,0,1,2] []) ⟨[.c (ic a),.deadv,.deadv,.c (bc b)]++rep 28 .deadv,[]⟩ (qmz r) (bx51 r)
 |.h1 a b,r=>Fin cx51 Tryz.f51 (kAt qhR [1,0,0,1,1,1,2] []) ⟨[.c (ic a)]++rep 17 .deadv++[.c (bc b)]++rep 13 .deadv,[]⟩ (qmz r) (bx51 r)
 |.h2 a,r=>Fin cx51 Tryz.f51 (kAt qhR [1,0,0,1,1,1,1,1,2] []) ⟨rep 25 .deadv++[.c (bc a)]++rep 6 .deadv,[]⟩ (qmz r) (bx51 r)
abbrev E51 (a:Int)(r:R51):Prop:=Ev Tryz.prog noHand 51 [.c (ic a)] [] (qmz r) (bx51 r)
theorem qmK {a:Int}{r:R51}(h:P51 (.e a) r):E51 a r:=evF h
theorem ok51:∀ k s r,itS qss k s=some r→P51 s r:=qF fun k rec ih s r h=>match s,h with
 |.e ..,h=>by
  rcases qa h with⟨a,h⟩|⟨a,h⟩
  · exact mA 0 (ih _ _ h) 6 [tT 5 a] 32 4294967286
  ·
   rcases qa h with⟨b,h⟩|⟨b,h⟩
   · exact mA 0 (ih _ _ h) 6 [tF 5 a,tT 8 b] 32 4294967286
   · rcases qa h with⟨c,h⟩|⟨c,h⟩
     · exact mA 0 (ih _ _ h) 6 [tF 5 a,tF 8 b,tT 12 c] 32 4294967286
     · exact mA 0 (ih _ _ h) 6 [tF 5 a,tF 8 b,tF 12 c] 32 4294967286
 |.h0 ..,h=>by
  replace h:=qa h;rcases h with⟨rfl,h⟩|⟨rfl,h⟩
  · cases h;exact mF 0 []
  · rcases qa h with⟨a,h⟩|⟨a,h⟩
    · exact mA 0 (ih _ _ h) 3 [tT 20 a] 32 4294705150
    · exact mA 0 (ih _ _ h) 3 [tF 20 a] 32 4294705150
 |.h1 ..,h=>by
  replace h:=qa h;rcases h with⟨rfl,h⟩|⟨rfl,h⟩
  · cases h;exact mF 0 []
  · rcases qa h with⟨a,h⟩|⟨a,h⟩
    · exact mA 0 (ih _ _ h) 3 [tT 27 a] 32 4261412863
    · exact mA 0 (ih _ _ h) 3 [tF 27 a] 32 4261412863
 |.h2 ..,h=>by
  replace h:=qa h;rcases h with⟨rfl,h⟩|⟨rfl,h⟩
  · cases h;exact mF 0 []
  · cases h;exact mF 0 []
theorem ev51 {k:Nat}{a:Int}{r:R51}(h:g51 k a=some r):E51 a r:=qmK (ok51 _ _ _ h)
end Ab
end Go.Proofs.YtfekohpjaafnhaaGreatDoor
