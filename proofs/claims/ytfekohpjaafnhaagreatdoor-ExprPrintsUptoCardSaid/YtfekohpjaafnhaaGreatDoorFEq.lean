/-
  Functions' ways, printed by a program: what each computes, and that this is what the interpreter computes.
-/
import Derived.Test.YtfekohpjaafnhaaGreatDoorSfq
import Derived.KernelRfl
set_option linter.all false
set_option maxRecDepth 10000
namespace Go.Proofs.YtfekohpjaafnhaaGreatDoor
namespace Ab
variable [vo]
def qE {α:Type}(row:List Cell)(k:Int→Rs→Int→Int→ByteArray→ByteArray→Int→Option α):Option α:=match row with
  |[.val (.int .i64 x0),.imm x1,.val (.int .i64 x2),.val (.int .i64 x3),.val (.string x4),.val (.string x5),.val (.int .i64 x6)]=>k x0 x1 x2 x3 x4 x5 x6
  |_=>none
theorem zB {α:Type}{row:List Cell}{k:Int→Rs→Int→Int→ByteArray→ByteArray→Int→Option α}{r:α}(h:qE row k=some r):∃ x0 x1 x2 x3 x4 x5 x6,row=[.val (.int .i64 x0),.imm x1,.val (.int .i64 x2),.val (.int .i64 x3),.val (.string x4),.val (.string x5),.val (.int .i64 x6)]∧k x0 x1 x2 x3 x4 x5 x6=some r:=by
  unfold qE at h;split at h
  · exact⟨_,_,_,_,_,_,_,rfl,h⟩
  · cases h
def qaM {α:Type}(row:List Cell)(k:Int→ByteArray→Int→Int→Int→Option α):Option α:=match row with
  |[.val (.int .i64 x0),.val (.string x1),.val (.int .i64 x2),.val (.int .i64 x3),.val (.int .i64 x4)]=>k x0 x1 x2 x3 x4
  |_=>none
theorem qca {α:Type}{row:List Cell}{k:Int→ByteArray→Int→Int→Int→Option α}{r:α}(h:qaM row k=some r):∃ x0 x1 x2 x3 x4,row=[.val (.int .i64 x0),.val (.string x1),.val (.int .i64 x2),.val (.int .i64 x3),.val (.int .i64 x4)]∧k x0 x1 x2 x3 x4=some r:=by
  unfold qaM at h;split at h
  · exact⟨_,_,_,_,_,rfl,h⟩
  · cases h
def un_s {α:Type}(row:List Cell)(k:ByteArray→Option α):Option α:=match row with
  |[.val (.string x0)]=>k x0
  |_=>none
theorem qkP {α:Type}{row:List Cell}{k:ByteArray→Option α}{r:α}(h:un_s row k=some r):∃ x0,row=[.val (.string x0)]∧k x0=some r:=by
  unfold un_s at h;split at h
  · exact⟨_,rfl,h⟩
  · cases h
def un_y {α:Type}(row:List Cell)(k:Int→Option α):Option α:=match row with
  |[.val (.int .u8 x0)]=>k x0
  |_=>none
inductive S30 where
 |e (a:Int)
abbrev R30:=Bool
def qmk:R30→ARes
 |r=>.ret (.c (bc r))
def bx30:R30→List (List Cell)
 |_=>[]
noncomputable def qe8 (k:Nat)(rec:S30→Option R30):S30→Option R30
 |.e a=>
  bif a==32 then
   some true
  else
   bif a==9 then
    some true
   else
    bif a==10 then
     some true
    else
     some (a==13)
noncomputable def g30 (k:Nat)(a:Int):Option R30:=itS qe8 k (.e a)
noncomputable def P30:S30→R30→Prop
 |.e a,r=>Fin cx30 Tryz.f30 [.code qm5] (fr0 Tryz.f30 [.c (.val (.int .u8 a))] []) (qmk r) (bx30 r)
abbrev E30 (a:Int)(r:R30):Prop:=Ev Tryz.prog noHand 30 [.c (.val (.int .u8 a))] [] (qmk r) (bx30 r)
theorem qob {a:Int}{r:R30}(h:P30 (.e a) r):E30 a r:=evF h
theorem ok30:∀ k s r,itS qe8 k s=some r→P30 s r:=qF fun k rec ih s r h=>match s,h with
 |.e ..,h=>by
  rcases qa h with⟨a,h⟩|⟨a,h⟩
  · cases h;exact mF 0 [tT 4 a]
  ·
   rcases qa h with⟨b,h⟩|⟨b,h⟩
   · cases h;exact mF 0 [tF 4 a,tT 7 b]
   · rcases qa h with⟨c,h⟩|⟨c,h⟩
     · cases h;exact mF 0 [tF 4 a,tF 7 b,tT 11 c]
     · cases h;exact mF 0 [tF 4 a,tF 7 b,tF 11 c]
theorem ev30 {k:Nat}{a:Int}{r:R30}(h:g30 k a=some r):E30 a r:=qob (ok30 _ _ _ h)
inductive S31 where
 |e (a:Int)
abbrev R31:=Bool
def qlS:R31→ARes
 |r=>.ret (.c (bc r))
def bx31:R31→List (List Cell)
 |_=>[]
noncomputable def qfG (k:Nat)(rec:S31→Option R31):S31→Option R31
 |.e a=>
  bif decide (a≥97)then
   bif decide (a≤122)then
    some true
   else
    bif decide (a≥65)then
     some (decide (a≤90))
    else
     some false
  else
   bif decide (a≥65)then
    some (decide (a≤90))
   else
    some false
noncomputable def g31 (k:Nat)(a:Int):Option R31:=itS qfG k (.e a)
noncomputable def P31:S31→R31→Prop
 |.e a,r=>Fin cx31 Tryz.f31 [.code qmA] (fr0 Tryz.f31 [.c (.val (.int .u8 a))] []) (qlS r) (bx31 r)
abbrev E31 (a:Int)(r:R31):Prop:=Ev Tryz.prog noHand 31 [.c (.val (.int .u8 a))] [] (qlS r) (bx31 r)
theorem qnJ {a:Int}{r:R31}(h:P31 (.e a) r):E31 a r:=evF h
theorem ok31:∀ k s r,itS qfG k s=some r→P31 s r:=qF fun k rec ih s r h=>match s,h with
 |.e ..,h=>by
  rcases qa h with⟨a,h⟩|⟨a,h⟩
  ·
   rcases qa h with⟨b,h⟩|⟨b,h⟩
   · cases h;exact mF 0 [tT 4 a,tT 7 b]
   · rcases qa h with⟨c,h⟩|⟨c,h⟩
     · cases h;exact mF 0 [tT 4 a,tF 7 b,tT 11 c]
     · cases h;exact mF 0 [tT 4 a,tF 7 b,tF 11 c]
  · rcases qa h with⟨b,h⟩|⟨b,h⟩
    · cases h;exact mF 0 [tF 4 a,tT 11 b]
    · cases h;exact mF 0 [tF 4 a,tF 11 b]
theorem ev31 {k:Nat}{a:Int}{r:R31}(h:g31 k a=some r):E31 a r:=qnJ (ok31 _ _ _ h)
inductive S33 where
 |e (a:Int)
abbrev R33:=Bool
def qho:R33→ARes
 |r=>.ret (.c (bc r))
def bx33:R33→List (List Cell)
 |_=>[]
noncomputable def yX (k:Nat)(rec:S33→Option R33):S33→Option R33
 |.e a=>
  bif decide (a≥48)then
   some (decide (a≤57))
  else
   some false
noncomputable def g33 (k:Nat)(a:Int):Option R33:=itS yX k (.e a)
noncomputable def P33:S33→R33→Prop
 |.e a,r=>Fin cx33 Tryz.f33 [.code qb7] (fr0 Tryz.f33 [.c (.val (.int .u8 a))] []) (qho r) (bx33 r)
abbrev E33 (a:Int)(r:R33):Prop:=Ev Tryz.prog noHand 33 [.c (.val (.int .u8 a))] [] (qho r) (bx33 r)
theorem qnl {a:Int}{r:R33}(h:P33 (.e a) r):E33 a r:=evF h
theorem ok33:∀ k s r,itS yX k s=some r→P33 s r:=qF fun k rec ih s r h=>match s,h with
 |.e ..,h=>by
  rcases qa h with⟨a,h⟩|⟨a,h⟩
  · cases h;exact mF 0 [tT 4 a]
  · cases h;exact mF 0 [tF 4 a]
theorem ev33 {k:Nat}{a:Int}{r:R33}(h:g33 k a=some r):E33 a r:=qnl (ok33 _ _ _ h)
inductive S60 where
 |e (a:Int)(b:By)(c:Int)
 |h0 (a b:Int)(c:By)(d:Int)
 |h1 (a b:Int)(c:Bool)(d:By)(e:Int)
abbrev R60:=By
def qjH:R60→ARes
 |r=>.ret (.c (sc r))
def bx60 (b0_0:ByteArray)(b0_1:Int):R60→List (List Cell)
 |_=>[[sc b0_0,ic b0_1]]
noncomputable def Zz (k:Nat)(rec:S60→Option R60):S60→Option R60
 |.e a b c=>rec (.h0 a a b c)
 |.h0 a b c d=>
  bif decide (b<(c.size:Int))then
   sxI c b fun e=>
   (g31 k e).bind fun f=>
   bif f then
    rec (.h1 a b true c d)
   else
    (g33 k e).bind fun g=>
    bif g then
     rec (.h1 a b true c d)
    else
     rec (.h1 a b (e==95) c d)
  else
   rec (.h1 a b false c d)
 |.h1 a b c d e=>
  bif c then
   rec (.h0 a (IntKind.i64.wrap (b+1)) d e)
  else
   gd (decide (0≤a∧a≤b∧b≤(d.size:Int))) <|
   some (d.extract (Int.toNat a) (Int.toNat b))
noncomputable def g60 (k:Nat)(a:Int)(b:By)(c:Int):Option R60:=itS Zz k (.e a b c)
noncomputable def P60:S60→R60→Prop
 |.e a b c,r=>Fin cx60 Tryz.f60 [.code qhX] (fr0 Tryz.f60 [pP 0,.c (ic a)] [[sc b,ic c]]) (qjH r) (bx60 b c r)
 |.h0 a b c d,r=>Fin cx60 Tryz.f60 (kAt qhX [1,1,0,0,4] []) ⟨[pP 0,.c (ic a)]++rep 3 .deadv++[.c (ic b)]++rep 44 .deadv,[(.par 0,[sc c,ic d])]⟩ (qjH r) (bx60 c d r)
 |.h1 a b c d e,r=>Fin cx60 Tryz.f60 (kAt qhX [1,1,0,0,0,0,1,2] []) ⟨[pP 0,.c (ic a)]++rep 3 .deadv++[.c (ic b)]++rep 34 .deadv++[.c (bc c)]++rep 9 .deadv,[(.par 0,[sc d,ic e])]⟩ (qjH r) (bx60 d e r)
abbrev E60 (a:Int)(b:By)(c:Int)(r:R60):Prop:=Ev Tryz.prog noHand 60 [pP 0,.c (ic a)] [[sc b,ic c]] (qjH r) (bx60 b c r)
theorem qoe {a:Int}{b:By}{c:Int}{r:R60}(h:P60 (.e a b c) r):E60 a b c r:=evF h
theorem ok60:∀ k s r,itS Zz k s=some r→P60 s r:=qF fun k rec ih s r h=>match s,h with
 |.e ..,h=>by exact mA 1 (ih _ _ h) 7 [] 50 1125899906842588
 |.h0 ..,h=>by
  rcases qa h with⟨a,h⟩|⟨a,h⟩
  ·
   obtain⟨_,b,h⟩:=Xm h;obtain⟨_,c,h⟩:=qh h;replace h:=qa h;rcases h with⟨rfl,h⟩|⟨rfl,h⟩
   · exact mA 1 (ih _ _ h) 4 [tT 13 a,sA 20 b,cA 21 (ev31 c)] 50 1124800395214812
   · obtain⟨_,d,h⟩:=qh h;replace h:=qa h;rcases h with⟨rfl,h⟩|⟨rfl,h⟩
     · exact mA 1 (ih _ _ h) 4 [tT 13 a,sA 20 b,cA 21 (ev31 c),sA 28 b,cA 29 (ev33 d)] 50 1124800395214812
     · exact mA 1 (ih _ _ h) 4 [tT 13 a,sA 20 b,cA 21 (ev31 c),sA 28 b,cA 29 (ev33 d),sA 37 b] 50 1124800395214812
  · exact mA 1 (ih _ _ h) 4 [tF 13 a] 50 1124800395214812
 |.h1 ..,h=>by
  replace h:=qa h;rcases h with⟨rfl,h⟩|⟨rfl,h⟩
  · exact mA 1 (ih _ _ h) 5 [] 50 1125899906842588
  · obtain⟨a,h⟩:=zo h;cases h;exact mF 1 [xS 49 a]
theorem ev60 {k:Nat}{a:Int}{b:By}{c:Int}{r:R60}(h:g60 k a b c=some r):E60 a b c r:=qoe (ok60 _ _ _ h)
inductive S61 where
 |e (a:By)
 |h0 (a:Bool)
abbrev R61:=Bool
def qsK:R61→ARes
 |r=>.ret (.c (bc r))
def bx61:R61→List (List Cell)
 |_=>[]
noncomputable def qqt (k:Nat)(rec:S61→Option R61):S61→Option R61
 |.e a=>
  bif a.toList==(strB [80,65,84,84,69,82,78]).toList then
   rec (.h0 true)
  else
   bif a.toList==(strB [83,69,81]).toList then
    rec (.h0 true)
   else
    bif a.toList==(strB [87,72,69,82,69]).toList then
     rec (.h0 true)
    else
     bif a.toList==(strB [83,84,82,65,84,69,71,89]).toList then
      rec (.h0 true)
     else
      bif a.toList==(strB [87,73,84,72,73,78]).toList then
       rec (.h0 true)
      else
       bif a.toList==(strB [80,65,82,84,73,84,73,79,78]).toList then
        rec (.h0 true)
       else
        bif a.toList==(strB [66,89]).toList then
         rec (.h0 true)
        else
         bif a.toList==(strB [83,84,82,73,67,84]).toList then
          rec (.h0 true)
         else
          bif a.toList==(strB [78,69,88,84]).toList then
           rec (.h0 true)
          else
           bif a.toList==(strB [65,78,89]).toList then
            rec (.h0 true)
           else
            bif a.toList==(strB [65,78,68]).toList then
             rec (.h0 true)
            else
             bif a.toList==(strB [79,82]).toList then
              rec (.h0 true)
             else
              bif a.toList==(strB [78,79,84]).toList then
               rec (.h0 true)
              else
               bif a.toList==(strB [84,82,85,69]).toList then
                rec (.h0 true)
               else
                bif a.toList==(strB [70,65,76,83,69]).toList then
                 rec (.h0 true)
                else
                 bif a.toList==(strB [84,73,77,69]).toList then
                  rec (.h0 true)
                 else
                  bif a.toList==(strB [82,69,65,76]).toList then
                   rec (.h0 true)
                  else
                   bif a.toList==(strB [73,83,78,65,78]).toList then
                    rec (.h0 true)
                   else
                    bif a.toList==(strB [67,79,85,78,84]).toList then
                     rec (.h0 true)
                    else
                     bif a.toList==(strB [70,73,82,83,84]).toList then
                      rec (.h0 true)
                     else
                      bif a.toList==(strB [76,65,83,84]).toList then
                       rec (.h0 true)
                      else
                       bif a.toList==(strB [83,85,77]).toList then
                        rec (.h0 true)
                       else
                        bif a.toList==(strB [77,73,78]).toList then
                         rec (.h0 true)
                        else
                         bif a.toList==(strB [77,65,88]).toList then
                          rec (.h0 true)
                         else
                          rec (.h0 (a.toList==(strB [77,69,65,78]).toList))
 |.h0 a=>
  bif a then
   some true
  else
   some false
noncomputable def g61 (k:Nat)(a:By):Option R61:=itS qqt k (.e a)
noncomputable def P61:S61→R61→Prop
 |.e a,r=>Fin cx61 Tryz.f61 [.code qr4] (fr0 Tryz.f61 [.c (sc a)] []) (qsK r) (bx61 r)
 |.h0 a,r=>Fin cx61 Tryz.f61 (kAt qr4 [1,0,1,0,1,2] []) ⟨rep 4 .deadv++[.c (bc a)]++rep 25 .deadv,[]⟩ (qsK r) (bx61 r)
abbrev E61 (a:By)(r:R61):Prop:=Ev Tryz.prog noHand 61 [.c (sc a)] [] (qsK r) (bx61 r)
theorem quq {a:By}{r:R61}(h:P61 (.e a) r):E61 a r:=evF h
theorem ok61:∀ k s r,itS qqt k s=some r→P61 s r:=qF fun k rec ih s r h=>match s,h with
 |.e ..,h=>by
  rcases qa h with⟨a,h⟩|⟨a,h⟩
  · exact mA 0 (ih _ _ h) 11 [tT 5 a] 30 1073741807
  ·
   rcases qa h with⟨b,h⟩|⟨b,h⟩
   · exact mA 0 (ih _ _ h) 14 [tF 5 a,tT 6 b] 30 1073741807
   ·
    rcases qa h with⟨c,h⟩|⟨c,h⟩
    · exact mA 0 (ih _ _ h) 17 [tF 5 a,tF 6 b,tT 7 c] 30 1073741807
    ·
     rcases qa h with⟨d,h⟩|⟨d,h⟩
     · exact mA 0 (ih _ _ h) 20 [tF 5 a,tF 6 b,tF 7 c,tT 8 d] 30 1073741807
     ·
      rcases qa h with⟨e,h⟩|⟨e,h⟩
      · exact mA 0 (ih _ _ h) 23 [tF 5 a,tF 6 b,tF 7 c,tF 8 d,tT 9 e] 30 1073741807
      ·
       rcases qa h with⟨f,h⟩|⟨f,h⟩
       · exact mA 0 (ih _ _ h) 26 [tF 5 a,tF 6 b,tF 7 c,tF 8 d,tF 9 e,tT 10 f] 30 1073741807
       ·
        rcases qa h with⟨g,h⟩|⟨g,h⟩
        · exact mA 0 (ih _ _ h) 29 [tF 5 a,tF 6 b,tF 7 c,tF 8 d,tF 9 e,tF 10 f,tT 11 g] 30 1073741807
        ·
         rcases qa h with⟨i,h⟩|⟨i,h⟩
         · exact mA 0 (ih _ _ h) 32 [tF 5 a,tF 6 b,tF 7 c,tF 8 d,tF 9 e,tF 10 f,tF 11 g,tT 12 i] 30 1073741807
         ·
          rcases qa h with⟨j,h⟩|⟨j,h⟩
          · exact mA 0 (ih _ _ h) 35 [tF 5 a,tF 6 b,tF 7 c,tF 8 d,tF 9 e,tF 10 f,tF 11 g,tF 12 i,tT 13 j] 30 1073741807
          ·
           rcases qa h with⟨l,h⟩|⟨l,h⟩
           · exact mA 0 (ih _ _ h) 38 [tF 5 a,tF 6 b,tF 7 c,tF 8 d,tF 9 e,tF 10 f,tF 11 g,tF 12 i,tF 13 j,tT 14 l] 30 1073741807
           ·
            rcases qa h with⟨m,h⟩|⟨m,h⟩
            · exact mA 0 (ih _ _ h) 41 [tF 5 a,tF 6 b,tF 7 c,tF 8 d,tF 9 e,tF 10 f,tF 11 g,tF 12 i,tF 13 j,tF 14 l,tT 15 m] 30 1073741807
            ·
             rcases qa h with⟨n,h⟩|⟨n,h⟩
             · exact mA 0 (ih _ _ h) 44 [tF 5 a,tF 6 b,tF 7 c,tF 8 d,tF 9 e,tF 10 f,tF 11 g,tF 12 i,tF 13 j,tF 14 l,tF 15 m,tT 16 n] 30 1073741807
             ·
              rcases qa h with⟨o,h⟩|⟨o,h⟩
              · exact mA 0 (ih _ _ h) 47 [tF 5 a,tF 6 b,tF 7 c,tF 8 d,tF 9 e,tF 10 f,tF 11 g,tF 12 i,tF 13 j,tF 14 l,tF 15 m,tF 16 n,tT 17 o] 30 1073741807
              ·
               rcases qa h with⟨p,h⟩|⟨p,h⟩
               · exact mA 0 (ih _ _ h) 50 [tF 5 a,tF 6 b,tF 7 c,tF 8 d,tF 9 e,tF 10 f,tF 11 g,tF 12 i,tF 13 j,tF 14 l,tF 15 m,tF 16 n,tF 17 o,tT 18 p] 30 1073741807
               ·
                rcases qa h with⟨q,h⟩|⟨q,h⟩
                · exact mA 0 (ih _ _ h) 53 [tF 5 a,tF 6 b,tF 7 c,tF 8 d,tF 9 e,tF 10 f,tF 11 g,tF 12 i,tF 13 j,tF 14 l,tF 15 m,tF 16 n,tF 17 o,tF 18 p,tT 19 q] 30 1073741807
                ·
                 rcases qa h with⟨t,h⟩|⟨t,h⟩
                 · exact mA 0 (ih _ _ h) 56 [tF 5 a,tF 6 b,tF 7 c,tF 8 d,tF 9 e,tF 10 f,tF 11 g,tF 12 i,tF 13 j,tF 14 l,tF 15 m,tF 16 n,tF 17 o,tF 18 p,tF 19 q,tT 20 t] 30 1073741807
                 ·
                  rcases qa h with⟨u,h⟩|⟨u,h⟩
                  · exact mA 0 (ih _ _ h) 59 [tF 5 a,tF 6 b,tF 7 c,tF 8 d,tF 9 e,tF 10 f,tF 11 g,tF 12 i,tF 13 j,tF 14 l,tF 15 m,tF 16 n,tF 17 o,tF 18 p,tF 19 q,tF 20 t,tT 21 u] 30 1073741807
                  ·
                   rcases qa h with⟨v,h⟩|⟨v,h⟩
                   · exact mA 0 (ih _ _ h) 62 [tF 5 a,tF 6 b,tF 7 c,tF 8 d,tF 9 e,tF 10 f,tF 11 g,tF 12 i,tF 13 j,tF 14 l,tF 15 m,tF 16 n,tF 17 o,tF 18 p,tF 19 q,tF 20 t,tF 21 u,tT 22 v] 30 1073741807
                   · rcases qa h with⟨w,h⟩|⟨w,h⟩
                     · exact mA 0 (ih _ _ h) 65 [tF 5 a,tF 6 b,tF 7 c,tF 8 d,tF 9 e,tF 10 f,tF 11 g,tF 12 i,tF 13 j,tF 14 l,tF 15 m,tF 16 n,tF 17 o,tF 18 p,tF 19 q,tF 20 t,tF 21 u,tF 22 v,tT 23 w] 30 1073741807
                     · rcases qa h with⟨x,h⟩|⟨x,h⟩
                       · exact mA 0 (ih _ _ h) 68 [tF 5 a,tF 6 b,tF 7 c,tF 8 d,tF 9 e,tF 10 f,tF 11 g,tF 12 i,tF 13 j,tF 14 l,tF 15 m,tF 16 n,tF 17 o,tF 18 p,tF 19 q,tF 20 t,tF 21 u,tF 22 v,tF 23 w,tT 24 x] 30 1073741807
                       · rcases qa h with⟨y,h⟩|⟨y,h⟩
                         · exact mA 0 (ih _ _ h) 71 [tF 5 a,tF 6 b,tF 7 c,tF 8 d,tF 9 e,tF 10 f,tF 11 g,tF 12 i,tF 13 j,tF 14 l,tF 15 m,tF 16 n,tF 17 o,tF 18 p,tF 19 q,tF 20 t,tF 21 u,tF 22 v,tF 23 w,tF 24 x,tT 25 y] 30 1073741807
                         · rcases qa h with⟨z,h⟩|⟨z,h⟩
                           · exact mA 0 (ih _ _ h) 74 [tF 5 a,tF 6 b,tF 7 c,tF 8 d,tF 9 e,tF 10 f,tF 11 g,tF 12 i,tF 13 j,tF 14 l,tF 15 m,tF 16 n,tF 17 o,tF 18 p,tF 19 q,tF 20 t,tF 21 u,tF 22 v,tF 23 w,tF 24 x,tF 25 y,tT 26 z] 30 1073741807
                           · rcases qa h with⟨a1,h⟩|⟨a1,h⟩
                             · exact mA 0 (ih _ _ h) 77 [tF 5 a,tF 6 b,tF 7 c,tF 8 d,tF 9 e,tF 10 f,tF 11 g,tF 12 i,tF 13 j,tF 14 l,tF 15 m,tF 16 n,tF 17 o,tF 18 p,tF 19 q,tF 20 t,tF 21 u,tF 22 v,tF 23 w,tF 24 x,tF 25 y,tF 26 z,tT 27 a1] 30 1073741807
                             · rcases qa h with⟨b1,h⟩|⟨b1,h⟩
                               · exact mA 0 (ih _ _ h) 80 [tF 5 a,tF 6 b,tF 7 c,tF 8 d,tF 9 e,tF 10 f,tF 11 g,tF 12 i,tF 13 j,tF 14 l,tF 15 m,tF 16 n,tF 17 o,tF 18 p,tF 19 q,tF 20 t,tF 21 u,tF 22 v,tF 23 w,tF 24 x,tF 25 y,tF 26 z,tF 27 a1,tT 28 b1] 30 1073741807
                               · exact mA 0 (ih _ _ h) 80 [tF 5 a,tF 6 b,tF 7 c,tF 8 d,tF 9 e,tF 10 f,tF 11 g,tF 12 i,tF 13 j,tF 14 l,tF 15 m,tF 16 n,tF 17 o,tF 18 p,tF 19 q,tF 20 t,tF 21 u,tF 22 v,tF 23 w,tF 24 x,tF 25 y,tF 26 z,tF 27 a1,tF 28 b1] 30 1073741807
 |.h0 ..,h=>by
  replace h:=qa h;rcases h with⟨rfl,h⟩|⟨rfl,h⟩
  · cases h;exact mF 0 []
  · cases h;exact mF 0 []
theorem ev61 {k:Nat}{a:By}{r:R61}(h:g61 k a=some r):E61 a r:=quq (ok61 _ _ _ h)
inductive S32 where
 |e (a:By)(b:Int)
abbrev R32:=(Int×By×Int×Int×Int×Int)⊕(Int×Int)
def qlI:R32→ARes
 |(.inl (a,b,c,d,e,_))=>.ret (.ag [ic a,sc b,ic c,ic d,ic e])
 |(.inr (a,_))=>.panic (.iface 55 (.agg #[.int .i64 a]))
def bx32 (b0_0:ByteArray):R32→List (List Cell)
 |(.inl (_,_,_,_,_,a))=>[[sc b0_0,ic a]]
 |(.inr (_,a))=>[[sc b0_0,ic a]]
noncomputable def qfR (k:Nat)(rec:S32→Option R32):S32→Option R32
 |.e a b=>
  (g60 k b a b).bind fun c=>
  (g61 k c).bind fun d=>
  bif d then
   some (.inl (1,c,0,0,b,IntKind.i64.wrap (b+(c.size:Int))))
  else
   (YF c).bind fun e=>
   bif e then
    some (.inl (2,c,0,0,b,IntKind.i64.wrap (b+(c.size:Int))))
   else
    some (.inr (b,IntKind.i64.wrap (b+(c.size:Int))))
noncomputable def g32 (k:Nat)(a:By)(b:Int):Option R32:=itS qfR k (.e a b)
noncomputable def P32:S32→R32→Prop
 |.e a b,r=>Fin cx32 Tryz.f32 [.code qlB] (fr0 Tryz.f32 [pP 0] [[sc a,ic b]]) (qlI r) (bx32 a r)
abbrev E32 (a:By)(b:Int)(r:R32):Prop:=Ev Tryz.prog noHand 32 [pP 0] [[sc a,ic b]] (qlI r) (bx32 a r)
theorem qnA {a:By}{b:Int}{r:R32}(h:P32 (.e a b) r):E32 a b r:=evF h
theorem ok32:∀ k s r,itS qfR k s=some r→P32 s r:=qF fun k rec ih s r h=>match s,h with
 |.e a b,h=>by
  obtain⟨c,d,h⟩:=qh h;obtain⟨_,e,h⟩:=qh h;replace h:=qa h;rcases h with⟨rfl,h⟩|⟨rfl,h⟩
  · cases h;exact mF 1 [⟨(some 9999,.alt 5 9),[_],⟨(rfl:(⟨[pP 0,.undef,pL 2,.c (sc c),.c (ic b),pP 0,pP 0,pP 0,.c (.ptr ⟨⟨.par 0,[]⟩,0,1⟩),.c (ic b),.c (sc c),pP 0,pP 0,.c (.ptr ⟨⟨.par 0,[]⟩,0,1⟩),.c (ic b)]++rep 24 .undef,[(.loc 2,[ic 0,sc (strB []),ic 0,ic 0,ic 0]),(.par 0,[sc a,ic b])]⟩:Fr)=⟨[pP 0,.undef,pL 2,.c (sc c),.c (ic b),pP 0,pP 0,pP 0,.c (.ptr ⟨⟨.par 0,[]⟩,0,1⟩),.c (ic b),.c (sc c),pP 0,pP 0,.c (.ptr ⟨⟨.par 0,[]⟩,0,1⟩),.c (ic b)]++rep 24 .undef,[(.loc 2,[ic 0,sc (strB []),ic 0,ic 0,ic 0]),(.par 0,[sc a,ic b])]⟩),trivial⟩⟩,cA 10 (ev60 d),cA 10 (ev60 d),cA 26 (ev61 e)]
  · obtain⟨_,f,h⟩:=qh h;replace h:=qa h;rcases h with⟨rfl,h⟩|⟨rfl,h⟩
    · cases h;exact mF 1 [⟨(some 9999,.alt 5 9),[_],⟨(rfl:(⟨[pP 0,.undef,pL 2,.c (sc c),.c (ic b),pP 0,pP 0,pP 0,.c (.ptr ⟨⟨.par 0,[]⟩,0,1⟩),.c (ic b),.c (sc c),pP 0,pP 0,.c (.ptr ⟨⟨.par 0,[]⟩,0,1⟩),.c (ic b)]++rep 24 .undef,[(.loc 2,[ic 0,sc (strB []),ic 0,ic 0,ic 0]),(.par 0,[sc a,ic b])]⟩:Fr)=⟨[pP 0,.undef,pL 2,.c (sc c),.c (ic b),pP 0,pP 0,pP 0,.c (.ptr ⟨⟨.par 0,[]⟩,0,1⟩),.c (ic b),.c (sc c),pP 0,pP 0,.c (.ptr ⟨⟨.par 0,[]⟩,0,1⟩),.c (ic b)]++rep 24 .undef,[(.loc 2,[ic 0,sc (strB []),ic 0,ic 0,ic 0]),(.par 0,[sc a,ic b])]⟩),trivial⟩⟩,cA 10 (ev60 d),cA 10 (ev60 d),cA 26 (ev61 e),cA 32 (qi f)]
    · cases h;exact mF 1 [⟨(some 9999,.alt 5 9),[_],⟨(rfl:(⟨[pP 0,.undef,pL 2,.c (sc c),.c (ic b),pP 0,pP 0,pP 0,.c (.ptr ⟨⟨.par 0,[]⟩,0,1⟩),.c (ic b),.c (sc c),pP 0,pP 0,.c (.ptr ⟨⟨.par 0,[]⟩,0,1⟩),.c (ic b)]++rep 24 .undef,[(.loc 2,[ic 0,sc (strB []),ic 0,ic 0,ic 0]),(.par 0,[sc a,ic b])]⟩:Fr)=⟨[pP 0,.undef,pL 2,.c (sc c),.c (ic b),pP 0,pP 0,pP 0,.c (.ptr ⟨⟨.par 0,[]⟩,0,1⟩),.c (ic b),.c (sc c),pP 0,pP 0,.c (.ptr ⟨⟨.par 0,[]⟩,0,1⟩),.c (ic b)]++rep 24 .undef,[(.loc 2,[ic 0,sc (strB []),ic 0,ic 0,ic 0]),(.par 0,[sc a,ic b])]⟩),trivial⟩⟩,cA 10 (ev60 d),cA 10 (ev60 d),cA 26 (ev61 e),cA 32 (qi f)]
theorem ev32 {k:Nat}{a:By}{b:Int}{r:R32}(h:g32 k a b=some r):E32 a b r:=qnA (ok32 _ _ _ h)
inductive S63 where
 |e (a:Int)(b:By)(c:Int)
 |h0 (a b:Int)(c:By)(d:Int)
 |h1 (a b:Int)(c:Bool)(d:By)(e:Int)
abbrev R63:=By
def qrU:R63→ARes
 |r=>.ret (.c (sc r))
def bx63 (b0_0:ByteArray)(b0_1:Int):R63→List (List Cell)
 |_=>[[sc b0_0,ic b0_1]]
noncomputable def qpc (k:Nat)(rec:S63→Option R63):S63→Option R63
 |.e a b c=>rec (.h0 a a b c)
 |.h0 a b c d=>
  bif decide (b<(c.size:Int))then
   sxI c b fun e=>
   (g33 k e).bind fun f=>
   rec (.h1 a b f c d)
  else
   rec (.h1 a b false c d)
 |.h1 a b c d e=>
  bif c then
   rec (.h0 a (IntKind.i64.wrap (b+1)) d e)
  else
   gd (decide (0≤a∧a≤b∧b≤(d.size:Int))) <|
   some (d.extract (Int.toNat a) (Int.toNat b))
noncomputable def g63 (k:Nat)(a:Int)(b:By)(c:Int):Option R63:=itS qpc k (.e a b c)
noncomputable def P63:S63→R63→Prop
 |.e a b c,r=>Fin cx63 Tryz.f63 [.code qre] (fr0 Tryz.f63 [pP 0,.c (ic a)] [[sc b,ic c]]) (qrU r) (bx63 b c r)
 |.h0 a b c d,r=>Fin cx63 Tryz.f63 (kAt qre [1,1,0,0,4] []) ⟨[pP 0,.c (ic a)]++rep 3 .deadv++[.c (ic b)]++rep 26 .deadv,[(.par 0,[sc c,ic d])]⟩ (qrU r) (bx63 c d r)
 |.h1 a b c d e,r=>Fin cx63 Tryz.f63 (kAt qre [1,1,0,0,0,0,1,2] []) ⟨[pP 0,.c (ic a)]++rep 3 .deadv++[.c (ic b)]++rep 16 .deadv++[.c (bc c)]++rep 9 .deadv,[(.par 0,[sc d,ic e])]⟩ (qrU r) (bx63 d e r)
abbrev E63 (a:Int)(b:By)(c:Int)(r:R63):Prop:=Ev Tryz.prog noHand 63 [pP 0,.c (ic a)] [[sc b,ic c]] (qrU r) (bx63 b c r)
theorem qur {a:Int}{b:By}{c:Int}{r:R63}(h:P63 (.e a b c) r):E63 a b c r:=evF h
theorem ok63:∀ k s r,itS qpc k s=some r→P63 s r:=qF fun k rec ih s r h=>match s,h with
 |.e ..,h=>by exact mA 1 (ih _ _ h) 7 [] 32 4294967260
 |.h0 ..,h=>by
  rcases qa h with⟨a,h⟩|⟨a,h⟩
  · obtain⟨_,b,h⟩:=Xm h;obtain⟨_,c,h⟩:=qh h;exact mA 1 (ih _ _ h) 4 [tT 13 a,sA 20 b,cA 21 (ev33 c)] 32 4290772956
  · exact mA 1 (ih _ _ h) 4 [tF 13 a] 32 4290772956
 |.h1 ..,h=>by
  replace h:=qa h;rcases h with⟨rfl,h⟩|⟨rfl,h⟩
  · exact mA 1 (ih _ _ h) 5 [] 32 4294967260
  · obtain⟨a,h⟩:=zo h;cases h;exact mF 1 [xS 31 a]
theorem ev63 {k:Nat}{a:Int}{b:By}{c:Int}{r:R63}(h:g63 k a b c=some r):E63 a b c r:=qur (ok63 _ _ _ h)
inductive S34 where
 |e (a:By)(b:Int)
 |h0 (a:Int)(b c:By)(d:Bool)(e:Int)(f:By)(g i j:Int)(l:By)(m:Int)
 |h1 (a:Int)(b c:By)(d:Int)(e:By)(f g i:Int)(j:By)(l:Int)
 |h2 (a:Int)(b c:By)(d:Bool)(e:Int)(f:By)(g i j:Int)(l:By)(m:Int)
abbrev R34:=(Int×Int)⊕(Int×By×Int×Int×Int×Int)
def qkQ:R34→ARes
 |(.inl (a,_))=>.panic (.iface 55 (.agg #[.int .i64 a]))
 |(.inr (a,b,c,d,e,_))=>.ret (.ag [ic a,sc b,ic c,ic d,ic e])
def bx34 (b0_0:ByteArray):R34→List (List Cell)
 |(.inl (_,a))=>[[sc b0_0,ic a]]
 |(.inr (_,_,_,_,_,a))=>[[sc b0_0,ic a]]
noncomputable def xY (k:Nat)(rec:S34→Option R34):S34→Option R34
 |.e a b=>
  (g63 k b a b).bind fun c=>
  bif decide ((IntKind.i64.wrap (b+(c.size:Int)))<(a.size:Int))then
   sxI a (IntKind.i64.wrap (b+(c.size:Int))) fun d=>
   rec (.h0 b c (strB []) (d==46) 0 (strB []) 0 0 0 a (IntKind.i64.wrap (b+(c.size:Int))))
  else
   rec (.h0 b c (strB []) false 0 (strB []) 0 0 0 a (IntKind.i64.wrap (b+(c.size:Int))))
 |.h0 a b c d e f g i j l m=>
  bif d then
   (g63 k (IntKind.i64.wrap (m+1)) l m).bind fun n=>
   rec (.h1 a b n e f g i j l m)
  else
   rec (.h1 a b c e f g i j l m)
 |.h1 a b c d e f g i j l=>
  bif decide ((b.size:Int)>1)then
   sxI b 0 fun m=>
   rec (.h2 a b c (m==48) d e f g i j l)
  else
   rec (.h2 a b c false d e f g i j l)
 |.h2 b c d e _ _ _ _ _ _ f=>
  bif e then
   some (.inl (b,f))
  else
   bif d.toList==(strB []).toList then
    (qag c).bind fun g=>
    optC g (
      some (.inl (b,f))) fun i=>
     some (.inr (3,strB [],i,0,b,f))
   else
    bif decide ((IntKind.i64.wrap ((c.size:Int)+(d.size:Int)))>15)then
     some (.inl (b,f))
    else
     gd (decide (c.size+d.size≤1000000000)) <|
     (qag (c++d)).bind fun i=>
     optC i (
       none   /- a result that hangs on what is not told -/) fun j=>
      some (.inr (4,strB [],j,(d.size:Int),b,IntKind.i64.wrap (f+(IntKind.i64.wrap ((1:Int)+(d.size:Int))))))
noncomputable def g34 (k:Nat)(a:By)(b:Int):Option R34:=itS xY k (.e a b)
noncomputable def P34:S34→R34→Prop
 |.e a b,r=>Fin cx34 Tryz.f34 [.code qkb] (fr0 Tryz.f34 [pP 0] [[sc a,ic b]]) (qkQ r) (bx34 a r)
 |.h0 a b c d e f g i j l m,r=>Fin cx34 Tryz.f34 (kAt qkb [1,1,1,1,1,0,1,2] []) ⟨[pP 0,.deadv,pL 2,.c (ic a),.c (sc b),.c (sc c)]++rep 41 .deadv++[.c (bc d)]++rep 64 .deadv,[(.loc 2,[ic e,sc f,ic g,ic i,ic j]),(.par 0,[sc l,ic m])]⟩ (qkQ r) (bx34 l r)
 |.h1 a b c d e f g i j l,r=>Fin cx34 Tryz.f34 (kAt qkb [1,1,1,1,1,1,2] []) ⟨[pP 0,.deadv,pL 2,.c (ic a),.c (sc b),.c (sc c)]++rep 106 .deadv,[(.loc 2,[ic d,sc e,ic f,ic g,ic i]),(.par 0,[sc j,ic l])]⟩ (qkQ r) (bx34 j r)
 |.h2 a b c d e f g i j l m,r=>Fin cx34 Tryz.f34 (kAt qkb [1,1,1,1,1,1,0,1,2] []) ⟨[pP 0,.deadv,pL 2,.c (ic a),.c (sc b),.c (sc c)]++rep 56 .deadv++[.c (bc d)]++rep 49 .deadv,[(.loc 2,[ic e,sc f,ic g,ic i,ic j]),(.par 0,[sc l,ic m])]⟩ (qkQ r) (bx34 l r)
abbrev E34 (a:By)(b:Int)(r:R34):Prop:=Ev Tryz.prog noHand 34 [pP 0] [[sc a,ic b]] (qkQ r) (bx34 a r)
theorem qn2 {a:By}{b:Int}{r:R34}(h:P34 (.e a b) r):E34 a b r:=evF h
theorem ok34:∀ k s r,itS xY k s=some r→P34 s r:=qF fun k rec ih s r h=>match s,h with
 |.e ..,h=>by
  obtain⟨_,a,h⟩:=qh h;rcases qa h with⟨b,h⟩|⟨b,h⟩
  · obtain⟨_,c,h⟩:=Xm h;exact mA 1 (ih _ _ h) 13 [cA 16 (ev63 a),tT 35 b,sA 45 c] 112 5192296858534827628389758840864706
  · exact mA 1 (ih _ _ h) 13 [cA 16 (ev63 a),tF 35 b] 112 5192296858534827628389758840864706
 |.h0 ..,h=>by
  replace h:=qa h;rcases h with⟨rfl,h⟩|⟨rfl,h⟩
  · obtain⟨_,a,h⟩:=qh h;exact mA 1 (ih _ _ h) 2 [cA 54 (ev63 a)] 112 5192296858534827628530496329220034
  · exact mA 1 (ih _ _ h) 2 [] 112 5192296858534827628530496329220034
 |.h1 ..,h=>by
  rcases qa h with⟨a,h⟩|⟨a,h⟩
  · obtain⟨_,b,h⟩:=Xm h;exact mA 1 (ih _ _ h) 3 [tT 57 a,sA 60 b] 112 5192296858534823016844477901832130
  · exact mA 1 (ih _ _ h) 3 [tF 57 a] 112 5192296858534823016844477901832130
 |.h2 a b c _ d e f g i l o,h=>by
  replace h:=qa h;rcases h with⟨rfl,h⟩|⟨rfl,h⟩
  · cases h;exact mF 1 []
  ·
   rcases qa h with⟨p,h⟩|⟨p,h⟩
   · obtain⟨_,q,h⟩:=qh h;replace h:=qgU h;rcases h with⟨_,rfl,h⟩|⟨rfl,h⟩
     · cases h;exact mF 1 [tT 67 p,cA 70 (qdZ q)]
     · rw[← aR h];exact qhs (nb:=1) hmix (qjh (qga q) (K0:=(kAt qkb [1,1,1,1,1,1,1,0,1,0,0,2] [])) (F:=⟨[pP 0,.deadv,pL 2,.c (ic a),.c (sc b),.c (sc c)]++rep 56 .deadv++[.c (bc false)]++rep 3 .deadv++[.c (sc c),.c (bc true)]++rep 44 .deadv,[(.loc 2,[ic d,sc e,ic f,ic g,ic i]),(.par 0,[sc l,ic o])]⟩) (K1:=(kAt qkb [1,1,1,1,1,1,1,0,1,0,0,3] [])) (F3:=fun xe1=>⟨[pP 0,.deadv,pL 2,.c (ic a),.c (sc b),.c (sc c),.c (ic xe1.1),.c (.val (.iface 116 (.pointer (some ⟨xe1.2,0,none⟩))))]++rep 54 .deadv++[.c (bc false)]++rep 3 .deadv++[.c (sc c),.c (bc true),⟨.tup [false,false],[[ic xe1.1],[.val (.iface 116 (.pointer (some ⟨xe1.2,0,none⟩)))]]⟩,.c (sc b),⟨.tup [false,false],[[ic xe1.1],[.val (.iface 116 (.pointer (some ⟨xe1.2,0,none⟩)))]]⟩,.c (ic xe1.1),.c (.val (.iface 116 (.pointer (some ⟨xe1.2,0,none⟩))))]++rep 39 .deadv,[(.loc 2,[ic d,sc e,ic f,ic g,ic i]),(.par 0,[sc l,ic o])]⟩) (j:=1) (ad1:=[]) (ad2:=fun xe1=>[]) (ps:=fun xe1=>[isX 64 [.c (sc b),.c (ic 10),.c (ic 64)] (ZY xe1) 64 [.c (sc b),.c (ic 10),.c (ic 64)] [] (.ret (ZY xe1)) []]) (thaw:=true) ((0,0)) (fun xe1=>zO (nb:=1) hmix (n:=2000) (ad:=[]) (ps:=[]) (by kernel_rfl) trivial) (fun xe1=>by kernel_rfl) (fun xe1=>⟨⟨rfl,rfl,rfl,rfl,rfl⟩,trivial⟩)) (n:=7) (ad:=[(some 67,.test true)]) (ps:=[_]) (m:=bm 112 0) (ls:=[]) (cs:=[]) (by kernel_rfl) ⟨p,trivial⟩
   ·
    rcases qa h with⟨t,h⟩|⟨t,h⟩
    · cases h;exact mF 1 [tF 67 p,tT 86 t]
    · obtain⟨q,h⟩:=zo h;obtain⟨_,u,h⟩:=qh h;replace h:=qgU h;rcases h with⟨_,rfl,h⟩|⟨rfl,h⟩
      · cases h;exact mF 1 [tF 67 p,tF 86 t,xC 103 q,cA 104 (qdZ u)]
      · cases h
theorem ev34 {k:Nat}{a:By}{b:Int}{r:R34}(h:g34 k a b=some r):E34 a b r:=qn2 (ok34 _ _ _ h)
inductive S35 where
 |e (a:By)(b:Int)
 |h0 (a:Int)(b:By)(c:Int)(d:Bool)(e:Int)(f:By)(g i j:Int)(l:By)(m:Int)
abbrev R35:=(Int×Int)⊕(Int×By×Int×Int×Int×Int)
def qgg:R35→ARes
 |(.inl (a,_))=>.panic (.iface 55 (.agg #[.int .i64 a]))
 |(.inr (a,b,c,d,e,_))=>.ret (.ag [ic a,sc b,ic c,ic d,ic e])
def bx35 (b0_0:ByteArray):R35→List (List Cell)
 |(.inl (_,a))=>[[sc b0_0,ic a]]
 |(.inr (_,_,_,_,_,a))=>[[sc b0_0,ic a]]
noncomputable def yf (k:Nat)(rec:S35→Option R35):S35→Option R35
 |.e a b=>
  (g60 k (IntKind.i64.wrap (b+1)) a b).bind fun c=>
  (YF c).bind fun d=>
  bif !d then
   rec (.h0 b c (IntKind.i64.wrap ((IntKind.i64.wrap (b+1))+(c.size:Int))) true 0 (strB []) 0 0 0 a b)
  else
   bif (IntKind.i64.wrap ((IntKind.i64.wrap (b+1))+(c.size:Int)))==(a.size:Int)then
    rec (.h0 b c (IntKind.i64.wrap ((IntKind.i64.wrap (b+1))+(c.size:Int))) true 0 (strB []) 0 0 0 a b)
   else
    sxI a (IntKind.i64.wrap ((IntKind.i64.wrap (b+1))+(c.size:Int))) fun e=>
    rec (.h0 b c (IntKind.i64.wrap ((IntKind.i64.wrap (b+1))+(c.size:Int))) (e != 39) 0 (strB []) 0 0 0 a b)
 |.h0 a b c d _ _ _ _ _ _ e=>
  bif d then
   some (.inl (a,e))
  else
   some (.inr (5,b,0,0,a,IntKind.i64.wrap (c+1)))
noncomputable def g35 (k:Nat)(a:By)(b:Int):Option R35:=itS yf k (.e a b)
noncomputable def P35:S35→R35→Prop
 |.e a b,r=>Fin cx35 Tryz.f35 [.code qdc] (fr0 Tryz.f35 [pP 0] [[sc a,ic b]]) (qgg r) (bx35 a r)
 |.h0 a b c d e f g i j l m,r=>Fin cx35 Tryz.f35 (kAt qdc [1,1,1,1,0,1,2] []) ⟨[pP 0,.deadv,pL 2,.c (ic a),.c (sc b),.c (ic c)]++rep 33 .deadv++[.c (bc d)]++rep 11 .deadv,[(.loc 2,[ic e,sc f,ic g,ic i,ic j]),(.par 0,[sc l,ic m])]⟩ (qgg r) (bx35 l r)
abbrev E35 (a:By)(b:Int)(r:R35):Prop:=Ev Tryz.prog noHand 35 [pP 0] [[sc a,ic b]] (qgg r) (bx35 a r)
theorem qnO {a:By}{b:Int}{r:R35}(h:P35 (.e a b) r):E35 a b r:=evF h
theorem ok35:∀ k s r,itS yf k s=some r→P35 s r:=qF fun k rec ih s r h=>match s,h with
 |.e ..,h=>by
  obtain⟨_,a,h⟩:=qh h;obtain⟨_,b,h⟩:=qh h;rcases qa h with⟨c,h⟩|⟨c,h⟩
  · exact mA 1 (ih _ _ h) 11 [cA 13 (ev60 a),cA 20 (qi b),tT 21 c] 51 2251250057871298
  · rcases qa h with⟨d,h⟩|⟨d,h⟩
    · exact mA 1 (ih _ _ h) 11 [cA 13 (ev60 a),cA 20 (qi b),tF 21 c,tT 29 d] 51 2251250057871298
    · obtain⟨_,e,h⟩:=Xm h;exact mA 1 (ih _ _ h) 11 [cA 13 (ev60 a),cA 20 (qi b),tF 21 c,tF 29 d,sA 37 e] 51 2251250057871298
 |.h0 ..,h=>by
  replace h:=qa h;rcases h with⟨rfl,h⟩|⟨rfl,h⟩
  · cases h;exact mF 1 []
  · cases h;exact mF 1 []
theorem ev35 {k:Nat}{a:By}{b:Int}{r:R35}(h:g35 k a b=some r):E35 a b r:=qnO (ok35 _ _ _ h)
inductive S36 where
 |e (a:By)(b:Int)
 |h0 (a b c:Int)(d:Bool)(e:Int)(f:By)(g i j:Int)(l:By)(m:Int)
 |h1 (a b:Int)(c:Bool)(d:Int)(e:By)(f g i:Int)(j:By)(l:Int)
 |h2 (a b:Int)(c:Bool)(d:Int)(e:By)(f g i:Int)(j:By)(l:Int)
 |h3 (a b c:Int)(d:By)(e f g:Int)(i:By)(j:Int)
abbrev R36:=(Int×By×Int×Int×Int×Int)⊕(Int×Int)
def qlO:R36→ARes
 |(.inl (a,b,c,d,e,_))=>.ret (.ag [ic a,sc b,ic c,ic d,ic e])
 |(.inr (a,_))=>.panic (.iface 55 (.agg #[.int .i64 a]))
def bx36 (b0_0:ByteArray):R36→List (List Cell)
 |(.inl (_,_,_,_,_,a))=>[[sc b0_0,ic a]]
 |(.inr (_,a))=>[[sc b0_0,ic a]]
noncomputable def qoR (k:Nat)(rec:S36→Option R36):S36→Option R36
 |.e a b=>
  sxI a b fun c=>
  bif c==33 then
   rec (.h0 b 1 c true 0 (strB []) 0 0 0 a b)
  else
   bif c==60 then
    rec (.h0 b 1 c true 0 (strB []) 0 0 0 a b)
   else
    rec (.h0 b 1 c (c==62) 0 (strB []) 0 0 0 a b)
 |.h0 a b c d e f g i j l m=>
  bif d then
   bif decide ((IntKind.i64.wrap (a+1))<(l.size:Int))then
    sxI l (IntKind.i64.wrap (a+1)) fun n=>
    rec (.h1 a b (n==61) e f g i j l m)
   else
    rec (.h1 a b false e f g i j l m)
  else
   bif c==40 then
    rec (.h2 a b true e f g i j l m)
   else
    bif c==41 then
     rec (.h2 a b true e f g i j l m)
    else
     bif c==44 then
      rec (.h2 a b true e f g i j l m)
     else
      bif c==46 then
       rec (.h2 a b true e f g i j l m)
      else
       bif c==43 then
        rec (.h2 a b true e f g i j l m)
       else
        bif c==45 then
         rec (.h2 a b true e f g i j l m)
        else
         bif c==42 then
          rec (.h2 a b true e f g i j l m)
         else
          bif c==47 then
           rec (.h2 a b true e f g i j l m)
          else
           bif c==37 then
            rec (.h2 a b true e f g i j l m)
           else
            bif c==61 then
             rec (.h2 a b true e f g i j l m)
            else
             rec (.h2 a b (c==124) e f g i j l m)
 |.h1 a b c d e f g i j l=>
  bif c then
   rec (.h3 a 2 d e f g i j l)
  else
   rec (.h3 a b d e f g i j l)
 |.h2 a b c d e f g i j l=>
  bif c then
   rec (.h3 a b d e f g i j l)
  else
   some (.inr (a,l))
 |.h3 a b _ _ _ _ _ c d=>
  gd (decide (0≤a∧a≤(IntKind.i64.wrap (d+b))∧(IntKind.i64.wrap (d+b))≤(c.size:Int))) <|
  some (.inl (6,(c.extract (Int.toNat a) (Int.toNat (IntKind.i64.wrap (d+b)))),0,0,a,IntKind.i64.wrap (d+b)))
noncomputable def g36 (k:Nat)(a:By)(b:Int):Option R36:=itS qoR k (.e a b)
noncomputable def P36:S36→R36→Prop
 |.e a b,r=>Fin cx36 Tryz.f36 [.code qg4] (fr0 Tryz.f36 [pP 0] [[sc a,ic b]]) (qlO r) (bx36 a r)
 |.h0 a b c d e f g i j l m,r=>Fin cx36 Tryz.f36 (kAt qg4 [1,1,1,1,0,1,0,0,0,0,0,0,0,1,2] []) ⟨[pP 0,.deadv,pL 2,.c (ic a),.deadv,.c (ic b)]++rep 10 .deadv++[.c (.val (.int .u8 c)),.c (bc d)]++rep 56 .deadv,[(.loc 2,[ic e,sc f,ic g,ic i,ic j]),(.par 0,[sc l,ic m])]⟩ (qlO r) (bx36 l r)
 |.h1 a b c d e f g i j l,r=>Fin cx36 Tryz.f36 (kAt qg4 [1,1,1,1,0,1,0,0,0,1,1,2] []) ⟨[pP 0,.deadv,pL 2,.c (ic a),.deadv,.c (ic b)]++rep 44 .deadv++[.c (bc c)]++rep 23 .deadv,[(.loc 2,[ic d,sc e,ic f,ic g,ic i]),(.par 0,[sc j,ic l])]⟩ (qlO r) (bx36 j r)
 |.h2 a b c d e f g i j l,r=>Fin cx36 Tryz.f36 (kAt qg4 [1,1,1,1,0,1,0,0,0,0,0,0,1,1,2] []) ⟨[pP 0,.deadv,pL 2,.c (ic a),.deadv,.c (ic b)]++rep 15 .deadv++[.c (bc c)]++rep 52 .deadv,[(.loc 2,[ic d,sc e,ic f,ic g,ic i]),(.par 0,[sc j,ic l])]⟩ (qlO r) (bx36 j r)
 |.h3 a b c d e f g i j,r=>Fin cx36 Tryz.f36 (kAt qg4 [1,1,1,1,0,1,0,1,2] []) ⟨[pP 0,.deadv,pL 2,.c (ic a),.deadv,.c (ic b)]++rep 68 .deadv,[(.loc 2,[ic c,sc d,ic e,ic f,ic g]),(.par 0,[sc i,ic j])]⟩ (qlO r) (bx36 i r)
abbrev E36 (a:By)(b:Int)(r:R36):Prop:=Ev Tryz.prog noHand 36 [pP 0] [[sc a,ic b]] (qlO r) (bx36 a r)
theorem qjA {a:By}{b:Int}{r:R36}(h:P36 (.e a b) r):E36 a b r:=evF h
theorem ok36:∀ k s r,itS qoR k s=some r→P36 s r:=qF fun k rec ih s r h=>match s,h with
 |.e ..,h=>by
  obtain⟨_,a,h⟩:=Xm h;rcases qa h with⟨b,h⟩|⟨b,h⟩
  · exact mA 1 (ih _ _ h) 23 [sA 15 a,tT 18 b] 74 18889465931478580658130
  · rcases qa h with⟨c,h⟩|⟨c,h⟩
    · exact mA 1 (ih _ _ h) 26 [sA 15 a,tF 18 b,tT 19 c] 74 18889465931478580658130
    · exact mA 1 (ih _ _ h) 26 [sA 15 a,tF 18 b,tF 19 c] 74 18889465931478580658130
 |.h0 ..,h=>by
  replace h:=qa h;rcases h with⟨rfl,h⟩|⟨rfl,h⟩
  · rcases qa h with⟨a,h⟩|⟨a,h⟩
    · obtain⟨_,b,h⟩:=Xm h;exact mA 1 (ih _ _ h) 4 [tT 40 a,sA 48 b] 74 18889464805578674012114
    · exact mA 1 (ih _ _ h) 4 [tF 40 a] 74 18889464805578674012114
  ·
   rcases qa h with⟨a,h⟩|⟨a,h⟩
   · exact mA 1 (ih _ _ h) 7 [tT 22 a] 74 18889465931478578757586
   ·
    rcases qa h with⟨c,h⟩|⟨c,h⟩
    · exact mA 1 (ih _ _ h) 10 [tF 22 a,tT 23 c] 74 18889465931478578757586
    ·
     rcases qa h with⟨b,h⟩|⟨b,h⟩
     · exact mA 1 (ih _ _ h) 13 [tF 22 a,tF 23 c,tT 24 b] 74 18889465931478578757586
     ·
      rcases qa h with⟨d,h⟩|⟨d,h⟩
      · exact mA 1 (ih _ _ h) 16 [tF 22 a,tF 23 c,tF 24 b,tT 25 d] 74 18889465931478578757586
      ·
       rcases qa h with⟨e,h⟩|⟨e,h⟩
       · exact mA 1 (ih _ _ h) 19 [tF 22 a,tF 23 c,tF 24 b,tF 25 d,tT 26 e] 74 18889465931478578757586
       ·
        rcases qa h with⟨f,h⟩|⟨f,h⟩
        · exact mA 1 (ih _ _ h) 22 [tF 22 a,tF 23 c,tF 24 b,tF 25 d,tF 26 e,tT 27 f] 74 18889465931478578757586
        ·
         rcases qa h with⟨g,h⟩|⟨g,h⟩
         · exact mA 1 (ih _ _ h) 25 [tF 22 a,tF 23 c,tF 24 b,tF 25 d,tF 26 e,tF 27 f,tT 28 g] 74 18889465931478578757586
         · rcases qa h with⟨i,h⟩|⟨i,h⟩
           · exact mA 1 (ih _ _ h) 28 [tF 22 a,tF 23 c,tF 24 b,tF 25 d,tF 26 e,tF 27 f,tF 28 g,tT 29 i] 74 18889465931478578757586
           · rcases qa h with⟨j,h⟩|⟨j,h⟩
             · exact mA 1 (ih _ _ h) 31 [tF 22 a,tF 23 c,tF 24 b,tF 25 d,tF 26 e,tF 27 f,tF 28 g,tF 29 i,tT 30 j] 74 18889465931478578757586
             · rcases qa h with⟨l,h⟩|⟨l,h⟩
               · exact mA 1 (ih _ _ h) 34 [tF 22 a,tF 23 c,tF 24 b,tF 25 d,tF 26 e,tF 27 f,tF 28 g,tF 29 i,tF 30 j,tT 31 l] 74 18889465931478578757586
               · exact mA 1 (ih _ _ h) 34 [tF 22 a,tF 23 c,tF 24 b,tF 25 d,tF 26 e,tF 27 f,tF 28 g,tF 29 i,tF 30 j,tF 31 l] 74 18889465931478578757586
 |.h1 ..,h=>by
  replace h:=qa h;rcases h with⟨rfl,h⟩|⟨rfl,h⟩
  · exact mA 1 (ih _ _ h) 3 [] 74 18889465931478580854738
  · exact mA 1 (ih _ _ h) 3 [] 74 18889465931478580854738
 |.h2 ..,h=>by
  replace h:=qa h;rcases h with⟨rfl,h⟩|⟨rfl,h⟩
  · exact mA 1 (ih _ _ h) 2 [] 74 18889465931478580854738
  · cases h;exact mF 1 []
 |.h3 ..,h=>by obtain⟨a,h⟩:=zo h;cases h;exact mF 1 [xS 68 a]
theorem ev36 {k:Nat}{a:By}{b:Int}{r:R36}(h:g36 k a b=some r):E36 a b r:=qjA (ok36 _ _ _ h)
inductive S20 where
 |e (a:By)(b:Int)
 |h0 (a:Int)(b:By)(c d e:Int)(f:By)(g:Int)
 |h1 (a:Bool)(b:Int)(c:By)(d e f:Int)(g:By)(i:Int)
abbrev R20:=(Int×By×Int×Int×Int×Int)⊕(Int×Int)
def qiT:R20→ARes
 |(.inl (a,b,c,d,e,_))=>.ret (.ag [ic a,sc b,ic c,ic d,ic e])
 |(.inr (a,_))=>.panic (.iface 55 (.agg #[.int .i64 a]))
def bx20 (b0_0:ByteArray):R20→List (List Cell)
 |(.inl (_,_,_,_,_,a))=>[[sc b0_0,ic a]]
 |(.inr (_,a))=>[[sc b0_0,ic a]]
noncomputable def yY (k:Nat)(rec:S20→Option R20):S20→Option R20
 |.e a b=>rec (.h0 0 (strB []) 0 0 0 a b)
 |.h0 a b c d e f g=>
  bif decide (g<(f.size:Int))then
   sxI f g fun i=>
   (g30 k i).bind fun j=>
   rec (.h1 j a b c d e f g)
  else
   rec (.h1 false a b c d e f g)
 |.h1 a b c d e f g i=>
  bif a then
   rec (.h0 b c d e f g (IntKind.i64.wrap (i+1)))
  else
   bif i==(g.size:Int)then
    some (.inl (0,strB [],0,0,i,i))
   else
    sxI g i fun j=>
    (g31 k j).bind fun l=>
    bif l then
     (g32 k g i).bind fun m=>
     altC m (fun n=>
       tup6 n fun o p q t u v=>
       some (.inl (o,p,q,t,u,v))) (fun n=>
       tup2 n fun w v=>
       some (.inr (w,v)))
    else
     (g33 k j).bind fun m=>
     bif m then
      (g34 k g i).bind fun n=>
      altC n (fun x=>
        tup2 x fun y z=>
        some (.inr (y,z))) (fun x=>
        tup6 x fun a1 b1 c1 d1 e1 z=>
        some (.inl (a1,b1,c1,d1,e1,z)))
     else
      bif j==39 then
       (g35 k g i).bind fun f1=>
       altC f1 (fun g1=>
         tup2 g1 fun i1 j1=>
         some (.inr (i1,j1))) (fun g1=>
         tup6 g1 fun l1 m1 n1 o1 p1 j1=>
         some (.inl (l1,m1,n1,o1,p1,j1)))
      else
       (g36 k g i).bind fun f1=>
       altC f1 (fun g1=>
         tup6 g1 fun l1 m1 n1 o1 p1 j1=>
         some (.inl (l1,m1,n1,o1,p1,j1))) (fun g1=>
         tup2 g1 fun i1 j1=>
         some (.inr (i1,j1)))
noncomputable def g20 (k:Nat)(a:By)(b:Int):Option R20:=itS yY k (.e a b)
noncomputable def P20:S20→R20→Prop
 |.e a b,r=>Fin cx20 Tryz.f20 [.code qdw] (fr0 Tryz.f20 [pP 0] [[sc a,ic b]]) (qiT r) (bx20 a r)
 |.h0 a b c d e f g,r=>Fin cx20 Tryz.f20 (kAt qdw [1,0,0,4] []) ⟨[pP 0,.deadv,pL 2]++rep 71 .deadv,[(.loc 2,[ic a,sc b,ic c,ic d,ic e]),(.par 0,[sc f,ic g])]⟩ (qiT r) (bx20 f r)
 |.h1 a b c d e f g i,r=>Fin cx20 Tryz.f20 (kAt qdw [1,0,0,0,0,1,2] []) ⟨[pP 0,.deadv,pL 2]++rep 22 .deadv++[.c (bc a)]++rep 48 .deadv,[(.loc 2,[ic b,sc c,ic d,ic e,ic f]),(.par 0,[sc g,ic i])]⟩ (qiT r) (bx20 g r)
abbrev E20 (a:By)(b:Int)(r:R20):Prop:=Ev Tryz.prog noHand 20 [pP 0] [[sc a,ic b]] (qiT r) (bx20 a r)
theorem qop {a:By}{b:Int}{r:R20}(h:P20 (.e a b) r):E20 a b r:=evF h
theorem ok20:∀ k s r,itS yY k s=some r→P20 s r:=qF fun k rec ih s r h=>match s,h with
 |.e ..,h=>by exact mA 1 (ih _ _ h) 5 [] 74 18889465931478580854778
 |.h0 ..,h=>by
  rcases qa h with⟨a,h⟩|⟨a,h⟩
  · obtain⟨_,b,h⟩:=Xm h;obtain⟨_,c,h⟩:=qh h;exact mA 1 (ih _ _ h) 4 [tT 13 a,sA 23 b,cA 24 (ev30 c)] 74 18889465931478547300346
  · exact mA 1 (ih _ _ h) 4 [tF 13 a] 74 18889465931478547300346
 |.h1 ..,h=>by
  replace h:=qa h;rcases h with⟨rfl,h⟩|⟨rfl,h⟩
  · exact mA 1 (ih _ _ h) 5 [] 74 18889465931478580854778
  ·
   rcases qa h with⟨a,h⟩|⟨a,h⟩
   · cases h;exact mF 1 [tT 42 a]
   ·
    obtain⟨_,b,h⟩:=Xm h;obtain⟨_,c,h⟩:=qh h;replace h:=qa h;rcases h with⟨rfl,h⟩|⟨rfl,h⟩
    · obtain⟨_,d,h⟩:=qh h;replace h:=qf h;rcases h with⟨_,rfl,h⟩|⟨_,rfl,h⟩
      · replace h:=t6 h;cases h;exact mF 1 [tF 42 a,sA 56 b,cA 59 (ev31 c),cA 61 (ev32 d)]
      · replace h:=t2 h;cases h;exact mF 1 [tF 42 a,sA 56 b,cA 59 (ev31 c),cA 61 (ev32 d)]
    ·
     obtain⟨_,d,h⟩:=qh h;replace h:=qa h;rcases h with⟨rfl,h⟩|⟨rfl,h⟩
     · obtain⟨_,e,h⟩:=qh h;replace h:=qf h;rcases h with⟨_,rfl,h⟩|⟨_,rfl,h⟩
       · replace h:=t2 h;cases h;exact mF 1 [tF 42 a,sA 56 b,cA 59 (ev31 c),cA 64 (ev33 d),cA 66 (ev34 e)]
       · replace h:=t6 h;cases h;exact mF 1 [tF 42 a,sA 56 b,cA 59 (ev31 c),cA 64 (ev33 d),cA 66 (ev34 e)]
     ·
      rcases qa h with⟨f,h⟩|⟨f,h⟩
      · obtain⟨_,g,h⟩:=qh h;replace h:=qf h;rcases h with⟨_,rfl,h⟩|⟨_,rfl,h⟩
        · replace h:=t2 h;cases h;exact mF 1 [tF 42 a,sA 56 b,cA 59 (ev31 c),cA 64 (ev33 d),tT 69 f,cA 71 (ev35 g)]
        · replace h:=t6 h;cases h;exact mF 1 [tF 42 a,sA 56 b,cA 59 (ev31 c),cA 64 (ev33 d),tT 69 f,cA 71 (ev35 g)]
      · obtain⟨_,g,h⟩:=qh h;replace h:=qf h;rcases h with⟨_,rfl,h⟩|⟨_,rfl,h⟩
        · replace h:=t6 h;cases h;exact mF 1 [tF 42 a,sA 56 b,cA 59 (ev31 c),cA 64 (ev33 d),tF 69 f,cA 73 (ev36 g)]
        · replace h:=t2 h;cases h;exact mF 1 [tF 42 a,sA 56 b,cA 59 (ev31 c),cA 64 (ev33 d),tF 69 f,cA 73 (ev36 g)]
theorem ev20 {k:Nat}{a:By}{b:Int}{r:R20}(h:g20 k a b=some r):E20 a b r:=qop (ok20 _ _ _ h)
inductive S10 where
 |e (a:By)
 |h0 (a b:Int)(c:Rs)
 |h1 (a:By)(b c d:Int)(e:Rs)
 |h2 (a b:Int)(c:Rs)
abbrev R10:=(Rs×Int×Int)⊕(Int×Int)
def qkD:R10→ARes
 |(.inl (a,b,c))=>.ret ⟨.tup [false,false,false],[[.imm a],[ic b],[ic c]]⟩
 |(.inr (a,b))=>.ret ⟨.tup [false,false,false],[[.nil],[ic a],[ic b]]⟩
def bx10:R10→List (List Cell)
 |(.inl (_,_,_))=>[]
 |(.inr (_,_))=>[]
noncomputable def qaJ (k:Nat)(rec:S10→Option R10):S10→Option R10
 |.e a=>
  bif decide ((a.size:Int)>4000)then
   rec (.h0 2 0 [])
  else
   rec (.h1 a 0 0 0 [])
 |.h0 a b c=>some (.inl (c,b,a))
 |.h1 a b c d e=>
  (g20 k a b).bind fun f=>
  altC f (fun g=>
    tup6 g fun i j l m n o=>
    gd (apOk 48 5 e [[ic i,sc j,ic l,ic m,ic n]]) <|
    bif i==0 then
     rec (.h2 0 0 (qG (e++[[ic i,sc j,ic l,ic m,ic n]])))
    else
     rec (.h1 a o c d (e++[[ic i,sc j,ic l,ic m,ic n]]))) (fun g=>
    tup2 g fun p o=>
    some (.inr (p,12)))
 |.h2 a b c=>some (.inl (c,b,a))
noncomputable def g10 (k:Nat)(a:By):Option R10:=itS qaJ k (.e a)
noncomputable def P10:S10→R10→Prop
 |.e a,r=>FinD cx10 Tryz.f10 (DOf cx10.P none 0) [.code qjO] (fr0 Tryz.f10 [.c (sc a)] []) (qkD r) (bx10 r)
 |.h0 a b c,r=>FinD cx10 Tryz.f10 (DOf cx10.P none 0) (kAt qjO [1,0,1,0,1,2] []) ⟨[.deadv,.deadv,pL 2,pL 3,pL 4]++rep 19 .deadv,[(.loc 4,[ic a]),(.loc 3,[ic b]),(.loc 2,[.imm c])]⟩ (qkD r) (bx10 r)
 |.h1 a b c d e,r=>FinD cx10 Tryz.f10 (DOf cx10.P (some 10) 19) (kAt qjO [1,1,1,1,0,4] []) ⟨[.deadv,.deadv,pL 2,pL 3,pL 4,pL 13]++rep 4 .deadv++[.c (.clo 19 [] [.ptr ⟨⟨.loc 2,[]⟩,0,0⟩,.ptr ⟨⟨.loc 3,[]⟩,0,0⟩,.ptr ⟨⟨.loc 4,[]⟩,0,0⟩])]++rep 13 .deadv,[(.loc 13,[sc a,ic b]),(.loc 4,[ic c]),(.loc 3,[ic d]),(.loc 2,[.own 5 e])]⟩ (qkD r) (bx10 r)
 |.h2 a b c,r=>FinD cx10 Tryz.f10 (DOf cx10.P (some 10) 19) (kAt qjO [1,1,1,1,0,0,0,1,1,1,0,1,2] []) ⟨[.deadv,.deadv,pL 2,pL 3,pL 4]++rep 5 .deadv++[.c (.clo 19 [] [.ptr ⟨⟨.loc 2,[]⟩,0,0⟩,.ptr ⟨⟨.loc 3,[]⟩,0,0⟩,.ptr ⟨⟨.loc 4,[]⟩,0,0⟩])]++rep 13 .deadv,[(.loc 4,[ic a]),(.loc 3,[ic b]),(.loc 2,[.imm c])]⟩ (qkD r) (bx10 r)
abbrev E10 (a:By)(r:R10):Prop:=Ev Tryz.prog noHand 10 [.c (sc a)] [] (qkD r) (bx10 r)
theorem qlH {a:By}{r:R10}(h:P10 (.e a) r):E10 a r:=evD h
theorem qth {b0_0:Rs}{b1_0:Int}{b2_0:Int}{pv_i00:Int}:EvD Tryz.prog (.panicking [{ v:=.iface 55 (.agg #[.int .i64 pv_i00]),recovered:=false }]) (.panicking [{ v:=.iface 55 (.agg #[.int .i64 pv_i00]),recovered:=true }]) 19 [pP 0,pP 1,pP 2] [[.own 5 b0_0],[ic b1_0],[ic b2_0]] (.ret .undef) [[.nil],[ic pv_i00],[ic 12]]:=qcj (fn:=Tryz.f19) (body:=qkw) (cx:=cx19) (nb:=3) (n:=2000) (val:=.iface 55 (.agg #[.int .i64 pv_i00])) (ad1:=[]) (ad2:=[]) (ps:=[]) (by kernel_rfl) (by kernel_rfl) rfl hmix rfl (.inl ⟨rfl,rfl⟩) (by kernel_rfl) trivial
theorem qti {b0_0:Rs}{b1_0:Int}{b2_0:Int}:EvD Tryz.prog .returning .returning 19 [pP 0,pP 1,pP 2] [[.imm b0_0],[ic b1_0],[ic b2_0]] (.ret .undef) [[.imm b0_0],[ic b1_0],[ic b2_0]]:=qcj (fn:=Tryz.f19) (body:=qkw) (cx:=cx19) (nb:=3) (n:=2000) (val:=.nilIface) (ad1:=[]) (ad2:=[]) (ps:=[]) (by kernel_rfl) (by kernel_rfl) rfl hmix rfl (.inr ⟨rfl,rfl,rfl⟩) (by kernel_rfl) trivial
theorem ok10:∀ k s r,itS qaJ k s=some r→P10 s r:=qF fun k rec ih s r h=>match s,h with
 |.e a,h=>by
  rcases qa h with⟨b,h⟩|⟨b,h⟩
  · exact Ya (t:=none) (f:=0) hmix (ih _ _ h) (n:=8) (ad:=[(some 9,.test true)]) (ps:=[_]) (m:=bm 24 16777187) (ls:=[]) (cs:=[(⟨⟨.loc 2,[]⟩,0,0⟩,none)]) (by kernel_rfl) ⟨b,trivial⟩
  · exact Ya (t:=none) (f:=0) hmix (qg9 (Q:=fun G0 w0=>bodyPostD cx10.P Tryz.f10 (Went G0 w0 _ _)) (K0:=(kAt qjO [1,1,0,2] [])) (F:=⟨[.c (sc a),.undef,pL 2,pL 3,pL 4,.undef,.undef,.c (sc a),.c (ic (a.size:Int)),.c (bc false)]++rep 14 .undef,[(.loc 4,[ic 0]),(.loc 3,[ic 0]),(.loc 2,[.nil])]⟩) (k:=10) (f:=19) (K1:=(kAt qjO [1,1,0,3] [])) (F1:=⟨[.c (sc a),.undef,pL 2,pL 3,pL 4,.undef,.undef,.c (sc a),.c (ic (a.size:Int)),.c (bc false),.c (.clo 19 [] [.ptr ⟨⟨.loc 2,[]⟩,0,0⟩,.ptr ⟨⟨.loc 3,[]⟩,0,0⟩,.ptr ⟨⟨.loc 4,[]⟩,0,0⟩])]++rep 13 .undef,[(.loc 4,[ic 0]),(.loc 3,[ic 0]),(.loc 2,[.nil])]⟩) (ad:=[]) (ps:=[]) ⟨Tryz.f19,by kernel_rfl,by kernel_rfl,by kernel_rfl⟩ (Ya (t:=some 10) (f:=19) hmix (ih _ _ h) (n:=4) (ad:=[]) (ps:=[]) (m:=bm 24 16776131) (ls:=[]) (cs:=[(⟨⟨.loc 2,[]⟩,0,0⟩,some 5)]) (by kernel_rfl) trivial) (by kernel_rfl) trivial) (n:=8) (ad:=[(some 9,.test false)]) (ps:=[_]) (m:=bm 24 0) (ls:=[]) (cs:=[]) (by kernel_rfl) ⟨b,trivial⟩
 |.h0 ..,h=>by rw[← aR h];exact Yz (nb:=0) (t:=none) (f:=0) hmix (n:=2000) (ad:=[]) (ps:=[]) (bx':=[]) (by kernel_rfl) trivial
 |.h1 a _ b c d,h=>by
  obtain⟨_,e,h⟩:=qh h;replace h:=qf h;rcases h with⟨_,rfl,h⟩|⟨_,rfl,h⟩
  · replace h:=qk3 h;obtain⟨g,i,j,l,o,p,rfl,h⟩:=h;obtain⟨q,h⟩:=zo h;rcases qa h with⟨u,h⟩|⟨u,h⟩
    · exact Ya (t:=some 10) (f:=19) hmix (ih _ _ h) (n:=11) (ad:=[(some 15,.call (.ret (.ag [ic g,sc i,ic j,ic l,ic o])) [[sc a,ic p]] false),(some 19,.okE false),(some 22,.test true)]) (ps:=[_,_,_]) (m:=bm 24 16776163) (ls:=[6,13]) (cs:=[]) (by kernel_rfl) ⟨(ev20 e),okF [[ic g,sc i,ic j,ic l,ic o]] q,u,trivial⟩
    · exact Ya (t:=some 10) (f:=19) hmix (ih _ _ h) (n:=11) (ad:=[(some 15,.call (.ret (.ag [ic g,sc i,ic j,ic l,ic o])) [[sc a,ic p]] false),(some 19,.okE false),(some 22,.test false)]) (ps:=[_,_,_]) (m:=bm 24 16776131) (ls:=[6]) (cs:=[]) (by kernel_rfl) ⟨(ev20 e),okF [[ic g,sc i,ic j,ic l,ic o]] q,u,trivial⟩
  · replace h:=QD h;obtain⟨v,p,rfl,h⟩:=h;rw[← aR h];exact Yz (nb:=0) (t:=some 10) (f:=19) hmix (n:=2000) (ad:=[(some 15,.call (.panic (.iface 55 (.agg #[.int .i64 v]))) [[sc a,ic p]] false)]) (ps:=[_,_]) (bx':=[[.nil],[ic v],[ic 12]]) (by kernel_rfl) ⟨(ev20 e),(qth (b0_0:=d) (b1_0:=c) (b2_0:=b) (pv_i00:=v)),trivial⟩
 |.h2 a b c,h=>by rw[← aR h];exact Yz (nb:=0) (t:=some 10) (f:=19) hmix (n:=2000) (ad:=[]) (ps:=[_]) (bx':=[[.imm c],[ic b],[ic a]]) (by kernel_rfl) ⟨(qti (b0_0:=c) (b1_0:=b) (b2_0:=a)),trivial⟩
theorem ev10 {k:Nat}{a:By}{r:R10}(h:g10 k a=some r):E10 a r:=qlH (ok10 _ _ _ h)
inductive S68 where
 |e (a:Rs)(b c:Int)
abbrev R68:=Int×By×Int×Int×Int×Rs
def qtN:R68→ARes
 |(a,b,c,d,e,_)=>.ret (.ag [ic a,sc b,ic c,ic d,ic e])
def bx68 (b0_1:Int)(b0_2:Int):R68→List (List Cell)
 |(_,_,_,_,_,a)=>[[.imm a,ic b0_1,ic b0_2]]
noncomputable def qq4 (k:Nat)(rec:S68→Option R68):S68→Option R68
 |.e a b ..=>
  bif decide (b<(a.length:Int))then
   ixR a b fun c=>
   qaM c fun d e f g i=>
   some (d,e,f,g,i,a)
  else
   some (0,strB [],0,0,0,a)
noncomputable def g68 (k:Nat)(a:Rs)(b c:Int):Option R68:=itS qq4 k (.e a b c)
noncomputable def P68:S68→R68→Prop
 |.e a b c,r=>Fin cx68 Tryz.f68 [.code qsY] (fr0 Tryz.f68 [pP 0] [[.imm a,ic b,ic c]]) (qtN r) (bx68 b c r)
abbrev E68 (a:Rs)(b c:Int)(r:R68):Prop:=Ev Tryz.prog noHand 68 [pP 0] [[.imm a,ic b,ic c]] (qtN r) (bx68 b c r)
theorem quu {a:Rs}{b c:Int}{r:R68}(h:P68 (.e a b c) r):E68 a b c r:=evF h
theorem ok68:∀ k s r,itS qq4 k s=some r→P68 s r:=qF fun k rec ih s r h=>match s,h with
 |.e ..,h=>by
  rcases qa h with⟨a,h⟩|⟨a,h⟩
  · obtain⟨_,b,h⟩:=YJ h;replace h:=qca h;obtain⟨_,_,_,_,_,rfl,h⟩:=h;cases h;exact mF 1 [tT 12 a,rA 21 b]
  · cases h;exact mF 1 [tF 12 a]
theorem ev68 {k:Nat}{a:Rs}{b c:Int}{r:R68}(h:g68 k a b c=some r):E68 a b c r:=quu (ok68 _ _ _ h)
inductive S44 where
 |e (a:By)(b:Rs)(c d:Int)
abbrev R44:=Bool×Rs
def qtE:R44→ARes
 |(r,_)=>.ret (.c (bc r))
def bx44 (b0_1:Int)(b0_2:Int):R44→List (List Cell)
 |(_,a)=>[[.imm a,ic b0_1,ic b0_2]]
noncomputable def qq1 (k:Nat)(rec:S44→Option R44):S44→Option R44
 |.e a b c d=>
  (g68 k b c d).bind fun e=>
  tup6 e fun f g _ _ _ i=>
  bif f==1 then
   some (g.toList==a.toList,i)
  else
   bif f==6 then
    some (g.toList==a.toList,i)
   else
    some (false,i)
noncomputable def g44 (k:Nat)(a:By)(b:Rs)(c d:Int):Option R44:=itS qq1 k (.e a b c d)
noncomputable def P44:S44→R44→Prop
 |.e a b c d,r=>Fin cx44 Tryz.f44 [.code qsQ] (fr0 Tryz.f44 [pP 0,.c (sc a)] [[.imm b,ic c,ic d]]) (qtE r) (bx44 c d r)
abbrev E44 (a:By)(b:Rs)(c d:Int)(r:R44):Prop:=Ev Tryz.prog noHand 44 [pP 0,.c (sc a)] [[.imm b,ic c,ic d]] (qtE r) (bx44 c d r)
theorem quh {a:By}{b:Rs}{c d:Int}{r:R44}(h:P44 (.e a b c d) r):E44 a b c d r:=evF h
theorem ok44:∀ k s r,itS qq1 k s=some r→P44 s r:=qF fun k rec ih s r h=>match s,h with
 |.e ..,h=>by
  obtain⟨_,a,h⟩:=b6 h;rcases qa h with⟨b,h⟩|⟨b,h⟩
  · cases h;exact mF 1 [cA 7 (ev68 a),tT 10 b]
  · rcases qa h with⟨c,h⟩|⟨c,h⟩
    · cases h;exact mF 1 [cA 7 (ev68 a),tF 10 b,tT 14 c]
    · cases h;exact mF 1 [cA 7 (ev68 a),tF 10 b,tF 14 c]
theorem ev44 {k:Nat}{a:By}{b:Rs}{c d:Int}{r:R44}(h:g44 k a b c d=some r):E44 a b c d r:=quh (ok44 _ _ _ h)
inductive S121 where
 |e (a:Rs)(b c:Int)
abbrev R121:=(Int×Int×Rs×Int)⊕(By×Rs×Int)
def qsl:R121→ARes
 |(.inl (a,b,_,_))=>.panic (.iface 65 (.agg #[.int .i64 a,.int .i64 b]))
 |(.inr (r,_,_))=>.ret (.c (sc r))
def qs9 (b0_2:Int):R121→List (List Cell)
 |(.inl (_,_,a,b))=>[[.imm a,ic b,ic b0_2]]
 |(.inr (_,a,b))=>[[.imm a,ic b,ic b0_2]]
noncomputable def qqc (k:Nat)(rec:S121→Option R121):S121→Option R121
 |.e a b c=>
  (g68 k a b c).bind fun d=>
  tup6 d fun e f _ _ g i=>
  bif e != 2 then
   some (.inl (g,13,i,b))
  else
   some (.inr (f,i,IntKind.i64.wrap (b+1)))
noncomputable def g121 (k:Nat)(a:Rs)(b c:Int):Option R121:=itS qqc k (.e a b c)
noncomputable def P121:S121→R121→Prop
 |.e a b c,r=>Fin qub Tryz.f121 [.code qsA] (fr0 Tryz.f121 [pP 0] [[.imm a,ic b,ic c]]) (qsl r) (qs9 c r)
abbrev E121 (a:Rs)(b c:Int)(r:R121):Prop:=Ev Tryz.prog noHand 121 [pP 0] [[.imm a,ic b,ic c]] (qsl r) (qs9 c r)
theorem qtn {a:Rs}{b c:Int}{r:R121}(h:P121 (.e a b c) r):E121 a b c r:=evF h
theorem quH:∀ k s r,itS qqc k s=some r→P121 s r:=qF fun k rec ih s r h=>match s,h with
 |.e ..,h=>by
  obtain⟨_,a,h⟩:=b6 h;rcases qa h with⟨b,h⟩|⟨b,h⟩
  · cases h;exact mF 1 [cA 5 (ev68 a),tT 8 b]
  · cases h;exact mF 1 [cA 5 (ev68 a),tF 8 b]
theorem qp6 {k:Nat}{a:Rs}{b c:Int}{r:R121}(h:g121 k a b c=some r):E121 a b c r:=qtn (quH _ _ _ h)
inductive S117 where
 |e (a:By)(b:Rs)(c d:Int)
abbrev R117:=(Int×Int×Rs×Int)⊕(Rs×Int)
def qsj:R117→ARes
 |(.inl (a,b,_,_))=>.panic (.iface 65 (.agg #[.int .i64 a,.int .i64 b]))
 |(.inr (_,_))=>.ret .undef
def qs7 (b0_2:Int):R117→List (List Cell)
 |(.inl (_,_,a,b))=>[[.imm a,ic b,ic b0_2]]
 |(.inr (a,b))=>[[.imm a,ic b,ic b0_2]]
noncomputable def qqb (k:Nat)(rec:S117→Option R117):S117→Option R117
 |.e a b c d=>
  (g44 k a b c d).bind fun e=>
  tup2 e fun f g=>
  bif !f then
   (g68 k g c d).bind fun i=>
   tup6 i fun _ _ _ _ j l=>
   some (.inl (j,13,l,c))
  else
   some (.inr (g,IntKind.i64.wrap (c+1)))
noncomputable def g117 (k:Nat)(a:By)(b:Rs)(c d:Int):Option R117:=itS qqb k (.e a b c d)
noncomputable def P117:S117→R117→Prop
 |.e a b c d,r=>Fin qua Tryz.f117 [.code qsz] (fr0 Tryz.f117 [pP 0,.c (sc a)] [[.imm b,ic c,ic d]]) (qsj r) (qs7 d r)
abbrev E117 (a:By)(b:Rs)(c d:Int)(r:R117):Prop:=Ev Tryz.prog noHand 117 [pP 0,.c (sc a)] [[.imm b,ic c,ic d]] (qsj r) (qs7 d r)
theorem qtm {a:By}{b:Rs}{c d:Int}{r:R117}(h:P117 (.e a b c d) r):E117 a b c d r:=evF h
theorem quG:∀ k s r,itS qqb k s=some r→P117 s r:=qF fun k rec ih s r h=>match s,h with
 |.e ..,h=>by
  obtain⟨_,a,h⟩:=b2 h;rcases qa h with⟨b,h⟩|⟨b,h⟩
  · obtain⟨_,c,h⟩:=b6 h;cases h;exact mF 1 [cA 6 (ev44 a),tT 7 b,cA 9 (ev68 c)]
  · cases h;exact mF 1 [cA 6 (ev44 a),tF 7 b]
theorem qo8 {k:Nat}{a:By}{b:Rs}{c d:Int}{r:R117}(h:g117 k a b c d=some r):E117 a b c d r:=qtm (quG _ _ _ h)
inductive S116 where
 |e (a:Rs)(b c:Int)
abbrev R116:=(Int×Int×Rs×Int)⊕(By×By×Rs×Int)
def qsi:R116→ARes
 |(.inl (a,b,_,_))=>.panic (.iface 65 (.agg #[.int .i64 a,.int .i64 b]))
 |(.inr (a,b,_,_))=>.ret ⟨.tup [false,false],[[sc a],[sc b]]⟩
def qs6 (b0_2:Int):R116→List (List Cell)
 |(.inl (_,_,a,b))=>[[.imm a,ic b,ic b0_2]]
 |(.inr (_,_,a,b))=>[[.imm a,ic b,ic b0_2]]
noncomputable def qoW (k:Nat)(rec:S116→Option R116):S116→Option R116
 |.e a b c=>
  (g121 k a b c).bind fun d=>
  altC d (fun e=>
    tup4 e fun f g i j=>
    some (.inl (f,g,i,j))) (fun e=>
    tup3 e fun l i j=>
    (g117 k (strB [46]) i j c).bind fun m=>
    altC m (fun n=>
      tup4 n fun o p q t=>
      some (.inl (o,p,q,t))) (fun n=>
      tup2 n fun q t=>
      (g44 k (strB [84,73,77,69]) q t c).bind fun u=>
      tup2 u fun v w=>
      bif v then
       some (.inr (l,strB [84,73,77,69],w,IntKind.i64.wrap (t+1)))
      else
       (g121 k w t c).bind fun x=>
       altC x (fun y=>
         tup4 y fun z a1 b1 c1=>
         some (.inl (z,a1,b1,c1))) (fun y=>
         tup3 y fun d1 b1 c1=>
         some (.inr (l,d1,b1,c1)))))
noncomputable def g116 (k:Nat)(a:Rs)(b c:Int):Option R116:=itS qoW k (.e a b c)
noncomputable def P116:S116→R116→Prop
 |.e a b c,r=>Fin qt9 Tryz.f116 [.code qsy] (fr0 Tryz.f116 [pP 0] [[.imm a,ic b,ic c]]) (qsi r) (qs6 c r)
abbrev E116 (a:Rs)(b c:Int)(r:R116):Prop:=Ev Tryz.prog noHand 116 [pP 0] [[.imm a,ic b,ic c]] (qsi r) (qs6 c r)
theorem qtl {a:Rs}{b c:Int}{r:R116}(h:P116 (.e a b c) r):E116 a b c r:=evF h
theorem quF:∀ k s r,itS qoW k s=some r→P116 s r:=qF fun k rec ih s r h=>match s,h with
 |.e ..,h=>by
  obtain⟨_,a,h⟩:=qh h;replace h:=qf h;rcases h with⟨_,rfl,h⟩|⟨_,rfl,h⟩
  · replace h:=t4 h;cases h;exact mF 1 [cA 6 (qp6 a)]
  ·
   replace h:=t3 h;obtain⟨_,b,h⟩:=qh h;replace h:=qf h;rcases h with⟨_,rfl,h⟩|⟨_,rfl,h⟩
   · replace h:=t4 h;cases h;exact mF 1 [cA 6 (qp6 a),cA 8 (qo8 b)]
   ·
    replace h:=t2 h;obtain⟨_,c,h⟩:=qh h;replace h:=QD h;obtain⟨_,_,rfl,h⟩:=h;replace h:=qa h;rcases h with⟨rfl,h⟩|⟨rfl,h⟩
    · cases h;exact mF 1 [cA 6 (qp6 a),cA 8 (qo8 b),cA 10 (ev44 c)]
    · obtain⟨_,d,h⟩:=qh h;replace h:=qf h;rcases h with⟨_,rfl,h⟩|⟨_,rfl,h⟩
      · replace h:=t4 h;cases h;exact mF 1 [cA 6 (qp6 a),cA 8 (qo8 b),cA 10 (ev44 c),cA 21 (qp6 d)]
      · replace h:=t3 h;cases h;exact mF 1 [cA 6 (qp6 a),cA 8 (qo8 b),cA 10 (ev44 c),cA 21 (qp6 d)]
theorem qrK {k:Nat}{a:Rs}{b c:Int}{r:R116}(h:g116 k a b c=some r):E116 a b c r:=qtl (quF _ _ _ h)
inductive S80 where
 |e (a:Rs)(b c:Int)
abbrev R80:=(Int×Int×Rs×Int×Int)⊕(Int×Rs×Int×Int)
def qtR:R80→ARes
 |(.inl (a,b,_,_,_))=>.panic (.iface 65 (.agg #[.int .i64 a,.int .i64 b]))
 |(.inr (r,_,_,_))=>.ret (.c (ic r))
def bx80:R80→List (List Cell)
 |(.inl (_,_,a,b,c))=>[[.imm a,ic b,ic c]]
 |(.inr (_,a,b,c))=>[[.imm a,ic b,ic c]]
noncomputable def qq5 (k:Nat)(rec:S80→Option R80):S80→Option R80
 |.e a b c=>
  (g68 k a b c).bind fun d=>
  tup6 d fun _ _ _ _ e f=>
  bif c==30 then
   some (.inl (e,14,f,b,c))
  else
   some (.inr (e,f,IntKind.i64.wrap (b+1),IntKind.i64.wrap (c+1)))
noncomputable def g80 (k:Nat)(a:Rs)(b c:Int):Option R80:=itS qq5 k (.e a b c)
noncomputable def P80:S80→R80→Prop
 |.e a b c,r=>Fin cx80 Tryz.f80 [.code qkc] (fr0 Tryz.f80 [pP 0] [[.imm a,ic b,ic c]]) (qtR r) (bx80 r)
abbrev E80 (a:Rs)(b c:Int)(r:R80):Prop:=Ev Tryz.prog noHand 80 [pP 0] [[.imm a,ic b,ic c]] (qtR r) (bx80 r)
theorem quA {a:Rs}{b c:Int}{r:R80}(h:P80 (.e a b c) r):E80 a b c r:=evF h
theorem ok80:∀ k s r,itS qq5 k s=some r→P80 s r:=qF fun k rec ih s r h=>match s,h with
 |.e ..,h=>by
  obtain⟨_,a,h⟩:=b6 h;rcases qa h with⟨b,h⟩|⟨b,h⟩
  · cases h;exact mF 1 [cA 5 (ev68 a),tT 10 b]
  · cases h;exact mF 1 [cA 5 (ev68 a),tF 10 b]
theorem ev80 {k:Nat}{a:Rs}{b c:Int}{r:R80}(h:g80 k a b c=some r):E80 a b c r:=quA (ok80 _ _ _ h)
inductive S122 where
 |e (a:Int)(b:By)(c d e:Int)(f:Rs)(g i:Int)
 |h0 (a b c d e f g:By)(i j l m:Int)(n o:By)(p q:Int)(t:By)(u v w:Int)(x:Rs)(y z:Int)
 |h1 (a b c:Int)(d e:By)(f g i j:Int)(l m:By)(n:Int)(o:Rs)(p q:Int)
abbrev R122:=(Int×Int×Rs×Int)⊕(Int×Int×Int×By×By×Int×Rs×Int)
def qqW:R122→ARes
 |(.inl (a,b,_,_))=>.panic (.iface 65 (.agg #[.int .i64 a,.int .i64 b]))
 |(.inr (a,b,c,d,e,f,_,_))=>.ret (.ag [ic a,.nil,ic b,ic c,sc d,sc e,ic f])
def qrH (b0_2:Int):R122→List (List Cell)
 |(.inl (_,_,a,b))=>[[.imm a,ic b,ic b0_2]]
 |(.inr (_,_,_,_,_,_,a,b))=>[[.imm a,ic b,ic b0_2]]
noncomputable def qoL (k:Nat)(rec:S122→Option R122):S122→Option R122
 |.e a b c d e f g i=>rec (.h0 (strB [67,79,85,78,84]) (strB [70,73,82,83,84]) (strB [76,65,83,84]) (strB [83,85,77]) (strB [77,73,78]) (strB [77,65,88]) (strB [77,69,65,78]) 0 0 0 0 (strB []) (strB []) 0 a b c d e f g i)
 |.h0 a b c d e f g i j l m n o p q t u v w x y z=>
  bif decide (i<7)then
   aixS [a,b,c,d,e,f,g] i fun a1=>
   bif !(a1.toList==t.toList)then
    rec (.h0 a b c d e f g (IntKind.i64.wrap (i+1)) j l m n o p q t u v w x y z)
   else
    (g117 k (strB [40]) x (IntKind.i64.wrap (y+1)) z).bind fun b1=>
    altC b1 (fun c1=>
      tup4 c1 fun d1 e1 f1 g1=>
      some (.inl (d1,e1,f1,g1))) (fun c1=>
      tup2 c1 fun f1 g1=>
      bif i==0 then
       (g121 k f1 g1 z).bind fun i1=>
       altC i1 (fun j1=>
         tup4 j1 fun l1 m1 n1 o1=>
         some (.inl (l1,m1,n1,o1))) (fun j1=>
         tup3 j1 fun p1 n1 o1=>
         rec (.h1 (IntKind.i64.wrap ((25:Int)+i)) 0 0 p1 (strB []) w j l m n o p n1 o1 z))
      else
       (g116 k f1 g1 z).bind fun i1=>
       altC i1 (fun j1=>
         tup4 j1 fun l1 m1 n1 o1=>
         some (.inl (l1,m1,n1,o1))) (fun j1=>
         tup4 j1 fun q1 t1 n1 o1=>
         rec (.h1 (IntKind.i64.wrap ((25:Int)+i)) 0 0 q1 t1 w j l m n o p n1 o1 z)))
  else
   some (.inl (w,13,x,y))
 |.h1 a b c d e f _ _ _ _ _ _ g i j=>
  (g117 k (strB [41]) g i j).bind fun l=>
  altC l (fun m=>
    tup4 m fun n o p q=>
    some (.inl (n,o,p,q))) (fun m=>
    tup2 m fun p q=>
    some (.inr (a,b,c,d,e,f,p,q)))
noncomputable def g122 (k:Nat)(a:Int)(b:By)(c d e:Int)(f:Rs)(g i:Int):Option R122:=itS qoL k (.e a b c d e f g i)
noncomputable def P122:S122→R122→Prop
 |.e a b c d e f g i,r=>Fin qsB Tryz.f122 [.code qqu] (fr0 Tryz.f122 [pP 0,.ag [ic a,sc b,ic c,ic d,ic e]] [[.imm f,ic g,ic i]]) (qqW r) (qrH i r)
 |.h0 a b c d e f g i j l m n o p q t u v w x y z,r=>Fin qsB Tryz.f122 (kAt qqu [1,0,1,0,4] []) ⟨[pP 0,.deadv,.deadv,pL 3,pL 4]++rep 3 .deadv++[.ag [sc a,sc b,sc c,sc d,sc e,sc f,sc g],.c (ic i)]++rep 41 .deadv,[(.loc 4,[ic j,.nil,ic l,ic m,sc n,sc o,ic p]),(.loc 3,[ic q,sc t,ic u,ic v,ic w]),(.par 0,[.imm x,ic y,ic z])]⟩ (qqW r) (qrH z r)
 |.h1 a b c d e f g i j l m n o p q,r=>Fin qsB Tryz.f122 (kAt qqu [1,0,1,0,0,1,1,0,0,1,1,1,1,1,1,2] []) ⟨[pP 0]++rep 3 .deadv++[pL 4,.deadv,.deadv,pL 7]++rep 43 .deadv,[(.loc 7,[ic a,.nil,ic b,ic c,sc d,sc e,ic f]),(.loc 4,[ic g,.nil,ic i,ic j,sc l,sc m,ic n]),(.par 0,[.imm o,ic p,ic q])]⟩ (qqW r) (qrH q r)
abbrev E122 (a:Int)(b:By)(c d e:Int)(f:Rs)(g i:Int)(r:R122):Prop:=Ev Tryz.prog noHand 122 [pP 0,.ag [ic a,sc b,ic c,ic d,ic e]] [[.imm f,ic g,ic i]] (qqW r) (qrH i r)
theorem qto {a:Int}{b:By}{c d e:Int}{f:Rs}{g i:Int}{r:R122}(h:P122 (.e a b c d e f g i) r):E122 a b c d e f g i r:=evF h
theorem quI:∀ k s r,itS qoL k s=some r→P122 s r:=qF fun k rec ih s r h=>match s,h with
 |.e ..,h=>by exact mA 1 (ih _ _ h) 7 [] 51 2251799813684454
 |.h0 ..,h=>by
  rcases qa h with⟨a,h⟩|⟨a,h⟩
  ·
   obtain⟨_,b,h⟩:=qcW h;rcases qa h with⟨c,h⟩|⟨c,h⟩
   · exact mA 1 (ih _ _ h) 16 [tT 10 a,aA 12 b,tT 16 c] 51 2251799813684454
   ·
    obtain⟨_,d,h⟩:=qh h;replace h:=qf h;rcases h with⟨_,rfl,h⟩|⟨_,rfl,h⟩
    · replace h:=t4 h;cases h;exact mF 1 [tT 10 a,aA 12 b,tF 16 c,cA 25 (qo8 d)]
    ·
     replace h:=t2 h;rcases qa h with⟨e,h⟩|⟨e,h⟩
     · obtain⟨_,f,h⟩:=qh h;replace h:=qf h;rcases h with⟨_,rfl,h⟩|⟨_,rfl,h⟩
       · replace h:=t4 h;cases h;exact mF 1 [tT 10 a,aA 12 b,tF 16 c,cA 25 (qo8 d),tT 32 e,cA 34 (qp6 f)]
       · replace h:=t3 h;exact mG 1 (ih _ _ h) 26 [tT 10 a,aA 12 b,tF 16 c,cA 25 (qo8 d),tT 32 e,cA 34 (qp6 f)] 51 2251799813685102 [3] []
     · obtain⟨_,f,h⟩:=qh h;replace h:=qf h;rcases h with⟨_,rfl,h⟩|⟨_,rfl,h⟩
       · replace h:=t4 h;cases h;exact mF 1 [tT 10 a,aA 12 b,tF 16 c,cA 25 (qo8 d),tF 32 e,cA 38 (qrK f)]
       · replace h:=t4 h;exact mG 1 (ih _ _ h) 26 [tT 10 a,aA 12 b,tF 16 c,cA 25 (qo8 d),tF 32 e,cA 38 (qrK f)] 51 2251799813685102 [3] []
  · cases h;exact mF 1 [tF 10 a]
 |.h1 ..,h=>by
  obtain⟨_,a,h⟩:=qh h;replace h:=qf h;rcases h with⟨_,rfl,h⟩|⟨_,rfl,h⟩
  · replace h:=t4 h;cases h;exact mF 1 [cA 44 (qo8 a)]
  · replace h:=t2 h;cases h;exact mF 1 [cA 44 (qo8 a)]
theorem qtg {k:Nat}{a:Int}{b:By}{c d e:Int}{f:Rs}{g i:Int}{r:R122}(h:g122 k a b c d e f g i=some r):E122 a b c d e f g i r:=qto (quI _ _ _ h)
inductive S90 where
 |e (a:By)(b:Int)(c:Rs)(d e:Int)
 |h0 (a:Int)(b:Rs)(c d e:Int)(f:By)(g i j:Int)(l:Rs)(m n:Int)
 |h1 (a:Rs)(b c:Int)
abbrev R90:=Int×Rs
def qnd:R90→ARes
 |(r,_)=>.ret (.c (ic r))
def bx90 (b0_1:Int)(b0_2:Int):R90→List (List Cell)
 |(_,a)=>[[.imm a,ic b0_1,ic b0_2]]
noncomputable def qfL (k:Nat)(rec:S90→Option R90):S90→Option R90
 |.e a b c d e=>
  (g68 k c d e).bind fun f=>
  tup6 f fun g i j l m n=>
  bif g==6 then
   (YZ a).bind fun o=>
   rec (.h0 b o (o.length:Int) 0 g i j l m n d e)
  else
   rec (.h1 n d e)
 |.h0 a b c d e f g i j l m n=>
  bif decide (d<c)then
   ixR b d fun o=>
   un_s o fun p=>
   bif p.toList==f.toList then
    some (IntKind.i64.wrap (a+d),l)
   else
    rec (.h0 a b c (IntKind.i64.wrap (d+1)) e f g i j l m n)
  else
   rec (.h1 l m n)
 |.h1 a ..=>some (0,a)
noncomputable def g90 (k:Nat)(a:By)(b:Int)(c:Rs)(d e:Int):Option R90:=itS qfL k (.e a b c d e)
noncomputable def P90:S90→R90→Prop
 |.e a b c d e,r=>Fin cx90 Tryz.f90 [.code qmd] (fr0 Tryz.f90 [pP 0,.c (sc a),.c (ic b)] [[.imm c,ic d,ic e]]) (qnd r) (bx90 d e r)
 |.h0 a b c d e f g i j l m n,r=>Fin cx90 Tryz.f90 (kAt qmd [1,1,0,1,0,1,0,4] []) ⟨[.deadv,.deadv,.c (ic a)]++rep 4 .deadv++[pL 7]++rep 8 .deadv++[.c (.imm b),.c (ic c),.c (ic d)]++rep 12 .deadv,[(.loc 7,[ic e,sc f,ic g,ic i,ic j]),(.par 0,[.imm l,ic m,ic n])]⟩ (qnd r) (bx90 m n r)
 |.h1 a b c,r=>Fin cx90 Tryz.f90 (kAt qmd [1,1,1,2] []) ⟨rep 31 .deadv,[(.par 0,[.imm a,ic b,ic c])]⟩ (qnd r) (bx90 b c r)
abbrev E90 (a:By)(b:Int)(c:Rs)(d e:Int)(r:R90):Prop:=Ev Tryz.prog noHand 90 [pP 0,.c (sc a),.c (ic b)] [[.imm c,ic d,ic e]] (qnd r) (bx90 d e r)
theorem qoq {a:By}{b:Int}{c:Rs}{d e:Int}{r:R90}(h:P90 (.e a b c d e) r):E90 a b c d e r:=evF h
theorem ok90:∀ k s r,itS qfL k s=some r→P90 s r:=qF fun k rec ih s r h=>match s,h with
 |.e ..,h=>by
  obtain⟨_,a,h⟩:=b6 h;rcases qa h with⟨b,h⟩|⟨b,h⟩
  · obtain⟨_,c,h⟩:=qh h;exact mA 1 (ih _ _ h) 12 [cA 11 (ev68 a),tT 14 b,cA 16 (qgF c)] 31 2147024763
  · exact mG 1 (ih _ _ h) 9 [cA 11 (ev68 a),tF 14 b] 31 2147483647 [7] []
 |.h0 ..,h=>by
  rcases qa h with⟨a,h⟩|⟨a,h⟩
  · obtain⟨_,b,h⟩:=YJ h;replace h:=qkP h;obtain⟨_,rfl,h⟩:=h;rcases qa h with⟨c,h⟩|⟨c,h⟩
    · cases h;exact mF 1 [tT 19 a,rA 21 b,tT 26 c]
    · exact mA 1 (ih _ _ h) 16 [tT 19 a,rA 21 b,tF 26 c] 31 2147024763
  · exact mG 1 (ih _ _ h) 6 [tF 19 a] 31 2147483647 [7] []
 |.h1 ..,h=>by cases h;exact mF 1 []
theorem ev90 {k:Nat}{a:By}{b:Int}{c:Rs}{d e:Int}{r:R90}(h:g90 k a b c d e=some r):E90 a b c d e r:=qoq (ok90 _ _ _ h)
end Ab
end Go.Proofs.YtfekohpjaafnhaaGreatDoor
