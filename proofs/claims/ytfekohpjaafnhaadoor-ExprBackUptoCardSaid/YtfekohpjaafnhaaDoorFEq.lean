/-
  Functions' ways, printed by a program: what each computes, and that this is what the interpreter computes.
-/
import Derived.Test.YtfekohpjaafnhaaDoorSfq
import Derived.KernelRfl
set_option linter.all false
set_option maxRecDepth 10000
namespace Go.Proofs.YtfekohpjaafnhaaDoor
namespace Ab
variable [vo]
def un_i {α:Type}(row:List Cell)(k:Int→Option α):Option α:=match row with
  |[.val (.int .i64 x0)]=>k x0
  |_=>none
def qE {α:Type}(row:List Cell)(k:Int→Rs→Int→Int→ByteArray→ByteArray→Int→Option α):Option α:=match row with
  |[.val (.int .i64 x0),.imm x1,.val (.int .i64 x2),.val (.int .i64 x3),.val (.string x4),.val (.string x5),.val (.int .i64 x6)]=>k x0 x1 x2 x3 x4 x5 x6
  |_=>none
theorem zB {α:Type}{row:List Cell}{k:Int→Rs→Int→Int→ByteArray→ByteArray→Int→Option α}{r:α}(h:qE row k=some r):∃ x0 x1 x2 x3 x4 x5 x6,row=[.val (.int .i64 x0),.imm x1,.val (.int .i64 x2),.val (.int .i64 x3),.val (.string x4),.val (.string x5),.val (.int .i64 x6)]∧k x0 x1 x2 x3 x4 x5 x6=some r:=by
  unfold qE at h;split at h
  · exact⟨_,_,_,_,_,_,_,rfl,h⟩
  · cases h
def qaM {α:Type}(row:List Cell)(k:Int→ByteArray→Int→Int→Int→Option α):Option α:=match row with
  |[.val (.int .i64 x0),.val (.string x1),.val (.int .i64 x2),.val (.int .i64 x3),.val (.int .i64 x4)]=>k x0 x1 x2 x3 x4
  |_=>none
theorem qca {α:Type}{row:List Cell}{k:Int→ByteArray→Int→Int→Int→Option α}{r:α}(h:qaM row k=some r):∃ x0 x1 x2 x3 x4,row=[.val (.int .i64 x0),.val (.string x1),.val (.int .i64 x2),.val (.int .i64 x3),.val (.int .i64 x4)]∧k x0 x1 x2 x3 x4=some r:=by
  unfold qaM at h;split at h
  · exact⟨_,_,_,_,_,rfl,h⟩
  · cases h
def un_s {α:Type}(row:List Cell)(k:ByteArray→Option α):Option α:=match row with
  |[.val (.string x0)]=>k x0
  |_=>none
theorem qkP {α:Type}{row:List Cell}{k:ByteArray→Option α}{r:α}(h:un_s row k=some r):∃ x0,row=[.val (.string x0)]∧k x0=some r:=by
  unfold un_s at h;split at h
  · exact⟨_,rfl,h⟩
  · cases h
inductive S29 where
 |e (a:Int)
abbrev R29:=Bool
def qlZ:R29→ARes
 |r=>.ret (.c (bc r))
def bx29:R29→List (List Cell)
 |_=>[]
noncomputable def qfO (k:Nat)(rec:S29→Option R29):S29→Option R29
 |.e a=>
  bif a==32 then
   some true
  else
   bif a==9 then
    some true
   else
    bif a==10 then
     some true
    else
     some (a==13)
noncomputable def g29 (k:Nat)(a:Int):Option R29:=itS qfO k (.e a)
noncomputable def P29:S29→R29→Prop
 |.e a,r=>Fin cx29 Tryd.f29 [.code qme] (fr0 Tryd.f29 [.c (.val (.int .u8 a))] []) (qlZ r) (bx29 r)
abbrev E29 (a:Int)(r:R29):Prop:=Ev Tryd.prog noHand 29 [.c (.val (.int .u8 a))] [] (qlZ r) (bx29 r)
theorem qng {a:Int}{r:R29}(h:P29 (.e a) r):E29 a r:=evF h
theorem ok29:∀ k s r,itS qfO k s=some r→P29 s r:=qF fun k rec ih s r h=>match s,h with
 |.e ..,h=>by
  rcases qa h with⟨a,h⟩|⟨a,h⟩
  · cases h;exact mF 0 [tT 4 a]
  ·
   rcases qa h with⟨b,h⟩|⟨b,h⟩
   · cases h;exact mF 0 [tF 4 a,tT 7 b]
   · rcases qa h with⟨c,h⟩|⟨c,h⟩
     · cases h;exact mF 0 [tF 4 a,tF 7 b,tT 11 c]
     · cases h;exact mF 0 [tF 4 a,tF 7 b,tF 11 c]
theorem ev29 {k:Nat}{a:Int}{r:R29}(h:g29 k a=some r):E29 a r:=qng (ok29 _ _ _ h)
inductive S30 where
 |e (a:Int)
abbrev R30:=Bool
def qmk:R30→ARes
 |r=>.ret (.c (bc r))
def bx30:R30→List (List Cell)
 |_=>[]
noncomputable def qe8 (k:Nat)(rec:S30→Option R30):S30→Option R30
 |.e a=>
  bif decide (a≥97)then
   bif decide (a≤122)then
    some true
   else
    bif decide (a≥65)then
     some (decide (a≤90))
    else
     some false
  else
   bif decide (a≥65)then
    some (decide (a≤90))
   else
    some false
noncomputable def g30 (k:Nat)(a:Int):Option R30:=itS qe8 k (.e a)
noncomputable def P30:S30→R30→Prop
 |.e a,r=>Fin cx30 Tryd.f30 [.code qm5] (fr0 Tryd.f30 [.c (.val (.int .u8 a))] []) (qmk r) (bx30 r)
abbrev E30 (a:Int)(r:R30):Prop:=Ev Tryd.prog noHand 30 [.c (.val (.int .u8 a))] [] (qmk r) (bx30 r)
theorem qob {a:Int}{r:R30}(h:P30 (.e a) r):E30 a r:=evF h
theorem ok30:∀ k s r,itS qe8 k s=some r→P30 s r:=qF fun k rec ih s r h=>match s,h with
 |.e ..,h=>by
  rcases qa h with⟨a,h⟩|⟨a,h⟩
  ·
   rcases qa h with⟨b,h⟩|⟨b,h⟩
   · cases h;exact mF 0 [tT 4 a,tT 7 b]
   · rcases qa h with⟨c,h⟩|⟨c,h⟩
     · cases h;exact mF 0 [tT 4 a,tF 7 b,tT 11 c]
     · cases h;exact mF 0 [tT 4 a,tF 7 b,tF 11 c]
  · rcases qa h with⟨b,h⟩|⟨b,h⟩
    · cases h;exact mF 0 [tF 4 a,tT 11 b]
    · cases h;exact mF 0 [tF 4 a,tF 11 b]
theorem ev30 {k:Nat}{a:Int}{r:R30}(h:g30 k a=some r):E30 a r:=qob (ok30 _ _ _ h)
inductive S32 where
 |e (a:Int)
abbrev R32:=Bool
def qlI:R32→ARes
 |r=>.ret (.c (bc r))
def bx32:R32→List (List Cell)
 |_=>[]
noncomputable def qfR (k:Nat)(rec:S32→Option R32):S32→Option R32
 |.e a=>
  bif decide (a≥48)then
   some (decide (a≤57))
  else
   some false
noncomputable def g32 (k:Nat)(a:Int):Option R32:=itS qfR k (.e a)
noncomputable def P32:S32→R32→Prop
 |.e a,r=>Fin cx32 Tryd.f32 [.code qlB] (fr0 Tryd.f32 [.c (.val (.int .u8 a))] []) (qlI r) (bx32 r)
abbrev E32 (a:Int)(r:R32):Prop:=Ev Tryd.prog noHand 32 [.c (.val (.int .u8 a))] [] (qlI r) (bx32 r)
theorem qnA {a:Int}{r:R32}(h:P32 (.e a) r):E32 a r:=evF h
theorem ok32:∀ k s r,itS qfR k s=some r→P32 s r:=qF fun k rec ih s r h=>match s,h with
 |.e ..,h=>by
  rcases qa h with⟨a,h⟩|⟨a,h⟩
  · cases h;exact mF 0 [tT 4 a]
  · cases h;exact mF 0 [tF 4 a]
theorem ev32 {k:Nat}{a:Int}{r:R32}(h:g32 k a=some r):E32 a r:=qnA (ok32 _ _ _ h)
inductive S41 where
 |e (a:Int)(b:By)(c:Int)
 |h0 (a b:Int)(c:By)(d:Int)
 |h1 (a b:Int)(c:Bool)(d:By)(e:Int)
abbrev R41:=By
def qjx:R41→ARes
 |r=>.ret (.c (sc r))
def bx41 (b0_0:ByteArray)(b0_1:Int):R41→List (List Cell)
 |_=>[[sc b0_0,ic b0_1]]
noncomputable def Zy (k:Nat)(rec:S41→Option R41):S41→Option R41
 |.e a b c=>rec (.h0 a a b c)
 |.h0 a b c d=>
  bif decide (b<(c.size:Int))then
   sxI c b fun e=>
   (g30 k e).bind fun f=>
   bif f then
    rec (.h1 a b true c d)
   else
    (g32 k e).bind fun g=>
    bif g then
     rec (.h1 a b true c d)
    else
     rec (.h1 a b (e==95) c d)
  else
   rec (.h1 a b false c d)
 |.h1 a b c d e=>
  bif c then
   rec (.h0 a (IntKind.i64.wrap (b+1)) d e)
  else
   gd (decide (0≤a∧a≤b∧b≤(d.size:Int))) <|
   some (d.extract (Int.toNat a) (Int.toNat b))
noncomputable def g41 (k:Nat)(a:Int)(b:By)(c:Int):Option R41:=itS Zy k (.e a b c)
noncomputable def P41:S41→R41→Prop
 |.e a b c,r=>Fin cx41 Tryd.f41 [.code qg6] (fr0 Tryd.f41 [pP 0,.c (ic a)] [[sc b,ic c]]) (qjx r) (bx41 b c r)
 |.h0 a b c d,r=>Fin cx41 Tryd.f41 (kAt qg6 [1,1,0,0,4] []) ⟨[pP 0,.c (ic a)]++rep 3 .deadv++[.c (ic b)]++rep 44 .deadv,[(.par 0,[sc c,ic d])]⟩ (qjx r) (bx41 c d r)
 |.h1 a b c d e,r=>Fin cx41 Tryd.f41 (kAt qg6 [1,1,0,0,0,0,1,2] []) ⟨[pP 0,.c (ic a)]++rep 3 .deadv++[.c (ic b)]++rep 34 .deadv++[.c (bc c)]++rep 9 .deadv,[(.par 0,[sc d,ic e])]⟩ (qjx r) (bx41 d e r)
abbrev E41 (a:Int)(b:By)(c:Int)(r:R41):Prop:=Ev Tryd.prog noHand 41 [pP 0,.c (ic a)] [[sc b,ic c]] (qjx r) (bx41 b c r)
theorem qnC {a:Int}{b:By}{c:Int}{r:R41}(h:P41 (.e a b c) r):E41 a b c r:=evF h
theorem ok41:∀ k s r,itS Zy k s=some r→P41 s r:=qF fun k rec ih s r h=>match s,h with
 |.e ..,h=>by exact mA 1 (ih _ _ h) 7 [] 50 1125899906842588
 |.h0 ..,h=>by
  rcases qa h with⟨a,h⟩|⟨a,h⟩
  ·
   obtain⟨_,b,h⟩:=Xm h;obtain⟨_,c,h⟩:=qh h;replace h:=qa h;rcases h with⟨rfl,h⟩|⟨rfl,h⟩
   · exact mA 1 (ih _ _ h) 4 [tT 13 a,sA 20 b,cA 21 (ev30 c)] 50 1124800395214812
   · obtain⟨_,d,h⟩:=qh h;replace h:=qa h;rcases h with⟨rfl,h⟩|⟨rfl,h⟩
     · exact mA 1 (ih _ _ h) 4 [tT 13 a,sA 20 b,cA 21 (ev30 c),sA 28 b,cA 29 (ev32 d)] 50 1124800395214812
     · exact mA 1 (ih _ _ h) 4 [tT 13 a,sA 20 b,cA 21 (ev30 c),sA 28 b,cA 29 (ev32 d),sA 37 b] 50 1124800395214812
  · exact mA 1 (ih _ _ h) 4 [tF 13 a] 50 1124800395214812
 |.h1 ..,h=>by
  replace h:=qa h;rcases h with⟨rfl,h⟩|⟨rfl,h⟩
  · exact mA 1 (ih _ _ h) 5 [] 50 1125899906842588
  · obtain⟨a,h⟩:=zo h;cases h;exact mF 1 [xS 49 a]
theorem ev41 {k:Nat}{a:Int}{b:By}{c:Int}{r:R41}(h:g41 k a b c=some r):E41 a b c r:=qnC (ok41 _ _ _ h)
inductive S42 where
 |e (a:By)
 |h0 (a:Bool)
abbrev R42:=Bool
def qls:R42→ARes
 |r=>.ret (.c (bc r))
def bx42:R42→List (List Cell)
 |_=>[]
noncomputable def qd3 (k:Nat)(rec:S42→Option R42):S42→Option R42
 |.e a=>
  bif a.toList==(strB [80,65,84,84,69,82,78]).toList then
   rec (.h0 true)
  else
   bif a.toList==(strB [83,69,81]).toList then
    rec (.h0 true)
   else
    bif a.toList==(strB [87,72,69,82,69]).toList then
     rec (.h0 true)
    else
     bif a.toList==(strB [83,84,82,65,84,69,71,89]).toList then
      rec (.h0 true)
     else
      bif a.toList==(strB [87,73,84,72,73,78]).toList then
       rec (.h0 true)
      else
       bif a.toList==(strB [80,65,82,84,73,84,73,79,78]).toList then
        rec (.h0 true)
       else
        bif a.toList==(strB [66,89]).toList then
         rec (.h0 true)
        else
         bif a.toList==(strB [83,84,82,73,67,84]).toList then
          rec (.h0 true)
         else
          bif a.toList==(strB [78,69,88,84]).toList then
           rec (.h0 true)
          else
           bif a.toList==(strB [65,78,89]).toList then
            rec (.h0 true)
           else
            bif a.toList==(strB [65,78,68]).toList then
             rec (.h0 true)
            else
             bif a.toList==(strB [79,82]).toList then
              rec (.h0 true)
             else
              bif a.toList==(strB [78,79,84]).toList then
               rec (.h0 true)
              else
               bif a.toList==(strB [84,82,85,69]).toList then
                rec (.h0 true)
               else
                bif a.toList==(strB [70,65,76,83,69]).toList then
                 rec (.h0 true)
                else
                 bif a.toList==(strB [84,73,77,69]).toList then
                  rec (.h0 true)
                 else
                  bif a.toList==(strB [82,69,65,76]).toList then
                   rec (.h0 true)
                  else
                   bif a.toList==(strB [73,83,78,65,78]).toList then
                    rec (.h0 true)
                   else
                    bif a.toList==(strB [67,79,85,78,84]).toList then
                     rec (.h0 true)
                    else
                     bif a.toList==(strB [70,73,82,83,84]).toList then
                      rec (.h0 true)
                     else
                      bif a.toList==(strB [76,65,83,84]).toList then
                       rec (.h0 true)
                      else
                       bif a.toList==(strB [83,85,77]).toList then
                        rec (.h0 true)
                       else
                        bif a.toList==(strB [77,73,78]).toList then
                         rec (.h0 true)
                        else
                         bif a.toList==(strB [77,65,88]).toList then
                          rec (.h0 true)
                         else
                          rec (.h0 (a.toList==(strB [77,69,65,78]).toList))
 |.h0 a=>
  bif a then
   some true
  else
   some false
noncomputable def g42 (k:Nat)(a:By):Option R42:=itS qd3 k (.e a)
noncomputable def P42:S42→R42→Prop
 |.e a,r=>Fin cx42 Tryd.f42 [.code qj1] (fr0 Tryd.f42 [.c (sc a)] []) (qls r) (bx42 r)
 |.h0 a,r=>Fin cx42 Tryd.f42 (kAt qj1 [1,0,1,0,1,2] []) ⟨rep 4 .deadv++[.c (bc a)]++rep 25 .deadv,[]⟩ (qls r) (bx42 r)
abbrev E42 (a:By)(r:R42):Prop:=Ev Tryd.prog noHand 42 [.c (sc a)] [] (qls r) (bx42 r)
theorem qoc {a:By}{r:R42}(h:P42 (.e a) r):E42 a r:=evF h
theorem ok42:∀ k s r,itS qd3 k s=some r→P42 s r:=qF fun k rec ih s r h=>match s,h with
 |.e ..,h=>by
  rcases qa h with⟨a,h⟩|⟨a,h⟩
  · exact mA 0 (ih _ _ h) 11 [tT 5 a] 30 1073741807
  ·
   rcases qa h with⟨b,h⟩|⟨b,h⟩
   · exact mA 0 (ih _ _ h) 14 [tF 5 a,tT 6 b] 30 1073741807
   ·
    rcases qa h with⟨c,h⟩|⟨c,h⟩
    · exact mA 0 (ih _ _ h) 17 [tF 5 a,tF 6 b,tT 7 c] 30 1073741807
    ·
     rcases qa h with⟨d,h⟩|⟨d,h⟩
     · exact mA 0 (ih _ _ h) 20 [tF 5 a,tF 6 b,tF 7 c,tT 8 d] 30 1073741807
     ·
      rcases qa h with⟨e,h⟩|⟨e,h⟩
      · exact mA 0 (ih _ _ h) 23 [tF 5 a,tF 6 b,tF 7 c,tF 8 d,tT 9 e] 30 1073741807
      ·
       rcases qa h with⟨f,h⟩|⟨f,h⟩
       · exact mA 0 (ih _ _ h) 26 [tF 5 a,tF 6 b,tF 7 c,tF 8 d,tF 9 e,tT 10 f] 30 1073741807
       ·
        rcases qa h with⟨g,h⟩|⟨g,h⟩
        · exact mA 0 (ih _ _ h) 29 [tF 5 a,tF 6 b,tF 7 c,tF 8 d,tF 9 e,tF 10 f,tT 11 g] 30 1073741807
        ·
         rcases qa h with⟨i,h⟩|⟨i,h⟩
         · exact mA 0 (ih _ _ h) 32 [tF 5 a,tF 6 b,tF 7 c,tF 8 d,tF 9 e,tF 10 f,tF 11 g,tT 12 i] 30 1073741807
         ·
          rcases qa h with⟨j,h⟩|⟨j,h⟩
          · exact mA 0 (ih _ _ h) 35 [tF 5 a,tF 6 b,tF 7 c,tF 8 d,tF 9 e,tF 10 f,tF 11 g,tF 12 i,tT 13 j] 30 1073741807
          ·
           rcases qa h with⟨l,h⟩|⟨l,h⟩
           · exact mA 0 (ih _ _ h) 38 [tF 5 a,tF 6 b,tF 7 c,tF 8 d,tF 9 e,tF 10 f,tF 11 g,tF 12 i,tF 13 j,tT 14 l] 30 1073741807
           ·
            rcases qa h with⟨m,h⟩|⟨m,h⟩
            · exact mA 0 (ih _ _ h) 41 [tF 5 a,tF 6 b,tF 7 c,tF 8 d,tF 9 e,tF 10 f,tF 11 g,tF 12 i,tF 13 j,tF 14 l,tT 15 m] 30 1073741807
            ·
             rcases qa h with⟨n,h⟩|⟨n,h⟩
             · exact mA 0 (ih _ _ h) 44 [tF 5 a,tF 6 b,tF 7 c,tF 8 d,tF 9 e,tF 10 f,tF 11 g,tF 12 i,tF 13 j,tF 14 l,tF 15 m,tT 16 n] 30 1073741807
             ·
              rcases qa h with⟨o,h⟩|⟨o,h⟩
              · exact mA 0 (ih _ _ h) 47 [tF 5 a,tF 6 b,tF 7 c,tF 8 d,tF 9 e,tF 10 f,tF 11 g,tF 12 i,tF 13 j,tF 14 l,tF 15 m,tF 16 n,tT 17 o] 30 1073741807
              ·
               rcases qa h with⟨p,h⟩|⟨p,h⟩
               · exact mA 0 (ih _ _ h) 50 [tF 5 a,tF 6 b,tF 7 c,tF 8 d,tF 9 e,tF 10 f,tF 11 g,tF 12 i,tF 13 j,tF 14 l,tF 15 m,tF 16 n,tF 17 o,tT 18 p] 30 1073741807
               ·
                rcases qa h with⟨q,h⟩|⟨q,h⟩
                · exact mA 0 (ih _ _ h) 53 [tF 5 a,tF 6 b,tF 7 c,tF 8 d,tF 9 e,tF 10 f,tF 11 g,tF 12 i,tF 13 j,tF 14 l,tF 15 m,tF 16 n,tF 17 o,tF 18 p,tT 19 q] 30 1073741807
                ·
                 rcases qa h with⟨t,h⟩|⟨t,h⟩
                 · exact mA 0 (ih _ _ h) 56 [tF 5 a,tF 6 b,tF 7 c,tF 8 d,tF 9 e,tF 10 f,tF 11 g,tF 12 i,tF 13 j,tF 14 l,tF 15 m,tF 16 n,tF 17 o,tF 18 p,tF 19 q,tT 20 t] 30 1073741807
                 ·
                  rcases qa h with⟨u,h⟩|⟨u,h⟩
                  · exact mA 0 (ih _ _ h) 59 [tF 5 a,tF 6 b,tF 7 c,tF 8 d,tF 9 e,tF 10 f,tF 11 g,tF 12 i,tF 13 j,tF 14 l,tF 15 m,tF 16 n,tF 17 o,tF 18 p,tF 19 q,tF 20 t,tT 21 u] 30 1073741807
                  ·
                   rcases qa h with⟨v,h⟩|⟨v,h⟩
                   · exact mA 0 (ih _ _ h) 62 [tF 5 a,tF 6 b,tF 7 c,tF 8 d,tF 9 e,tF 10 f,tF 11 g,tF 12 i,tF 13 j,tF 14 l,tF 15 m,tF 16 n,tF 17 o,tF 18 p,tF 19 q,tF 20 t,tF 21 u,tT 22 v] 30 1073741807
                   · rcases qa h with⟨w,h⟩|⟨w,h⟩
                     · exact mA 0 (ih _ _ h) 65 [tF 5 a,tF 6 b,tF 7 c,tF 8 d,tF 9 e,tF 10 f,tF 11 g,tF 12 i,tF 13 j,tF 14 l,tF 15 m,tF 16 n,tF 17 o,tF 18 p,tF 19 q,tF 20 t,tF 21 u,tF 22 v,tT 23 w] 30 1073741807
                     · rcases qa h with⟨x,h⟩|⟨x,h⟩
                       · exact mA 0 (ih _ _ h) 68 [tF 5 a,tF 6 b,tF 7 c,tF 8 d,tF 9 e,tF 10 f,tF 11 g,tF 12 i,tF 13 j,tF 14 l,tF 15 m,tF 16 n,tF 17 o,tF 18 p,tF 19 q,tF 20 t,tF 21 u,tF 22 v,tF 23 w,tT 24 x] 30 1073741807
                       · rcases qa h with⟨y,h⟩|⟨y,h⟩
                         · exact mA 0 (ih _ _ h) 71 [tF 5 a,tF 6 b,tF 7 c,tF 8 d,tF 9 e,tF 10 f,tF 11 g,tF 12 i,tF 13 j,tF 14 l,tF 15 m,tF 16 n,tF 17 o,tF 18 p,tF 19 q,tF 20 t,tF 21 u,tF 22 v,tF 23 w,tF 24 x,tT 25 y] 30 1073741807
                         · rcases qa h with⟨z,h⟩|⟨z,h⟩
                           · exact mA 0 (ih _ _ h) 74 [tF 5 a,tF 6 b,tF 7 c,tF 8 d,tF 9 e,tF 10 f,tF 11 g,tF 12 i,tF 13 j,tF 14 l,tF 15 m,tF 16 n,tF 17 o,tF 18 p,tF 19 q,tF 20 t,tF 21 u,tF 22 v,tF 23 w,tF 24 x,tF 25 y,tT 26 z] 30 1073741807
                           · rcases qa h with⟨a1,h⟩|⟨a1,h⟩
                             · exact mA 0 (ih _ _ h) 77 [tF 5 a,tF 6 b,tF 7 c,tF 8 d,tF 9 e,tF 10 f,tF 11 g,tF 12 i,tF 13 j,tF 14 l,tF 15 m,tF 16 n,tF 17 o,tF 18 p,tF 19 q,tF 20 t,tF 21 u,tF 22 v,tF 23 w,tF 24 x,tF 25 y,tF 26 z,tT 27 a1] 30 1073741807
                             · rcases qa h with⟨b1,h⟩|⟨b1,h⟩
                               · exact mA 0 (ih _ _ h) 80 [tF 5 a,tF 6 b,tF 7 c,tF 8 d,tF 9 e,tF 10 f,tF 11 g,tF 12 i,tF 13 j,tF 14 l,tF 15 m,tF 16 n,tF 17 o,tF 18 p,tF 19 q,tF 20 t,tF 21 u,tF 22 v,tF 23 w,tF 24 x,tF 25 y,tF 26 z,tF 27 a1,tT 28 b1] 30 1073741807
                               · exact mA 0 (ih _ _ h) 80 [tF 5 a,tF 6 b,tF 7 c,tF 8 d,tF 9 e,tF 10 f,tF 11 g,tF 12 i,tF 13 j,tF 14 l,tF 15 m,tF 16 n,tF 17 o,tF 18 p,tF 19 q,tF 20 t,tF 21 u,tF 22 v,tF 23 w,tF 24 x,tF 25 y,tF 26 z,tF 27 a1,tF 28 b1] 30 1073741807
 |.h0 ..,h=>by
  replace h:=qa h;rcases h with⟨rfl,h⟩|⟨rfl,h⟩
  · cases h;exact mF 0 []
  · cases h;exact mF 0 []
theorem ev42 {k:Nat}{a:By}{r:R42}(h:g42 k a=some r):E42 a r:=qoc (ok42 _ _ _ h)
inductive S31 where
 |e (a:By)(b:Int)
abbrev R31:=(Int×By×Int×Int×Int×Int)⊕(Int×Int)
def qlS:R31→ARes
 |(.inl (a,b,c,d,e,_))=>.ret (.ag [ic a,sc b,ic c,ic d,ic e])
 |(.inr (a,_))=>.panic (.iface 51 (.agg #[.int .i64 a]))
def bx31 (b0_0:ByteArray):R31→List (List Cell)
 |(.inl (_,_,_,_,_,a))=>[[sc b0_0,ic a]]
 |(.inr (_,a))=>[[sc b0_0,ic a]]
noncomputable def qfG (k:Nat)(rec:S31→Option R31):S31→Option R31
 |.e a b=>
  (g41 k b a b).bind fun c=>
  (g42 k c).bind fun d=>
  bif d then
   some (.inl (1,c,0,0,b,IntKind.i64.wrap (b+(c.size:Int))))
  else
   (YF c).bind fun e=>
   bif e then
    some (.inl (2,c,0,0,b,IntKind.i64.wrap (b+(c.size:Int))))
   else
    some (.inr (b,IntKind.i64.wrap (b+(c.size:Int))))
noncomputable def g31 (k:Nat)(a:By)(b:Int):Option R31:=itS qfG k (.e a b)
noncomputable def P31:S31→R31→Prop
 |.e a b,r=>Fin cx31 Tryd.f31 [.code qmA] (fr0 Tryd.f31 [pP 0] [[sc a,ic b]]) (qlS r) (bx31 a r)
abbrev E31 (a:By)(b:Int)(r:R31):Prop:=Ev Tryd.prog noHand 31 [pP 0] [[sc a,ic b]] (qlS r) (bx31 a r)
theorem qnJ {a:By}{b:Int}{r:R31}(h:P31 (.e a b) r):E31 a b r:=evF h
theorem ok31:∀ k s r,itS qfG k s=some r→P31 s r:=qF fun k rec ih s r h=>match s,h with
 |.e a b,h=>by
  obtain⟨c,d,h⟩:=qh h;obtain⟨_,e,h⟩:=qh h;replace h:=qa h;rcases h with⟨rfl,h⟩|⟨rfl,h⟩
  · cases h;exact mF 1 [⟨(some 9999,.alt 5 9),[_],⟨(rfl:(⟨[pP 0,.undef,pL 2,.c (sc c),.c (ic b),pP 0,pP 0,pP 0,.c (.ptr ⟨⟨.par 0,[]⟩,0,1⟩),.c (ic b),.c (sc c),pP 0,pP 0,.c (.ptr ⟨⟨.par 0,[]⟩,0,1⟩),.c (ic b)]++rep 24 .undef,[(.loc 2,[ic 0,sc (strB []),ic 0,ic 0,ic 0]),(.par 0,[sc a,ic b])]⟩:Fr)=⟨[pP 0,.undef,pL 2,.c (sc c),.c (ic b),pP 0,pP 0,pP 0,.c (.ptr ⟨⟨.par 0,[]⟩,0,1⟩),.c (ic b),.c (sc c),pP 0,pP 0,.c (.ptr ⟨⟨.par 0,[]⟩,0,1⟩),.c (ic b)]++rep 24 .undef,[(.loc 2,[ic 0,sc (strB []),ic 0,ic 0,ic 0]),(.par 0,[sc a,ic b])]⟩),trivial⟩⟩,cA 10 (ev41 d),cA 10 (ev41 d),cA 26 (ev42 e)]
  · obtain⟨_,f,h⟩:=qh h;replace h:=qa h;rcases h with⟨rfl,h⟩|⟨rfl,h⟩
    · cases h;exact mF 1 [⟨(some 9999,.alt 5 9),[_],⟨(rfl:(⟨[pP 0,.undef,pL 2,.c (sc c),.c (ic b),pP 0,pP 0,pP 0,.c (.ptr ⟨⟨.par 0,[]⟩,0,1⟩),.c (ic b),.c (sc c),pP 0,pP 0,.c (.ptr ⟨⟨.par 0,[]⟩,0,1⟩),.c (ic b)]++rep 24 .undef,[(.loc 2,[ic 0,sc (strB []),ic 0,ic 0,ic 0]),(.par 0,[sc a,ic b])]⟩:Fr)=⟨[pP 0,.undef,pL 2,.c (sc c),.c (ic b),pP 0,pP 0,pP 0,.c (.ptr ⟨⟨.par 0,[]⟩,0,1⟩),.c (ic b),.c (sc c),pP 0,pP 0,.c (.ptr ⟨⟨.par 0,[]⟩,0,1⟩),.c (ic b)]++rep 24 .undef,[(.loc 2,[ic 0,sc (strB []),ic 0,ic 0,ic 0]),(.par 0,[sc a,ic b])]⟩),trivial⟩⟩,cA 10 (ev41 d),cA 10 (ev41 d),cA 26 (ev42 e),cA 32 (qi f)]
    · cases h;exact mF 1 [⟨(some 9999,.alt 5 9),[_],⟨(rfl:(⟨[pP 0,.undef,pL 2,.c (sc c),.c (ic b),pP 0,pP 0,pP 0,.c (.ptr ⟨⟨.par 0,[]⟩,0,1⟩),.c (ic b),.c (sc c),pP 0,pP 0,.c (.ptr ⟨⟨.par 0,[]⟩,0,1⟩),.c (ic b)]++rep 24 .undef,[(.loc 2,[ic 0,sc (strB []),ic 0,ic 0,ic 0]),(.par 0,[sc a,ic b])]⟩:Fr)=⟨[pP 0,.undef,pL 2,.c (sc c),.c (ic b),pP 0,pP 0,pP 0,.c (.ptr ⟨⟨.par 0,[]⟩,0,1⟩),.c (ic b),.c (sc c),pP 0,pP 0,.c (.ptr ⟨⟨.par 0,[]⟩,0,1⟩),.c (ic b)]++rep 24 .undef,[(.loc 2,[ic 0,sc (strB []),ic 0,ic 0,ic 0]),(.par 0,[sc a,ic b])]⟩),trivial⟩⟩,cA 10 (ev41 d),cA 10 (ev41 d),cA 26 (ev42 e),cA 32 (qi f)]
theorem ev31 {k:Nat}{a:By}{b:Int}{r:R31}(h:g31 k a b=some r):E31 a b r:=qnJ (ok31 _ _ _ h)
inductive S43 where
 |e (a:Int)(b:By)(c:Int)
 |h0 (a b:Int)(c:By)(d:Int)
 |h1 (a b:Int)(c:Bool)(d:By)(e:Int)
abbrev R43:=By
def qiP:R43→ARes
 |r=>.ret (.c (sc r))
def bx43 (b0_0:ByteArray)(b0_1:Int):R43→List (List Cell)
 |_=>[[sc b0_0,ic b0_1]]
noncomputable def Zo (k:Nat)(rec:S43→Option R43):S43→Option R43
 |.e a b c=>rec (.h0 a a b c)
 |.h0 a b c d=>
  bif decide (b<(c.size:Int))then
   sxI c b fun e=>
   (g32 k e).bind fun f=>
   rec (.h1 a b f c d)
  else
   rec (.h1 a b false c d)
 |.h1 a b c d e=>
  bif c then
   rec (.h0 a (IntKind.i64.wrap (b+1)) d e)
  else
   gd (decide (0≤a∧a≤b∧b≤(d.size:Int))) <|
   some (d.extract (Int.toNat a) (Int.toNat b))
noncomputable def g43 (k:Nat)(a:Int)(b:By)(c:Int):Option R43:=itS Zo k (.e a b c)
noncomputable def P43:S43→R43→Prop
 |.e a b c,r=>Fin cx43 Tryd.f43 [.code qgV] (fr0 Tryd.f43 [pP 0,.c (ic a)] [[sc b,ic c]]) (qiP r) (bx43 b c r)
 |.h0 a b c d,r=>Fin cx43 Tryd.f43 (kAt qgV [1,1,0,0,4] []) ⟨[pP 0,.c (ic a)]++rep 3 .deadv++[.c (ic b)]++rep 26 .deadv,[(.par 0,[sc c,ic d])]⟩ (qiP r) (bx43 c d r)
 |.h1 a b c d e,r=>Fin cx43 Tryd.f43 (kAt qgV [1,1,0,0,0,0,1,2] []) ⟨[pP 0,.c (ic a)]++rep 3 .deadv++[.c (ic b)]++rep 16 .deadv++[.c (bc c)]++rep 9 .deadv,[(.par 0,[sc d,ic e])]⟩ (qiP r) (bx43 d e r)
abbrev E43 (a:Int)(b:By)(c:Int)(r:R43):Prop:=Ev Tryd.prog noHand 43 [pP 0,.c (ic a)] [[sc b,ic c]] (qiP r) (bx43 b c r)
theorem qnm {a:Int}{b:By}{c:Int}{r:R43}(h:P43 (.e a b c) r):E43 a b c r:=evF h
theorem ok43:∀ k s r,itS Zo k s=some r→P43 s r:=qF fun k rec ih s r h=>match s,h with
 |.e ..,h=>by exact mA 1 (ih _ _ h) 7 [] 32 4294967260
 |.h0 ..,h=>by
  rcases qa h with⟨a,h⟩|⟨a,h⟩
  · obtain⟨_,b,h⟩:=Xm h;obtain⟨_,c,h⟩:=qh h;exact mA 1 (ih _ _ h) 4 [tT 13 a,sA 20 b,cA 21 (ev32 c)] 32 4290772956
  · exact mA 1 (ih _ _ h) 4 [tF 13 a] 32 4290772956
 |.h1 ..,h=>by
  replace h:=qa h;rcases h with⟨rfl,h⟩|⟨rfl,h⟩
  · exact mA 1 (ih _ _ h) 5 [] 32 4294967260
  · obtain⟨a,h⟩:=zo h;cases h;exact mF 1 [xS 31 a]
theorem ev43 {k:Nat}{a:Int}{b:By}{c:Int}{r:R43}(h:g43 k a b c=some r):E43 a b c r:=qnm (ok43 _ _ _ h)
inductive S33 where
 |e (a:By)(b:Int)
 |h0 (a:Int)(b c:By)(d:Bool)(e:Int)(f:By)(g i j:Int)(l:By)(m:Int)
 |h1 (a:Int)(b c:By)(d:Int)(e:By)(f g i:Int)(j:By)(l:Int)
 |h2 (a:Int)(b c:By)(d:Bool)(e:Int)(f:By)(g i j:Int)(l:By)(m:Int)
abbrev R33:=(Int×Int)⊕(Int×By×Int×Int×Int×Int)
def qho:R33→ARes
 |(.inl (a,_))=>.panic (.iface 51 (.agg #[.int .i64 a]))
 |(.inr (a,b,c,d,e,_))=>.ret (.ag [ic a,sc b,ic c,ic d,ic e])
def bx33 (b0_0:ByteArray):R33→List (List Cell)
 |(.inl (_,a))=>[[sc b0_0,ic a]]
 |(.inr (_,_,_,_,_,a))=>[[sc b0_0,ic a]]
noncomputable def yX (k:Nat)(rec:S33→Option R33):S33→Option R33
 |.e a b=>
  (g43 k b a b).bind fun c=>
  bif decide ((IntKind.i64.wrap (b+(c.size:Int)))<(a.size:Int))then
   sxI a (IntKind.i64.wrap (b+(c.size:Int))) fun d=>
   rec (.h0 b c (strB []) (d==46) 0 (strB []) 0 0 0 a (IntKind.i64.wrap (b+(c.size:Int))))
  else
   rec (.h0 b c (strB []) false 0 (strB []) 0 0 0 a (IntKind.i64.wrap (b+(c.size:Int))))
 |.h0 a b c d e f g i j l m=>
  bif d then
   (g43 k (IntKind.i64.wrap (m+1)) l m).bind fun n=>
   rec (.h1 a b n e f g i j l m)
  else
   rec (.h1 a b c e f g i j l m)
 |.h1 a b c d e f g i j l=>
  bif decide ((b.size:Int)>1)then
   sxI b 0 fun m=>
   rec (.h2 a b c (m==48) d e f g i j l)
  else
   rec (.h2 a b c false d e f g i j l)
 |.h2 b c d e _ _ _ _ _ _ f=>
  bif e then
   some (.inl (b,f))
  else
   bif d.toList==(strB []).toList then
    (qag c).bind fun g=>
    optC g (
      some (.inl (b,f))) fun i=>
     some (.inr (3,strB [],i,0,b,f))
   else
    bif decide ((IntKind.i64.wrap ((c.size:Int)+(d.size:Int)))>15)then
     some (.inl (b,f))
    else
     gd (decide (c.size+d.size≤1000000000)) <|
     (qag (c++d)).bind fun i=>
     optC i (
       none   /- a result that hangs on what is not told -/) fun j=>
      some (.inr (4,strB [],j,(d.size:Int),b,IntKind.i64.wrap (f+(IntKind.i64.wrap ((1:Int)+(d.size:Int))))))
noncomputable def g33 (k:Nat)(a:By)(b:Int):Option R33:=itS yX k (.e a b)
noncomputable def P33:S33→R33→Prop
 |.e a b,r=>Fin cx33 Tryd.f33 [.code qb7] (fr0 Tryd.f33 [pP 0] [[sc a,ic b]]) (qho r) (bx33 a r)
 |.h0 a b c d e f g i j l m,r=>Fin cx33 Tryd.f33 (kAt qb7 [1,1,1,1,1,0,1,2] []) ⟨[pP 0,.deadv,pL 2,.c (ic a),.c (sc b),.c (sc c)]++rep 41 .deadv++[.c (bc d)]++rep 64 .deadv,[(.loc 2,[ic e,sc f,ic g,ic i,ic j]),(.par 0,[sc l,ic m])]⟩ (qho r) (bx33 l r)
 |.h1 a b c d e f g i j l,r=>Fin cx33 Tryd.f33 (kAt qb7 [1,1,1,1,1,1,2] []) ⟨[pP 0,.deadv,pL 2,.c (ic a),.c (sc b),.c (sc c)]++rep 106 .deadv,[(.loc 2,[ic d,sc e,ic f,ic g,ic i]),(.par 0,[sc j,ic l])]⟩ (qho r) (bx33 j r)
 |.h2 a b c d e f g i j l m,r=>Fin cx33 Tryd.f33 (kAt qb7 [1,1,1,1,1,1,0,1,2] []) ⟨[pP 0,.deadv,pL 2,.c (ic a),.c (sc b),.c (sc c)]++rep 56 .deadv++[.c (bc d)]++rep 49 .deadv,[(.loc 2,[ic e,sc f,ic g,ic i,ic j]),(.par 0,[sc l,ic m])]⟩ (qho r) (bx33 l r)
abbrev E33 (a:By)(b:Int)(r:R33):Prop:=Ev Tryd.prog noHand 33 [pP 0] [[sc a,ic b]] (qho r) (bx33 a r)
theorem qnl {a:By}{b:Int}{r:R33}(h:P33 (.e a b) r):E33 a b r:=evF h
theorem ok33:∀ k s r,itS yX k s=some r→P33 s r:=qF fun k rec ih s r h=>match s,h with
 |.e ..,h=>by
  obtain⟨_,a,h⟩:=qh h;rcases qa h with⟨b,h⟩|⟨b,h⟩
  · obtain⟨_,c,h⟩:=Xm h;exact mA 1 (ih _ _ h) 13 [cA 16 (ev43 a),tT 35 b,sA 45 c] 112 5192296858534827628389758840864706
  · exact mA 1 (ih _ _ h) 13 [cA 16 (ev43 a),tF 35 b] 112 5192296858534827628389758840864706
 |.h0 ..,h=>by
  replace h:=qa h;rcases h with⟨rfl,h⟩|⟨rfl,h⟩
  · obtain⟨_,a,h⟩:=qh h;exact mA 1 (ih _ _ h) 2 [cA 54 (ev43 a)] 112 5192296858534827628530496329220034
  · exact mA 1 (ih _ _ h) 2 [] 112 5192296858534827628530496329220034
 |.h1 ..,h=>by
  rcases qa h with⟨a,h⟩|⟨a,h⟩
  · obtain⟨_,b,h⟩:=Xm h;exact mA 1 (ih _ _ h) 3 [tT 57 a,sA 60 b] 112 5192296858534823016844477901832130
  · exact mA 1 (ih _ _ h) 3 [tF 57 a] 112 5192296858534823016844477901832130
 |.h2 a b c _ d e f g i l o,h=>by
  replace h:=qa h;rcases h with⟨rfl,h⟩|⟨rfl,h⟩
  · cases h;exact mF 1 []
  ·
   rcases qa h with⟨p,h⟩|⟨p,h⟩
   · obtain⟨_,q,h⟩:=qh h;replace h:=qgU h;rcases h with⟨_,rfl,h⟩|⟨rfl,h⟩
     · cases h;exact mF 1 [tT 67 p,cA 70 (qdZ q)]
     · rw[← aR h];exact qhs (nb:=1) hmix (qjh (qga q) (K0:=(kAt qb7 [1,1,1,1,1,1,1,0,1,0,0,2] [])) (F:=⟨[pP 0,.deadv,pL 2,.c (ic a),.c (sc b),.c (sc c)]++rep 56 .deadv++[.c (bc false)]++rep 3 .deadv++[.c (sc c),.c (bc true)]++rep 44 .deadv,[(.loc 2,[ic d,sc e,ic f,ic g,ic i]),(.par 0,[sc l,ic o])]⟩) (K1:=(kAt qb7 [1,1,1,1,1,1,1,0,1,0,0,3] [])) (F3:=fun xe1=>⟨[pP 0,.deadv,pL 2,.c (ic a),.c (sc b),.c (sc c),.c (ic xe1.1),.c (.val (.iface 88 (.pointer (some ⟨xe1.2,0,none⟩))))]++rep 54 .deadv++[.c (bc false)]++rep 3 .deadv++[.c (sc c),.c (bc true),⟨.tup [false,false],[[ic xe1.1],[.val (.iface 88 (.pointer (some ⟨xe1.2,0,none⟩)))]]⟩,.c (sc b),⟨.tup [false,false],[[ic xe1.1],[.val (.iface 88 (.pointer (some ⟨xe1.2,0,none⟩)))]]⟩,.c (ic xe1.1),.c (.val (.iface 88 (.pointer (some ⟨xe1.2,0,none⟩))))]++rep 39 .deadv,[(.loc 2,[ic d,sc e,ic f,ic g,ic i]),(.par 0,[sc l,ic o])]⟩) (j:=1) (ad1:=[]) (ad2:=fun xe1=>[]) (ps:=fun xe1=>[isX 44 [.c (sc b),.c (ic 10),.c (ic 64)] (ZY xe1) 44 [.c (sc b),.c (ic 10),.c (ic 64)] [] (.ret (ZY xe1)) []]) (thaw:=true) ((0,0)) (fun xe1=>zO (nb:=1) hmix (n:=2000) (ad:=[]) (ps:=[]) (by kernel_rfl) trivial) (fun xe1=>by kernel_rfl) (fun xe1=>⟨⟨rfl,rfl,rfl,rfl,rfl⟩,trivial⟩)) (n:=7) (ad:=[(some 67,.test true)]) (ps:=[_]) (m:=bm 112 0) (ls:=[]) (cs:=[]) (by kernel_rfl) ⟨p,trivial⟩
   ·
    rcases qa h with⟨t,h⟩|⟨t,h⟩
    · cases h;exact mF 1 [tF 67 p,tT 86 t]
    · obtain⟨q,h⟩:=zo h;obtain⟨_,u,h⟩:=qh h;replace h:=qgU h;rcases h with⟨_,rfl,h⟩|⟨rfl,h⟩
      · cases h;exact mF 1 [tF 67 p,tF 86 t,xC 103 q,cA 104 (qdZ u)]
      · cases h
theorem ev33 {k:Nat}{a:By}{b:Int}{r:R33}(h:g33 k a b=some r):E33 a b r:=qnl (ok33 _ _ _ h)
inductive S34 where
 |e (a:By)(b:Int)
 |h0 (a:Int)(b:By)(c:Int)(d:Bool)(e:Int)(f:By)(g i j:Int)(l:By)(m:Int)
abbrev R34:=(Int×Int)⊕(Int×By×Int×Int×Int×Int)
def qkQ:R34→ARes
 |(.inl (a,_))=>.panic (.iface 51 (.agg #[.int .i64 a]))
 |(.inr (a,b,c,d,e,_))=>.ret (.ag [ic a,sc b,ic c,ic d,ic e])
def bx34 (b0_0:ByteArray):R34→List (List Cell)
 |(.inl (_,a))=>[[sc b0_0,ic a]]
 |(.inr (_,_,_,_,_,a))=>[[sc b0_0,ic a]]
noncomputable def xY (k:Nat)(rec:S34→Option R34):S34→Option R34
 |.e a b=>
  (g41 k (IntKind.i64.wrap (b+1)) a b).bind fun c=>
  (YF c).bind fun d=>
  bif !d then
   rec (.h0 b c (IntKind.i64.wrap ((IntKind.i64.wrap (b+1))+(c.size:Int))) true 0 (strB []) 0 0 0 a b)
  else
   bif (IntKind.i64.wrap ((IntKind.i64.wrap (b+1))+(c.size:Int)))==(a.size:Int)then
    rec (.h0 b c (IntKind.i64.wrap ((IntKind.i64.wrap (b+1))+(c.size:Int))) true 0 (strB []) 0 0 0 a b)
   else
    sxI a (IntKind.i64.wrap ((IntKind.i64.wrap (b+1))+(c.size:Int))) fun e=>
    rec (.h0 b c (IntKind.i64.wrap ((IntKind.i64.wrap (b+1))+(c.size:Int))) (e != 39) 0 (strB []) 0 0 0 a b)
 |.h0 a b c d _ _ _ _ _ _ e=>
  bif d then
   some (.inl (a,e))
  else
   some (.inr (5,b,0,0,a,IntKind.i64.wrap (c+1)))
noncomputable def g34 (k:Nat)(a:By)(b:Int):Option R34:=itS xY k (.e a b)
noncomputable def P34:S34→R34→Prop
 |.e a b,r=>Fin cx34 Tryd.f34 [.code qkb] (fr0 Tryd.f34 [pP 0] [[sc a,ic b]]) (qkQ r) (bx34 a r)
 |.h0 a b c d e f g i j l m,r=>Fin cx34 Tryd.f34 (kAt qkb [1,1,1,1,0,1,2] []) ⟨[pP 0,.deadv,pL 2,.c (ic a),.c (sc b),.c (ic c)]++rep 33 .deadv++[.c (bc d)]++rep 11 .deadv,[(.loc 2,[ic e,sc f,ic g,ic i,ic j]),(.par 0,[sc l,ic m])]⟩ (qkQ r) (bx34 l r)
abbrev E34 (a:By)(b:Int)(r:R34):Prop:=Ev Tryd.prog noHand 34 [pP 0] [[sc a,ic b]] (qkQ r) (bx34 a r)
theorem qn2 {a:By}{b:Int}{r:R34}(h:P34 (.e a b) r):E34 a b r:=evF h
theorem ok34:∀ k s r,itS xY k s=some r→P34 s r:=qF fun k rec ih s r h=>match s,h with
 |.e ..,h=>by
  obtain⟨_,a,h⟩:=qh h;obtain⟨_,b,h⟩:=qh h;rcases qa h with⟨c,h⟩|⟨c,h⟩
  · exact mA 1 (ih _ _ h) 11 [cA 13 (ev41 a),cA 20 (qi b),tT 21 c] 51 2251250057871298
  · rcases qa h with⟨d,h⟩|⟨d,h⟩
    · exact mA 1 (ih _ _ h) 11 [cA 13 (ev41 a),cA 20 (qi b),tF 21 c,tT 29 d] 51 2251250057871298
    · obtain⟨_,e,h⟩:=Xm h;exact mA 1 (ih _ _ h) 11 [cA 13 (ev41 a),cA 20 (qi b),tF 21 c,tF 29 d,sA 37 e] 51 2251250057871298
 |.h0 ..,h=>by
  replace h:=qa h;rcases h with⟨rfl,h⟩|⟨rfl,h⟩
  · cases h;exact mF 1 []
  · cases h;exact mF 1 []
theorem ev34 {k:Nat}{a:By}{b:Int}{r:R34}(h:g34 k a b=some r):E34 a b r:=qn2 (ok34 _ _ _ h)
inductive S35 where
 |e (a:By)(b:Int)
 |h0 (a b c:Int)(d:Bool)(e:Int)(f:By)(g i j:Int)(l:By)(m:Int)
 |h1 (a b:Int)(c:Bool)(d:Int)(e:By)(f g i:Int)(j:By)(l:Int)
 |h2 (a b:Int)(c:Bool)(d:Int)(e:By)(f g i:Int)(j:By)(l:Int)
 |h3 (a b c:Int)(d:By)(e f g:Int)(i:By)(j:Int)
abbrev R35:=(Int×By×Int×Int×Int×Int)⊕(Int×Int)
def qgg:R35→ARes
 |(.inl (a,b,c,d,e,_))=>.ret (.ag [ic a,sc b,ic c,ic d,ic e])
 |(.inr (a,_))=>.panic (.iface 51 (.agg #[.int .i64 a]))
def bx35 (b0_0:ByteArray):R35→List (List Cell)
 |(.inl (_,_,_,_,_,a))=>[[sc b0_0,ic a]]
 |(.inr (_,a))=>[[sc b0_0,ic a]]
noncomputable def yf (k:Nat)(rec:S35→Option R35):S35→Option R35
 |.e a b=>
  sxI a b fun c=>
  bif c==33 then
   rec (.h0 b 1 c true 0 (strB []) 0 0 0 a b)
  else
   bif c==60 then
    rec (.h0 b 1 c true 0 (strB []) 0 0 0 a b)
   else
    rec (.h0 b 1 c (c==62) 0 (strB []) 0 0 0 a b)
 |.h0 a b c d e f g i j l m=>
  bif d then
   bif decide ((IntKind.i64.wrap (a+1))<(l.size:Int))then
    sxI l (IntKind.i64.wrap (a+1)) fun n=>
    rec (.h1 a b (n==61) e f g i j l m)
   else
    rec (.h1 a b false e f g i j l m)
  else
   bif c==40 then
    rec (.h2 a b true e f g i j l m)
   else
    bif c==41 then
     rec (.h2 a b true e f g i j l m)
    else
     bif c==44 then
      rec (.h2 a b true e f g i j l m)
     else
      bif c==46 then
       rec (.h2 a b true e f g i j l m)
      else
       bif c==43 then
        rec (.h2 a b true e f g i j l m)
       else
        bif c==45 then
         rec (.h2 a b true e f g i j l m)
        else
         bif c==42 then
          rec (.h2 a b true e f g i j l m)
         else
          bif c==47 then
           rec (.h2 a b true e f g i j l m)
          else
           bif c==37 then
            rec (.h2 a b true e f g i j l m)
           else
            bif c==61 then
             rec (.h2 a b true e f g i j l m)
            else
             rec (.h2 a b (c==124) e f g i j l m)
 |.h1 a b c d e f g i j l=>
  bif c then
   rec (.h3 a 2 d e f g i j l)
  else
   rec (.h3 a b d e f g i j l)
 |.h2 a b c d e f g i j l=>
  bif c then
   rec (.h3 a b d e f g i j l)
  else
   some (.inr (a,l))
 |.h3 a b _ _ _ _ _ c d=>
  gd (decide (0≤a∧a≤(IntKind.i64.wrap (d+b))∧(IntKind.i64.wrap (d+b))≤(c.size:Int))) <|
  some (.inl (6,(c.extract (Int.toNat a) (Int.toNat (IntKind.i64.wrap (d+b)))),0,0,a,IntKind.i64.wrap (d+b)))
noncomputable def g35 (k:Nat)(a:By)(b:Int):Option R35:=itS yf k (.e a b)
noncomputable def P35:S35→R35→Prop
 |.e a b,r=>Fin cx35 Tryd.f35 [.code qdc] (fr0 Tryd.f35 [pP 0] [[sc a,ic b]]) (qgg r) (bx35 a r)
 |.h0 a b c d e f g i j l m,r=>Fin cx35 Tryd.f35 (kAt qdc [1,1,1,1,0,1,0,0,0,0,0,0,0,1,2] []) ⟨[pP 0,.deadv,pL 2,.c (ic a),.deadv,.c (ic b)]++rep 10 .deadv++[.c (.val (.int .u8 c)),.c (bc d)]++rep 56 .deadv,[(.loc 2,[ic e,sc f,ic g,ic i,ic j]),(.par 0,[sc l,ic m])]⟩ (qgg r) (bx35 l r)
 |.h1 a b c d e f g i j l,r=>Fin cx35 Tryd.f35 (kAt qdc [1,1,1,1,0,1,0,0,0,1,1,2] []) ⟨[pP 0,.deadv,pL 2,.c (ic a),.deadv,.c (ic b)]++rep 44 .deadv++[.c (bc c)]++rep 23 .deadv,[(.loc 2,[ic d,sc e,ic f,ic g,ic i]),(.par 0,[sc j,ic l])]⟩ (qgg r) (bx35 j r)
 |.h2 a b c d e f g i j l,r=>Fin cx35 Tryd.f35 (kAt qdc [1,1,1,1,0,1,0,0,0,0,0,0,1,1,2] []) ⟨[pP 0,.deadv,pL 2,.c (ic a),.deadv,.c (ic b)]++rep 15 .deadv++[.c (bc c)]++rep 52 .deadv,[(.loc 2,[ic d,sc e,ic f,ic g,ic i]),(.par 0,[sc j,ic l])]⟩ (qgg r) (bx35 j r)
 |.h3 a b c d e f g i j,r=>Fin cx35 Tryd.f35 (kAt qdc [1,1,1,1,0,1,0,1,2] []) ⟨[pP 0,.deadv,pL 2,.c (ic a),.deadv,.c (ic b)]++rep 68 .deadv,[(.loc 2,[ic c,sc d,ic e,ic f,ic g]),(.par 0,[sc i,ic j])]⟩ (qgg r) (bx35 i r)
abbrev E35 (a:By)(b:Int)(r:R35):Prop:=Ev Tryd.prog noHand 35 [pP 0] [[sc a,ic b]] (qgg r) (bx35 a r)
theorem qnO {a:By}{b:Int}{r:R35}(h:P35 (.e a b) r):E35 a b r:=evF h
theorem ok35:∀ k s r,itS yf k s=some r→P35 s r:=qF fun k rec ih s r h=>match s,h with
 |.e ..,h=>by
  obtain⟨_,a,h⟩:=Xm h;rcases qa h with⟨b,h⟩|⟨b,h⟩
  · exact mA 1 (ih _ _ h) 23 [sA 15 a,tT 18 b] 74 18889465931478580658130
  · rcases qa h with⟨c,h⟩|⟨c,h⟩
    · exact mA 1 (ih _ _ h) 26 [sA 15 a,tF 18 b,tT 19 c] 74 18889465931478580658130
    · exact mA 1 (ih _ _ h) 26 [sA 15 a,tF 18 b,tF 19 c] 74 18889465931478580658130
 |.h0 ..,h=>by
  replace h:=qa h;rcases h with⟨rfl,h⟩|⟨rfl,h⟩
  · rcases qa h with⟨a,h⟩|⟨a,h⟩
    · obtain⟨_,b,h⟩:=Xm h;exact mA 1 (ih _ _ h) 4 [tT 40 a,sA 48 b] 74 18889464805578674012114
    · exact mA 1 (ih _ _ h) 4 [tF 40 a] 74 18889464805578674012114
  ·
   rcases qa h with⟨a,h⟩|⟨a,h⟩
   · exact mA 1 (ih _ _ h) 7 [tT 22 a] 74 18889465931478578757586
   ·
    rcases qa h with⟨c,h⟩|⟨c,h⟩
    · exact mA 1 (ih _ _ h) 10 [tF 22 a,tT 23 c] 74 18889465931478578757586
    ·
     rcases qa h with⟨b,h⟩|⟨b,h⟩
     · exact mA 1 (ih _ _ h) 13 [tF 22 a,tF 23 c,tT 24 b] 74 18889465931478578757586
     ·
      rcases qa h with⟨d,h⟩|⟨d,h⟩
      · exact mA 1 (ih _ _ h) 16 [tF 22 a,tF 23 c,tF 24 b,tT 25 d] 74 18889465931478578757586
      ·
       rcases qa h with⟨e,h⟩|⟨e,h⟩
       · exact mA 1 (ih _ _ h) 19 [tF 22 a,tF 23 c,tF 24 b,tF 25 d,tT 26 e] 74 18889465931478578757586
       ·
        rcases qa h with⟨f,h⟩|⟨f,h⟩
        · exact mA 1 (ih _ _ h) 22 [tF 22 a,tF 23 c,tF 24 b,tF 25 d,tF 26 e,tT 27 f] 74 18889465931478578757586
        ·
         rcases qa h with⟨g,h⟩|⟨g,h⟩
         · exact mA 1 (ih _ _ h) 25 [tF 22 a,tF 23 c,tF 24 b,tF 25 d,tF 26 e,tF 27 f,tT 28 g] 74 18889465931478578757586
         · rcases qa h with⟨i,h⟩|⟨i,h⟩
           · exact mA 1 (ih _ _ h) 28 [tF 22 a,tF 23 c,tF 24 b,tF 25 d,tF 26 e,tF 27 f,tF 28 g,tT 29 i] 74 18889465931478578757586
           · rcases qa h with⟨j,h⟩|⟨j,h⟩
             · exact mA 1 (ih _ _ h) 31 [tF 22 a,tF 23 c,tF 24 b,tF 25 d,tF 26 e,tF 27 f,tF 28 g,tF 29 i,tT 30 j] 74 18889465931478578757586
             · rcases qa h with⟨l,h⟩|⟨l,h⟩
               · exact mA 1 (ih _ _ h) 34 [tF 22 a,tF 23 c,tF 24 b,tF 25 d,tF 26 e,tF 27 f,tF 28 g,tF 29 i,tF 30 j,tT 31 l] 74 18889465931478578757586
               · exact mA 1 (ih _ _ h) 34 [tF 22 a,tF 23 c,tF 24 b,tF 25 d,tF 26 e,tF 27 f,tF 28 g,tF 29 i,tF 30 j,tF 31 l] 74 18889465931478578757586
 |.h1 ..,h=>by
  replace h:=qa h;rcases h with⟨rfl,h⟩|⟨rfl,h⟩
  · exact mA 1 (ih _ _ h) 3 [] 74 18889465931478580854738
  · exact mA 1 (ih _ _ h) 3 [] 74 18889465931478580854738
 |.h2 ..,h=>by
  replace h:=qa h;rcases h with⟨rfl,h⟩|⟨rfl,h⟩
  · exact mA 1 (ih _ _ h) 2 [] 74 18889465931478580854738
  · cases h;exact mF 1 []
 |.h3 ..,h=>by obtain⟨a,h⟩:=zo h;cases h;exact mF 1 [xS 68 a]
theorem ev35 {k:Nat}{a:By}{b:Int}{r:R35}(h:g35 k a b=some r):E35 a b r:=qnO (ok35 _ _ _ h)
inductive S20 where
 |e (a:By)(b:Int)
 |h0 (a:Int)(b:By)(c d e:Int)(f:By)(g:Int)
 |h1 (a:Bool)(b:Int)(c:By)(d e f:Int)(g:By)(i:Int)
abbrev R20:=(Int×By×Int×Int×Int×Int)⊕(Int×Int)
def qiT:R20→ARes
 |(.inl (a,b,c,d,e,_))=>.ret (.ag [ic a,sc b,ic c,ic d,ic e])
 |(.inr (a,_))=>.panic (.iface 51 (.agg #[.int .i64 a]))
def bx20 (b0_0:ByteArray):R20→List (List Cell)
 |(.inl (_,_,_,_,_,a))=>[[sc b0_0,ic a]]
 |(.inr (_,a))=>[[sc b0_0,ic a]]
noncomputable def yY (k:Nat)(rec:S20→Option R20):S20→Option R20
 |.e a b=>rec (.h0 0 (strB []) 0 0 0 a b)
 |.h0 a b c d e f g=>
  bif decide (g<(f.size:Int))then
   sxI f g fun i=>
   (g29 k i).bind fun j=>
   rec (.h1 j a b c d e f g)
  else
   rec (.h1 false a b c d e f g)
 |.h1 a b c d e f g i=>
  bif a then
   rec (.h0 b c d e f g (IntKind.i64.wrap (i+1)))
  else
   bif i==(g.size:Int)then
    some (.inl (0,strB [],0,0,i,i))
   else
    sxI g i fun j=>
    (g30 k j).bind fun l=>
    bif l then
     (g31 k g i).bind fun m=>
     altC m (fun n=>
       tup6 n fun o p q t u v=>
       some (.inl (o,p,q,t,u,v))) (fun n=>
       tup2 n fun w v=>
       some (.inr (w,v)))
    else
     (g32 k j).bind fun m=>
     bif m then
      (g33 k g i).bind fun n=>
      altC n (fun x=>
        tup2 x fun y z=>
        some (.inr (y,z))) (fun x=>
        tup6 x fun a1 b1 c1 d1 e1 z=>
        some (.inl (a1,b1,c1,d1,e1,z)))
     else
      bif j==39 then
       (g34 k g i).bind fun f1=>
       altC f1 (fun g1=>
         tup2 g1 fun i1 j1=>
         some (.inr (i1,j1))) (fun g1=>
         tup6 g1 fun l1 m1 n1 o1 p1 j1=>
         some (.inl (l1,m1,n1,o1,p1,j1)))
      else
       (g35 k g i).bind fun f1=>
       altC f1 (fun g1=>
         tup6 g1 fun l1 m1 n1 o1 p1 j1=>
         some (.inl (l1,m1,n1,o1,p1,j1))) (fun g1=>
         tup2 g1 fun i1 j1=>
         some (.inr (i1,j1)))
noncomputable def g20 (k:Nat)(a:By)(b:Int):Option R20:=itS yY k (.e a b)
noncomputable def P20:S20→R20→Prop
 |.e a b,r=>Fin cx20 Tryd.f20 [.code qdw] (fr0 Tryd.f20 [pP 0] [[sc a,ic b]]) (qiT r) (bx20 a r)
 |.h0 a b c d e f g,r=>Fin cx20 Tryd.f20 (kAt qdw [1,0,0,4] []) ⟨[pP 0,.deadv,pL 2]++rep 71 .deadv,[(.loc 2,[ic a,sc b,ic c,ic d,ic e]),(.par 0,[sc f,ic g])]⟩ (qiT r) (bx20 f r)
 |.h1 a b c d e f g i,r=>Fin cx20 Tryd.f20 (kAt qdw [1,0,0,0,0,1,2] []) ⟨[pP 0,.deadv,pL 2]++rep 22 .deadv++[.c (bc a)]++rep 48 .deadv,[(.loc 2,[ic b,sc c,ic d,ic e,ic f]),(.par 0,[sc g,ic i])]⟩ (qiT r) (bx20 g r)
abbrev E20 (a:By)(b:Int)(r:R20):Prop:=Ev Tryd.prog noHand 20 [pP 0] [[sc a,ic b]] (qiT r) (bx20 a r)
theorem qop {a:By}{b:Int}{r:R20}(h:P20 (.e a b) r):E20 a b r:=evF h
theorem ok20:∀ k s r,itS yY k s=some r→P20 s r:=qF fun k rec ih s r h=>match s,h with
 |.e ..,h=>by exact mA 1 (ih _ _ h) 5 [] 74 18889465931478580854778
 |.h0 ..,h=>by
  rcases qa h with⟨a,h⟩|⟨a,h⟩
  · obtain⟨_,b,h⟩:=Xm h;obtain⟨_,c,h⟩:=qh h;exact mA 1 (ih _ _ h) 4 [tT 13 a,sA 23 b,cA 24 (ev29 c)] 74 18889465931478547300346
  · exact mA 1 (ih _ _ h) 4 [tF 13 a] 74 18889465931478547300346
 |.h1 ..,h=>by
  replace h:=qa h;rcases h with⟨rfl,h⟩|⟨rfl,h⟩
  · exact mA 1 (ih _ _ h) 5 [] 74 18889465931478580854778
  ·
   rcases qa h with⟨a,h⟩|⟨a,h⟩
   · cases h;exact mF 1 [tT 42 a]
   ·
    obtain⟨_,b,h⟩:=Xm h;obtain⟨_,c,h⟩:=qh h;replace h:=qa h;rcases h with⟨rfl,h⟩|⟨rfl,h⟩
    · obtain⟨_,d,h⟩:=qh h;replace h:=qf h;rcases h with⟨_,rfl,h⟩|⟨_,rfl,h⟩
      · replace h:=t6 h;cases h;exact mF 1 [tF 42 a,sA 56 b,cA 59 (ev30 c),cA 61 (ev31 d)]
      · replace h:=t2 h;cases h;exact mF 1 [tF 42 a,sA 56 b,cA 59 (ev30 c),cA 61 (ev31 d)]
    ·
     obtain⟨_,d,h⟩:=qh h;replace h:=qa h;rcases h with⟨rfl,h⟩|⟨rfl,h⟩
     · obtain⟨_,e,h⟩:=qh h;replace h:=qf h;rcases h with⟨_,rfl,h⟩|⟨_,rfl,h⟩
       · replace h:=t2 h;cases h;exact mF 1 [tF 42 a,sA 56 b,cA 59 (ev30 c),cA 64 (ev32 d),cA 66 (ev33 e)]
       · replace h:=t6 h;cases h;exact mF 1 [tF 42 a,sA 56 b,cA 59 (ev30 c),cA 64 (ev32 d),cA 66 (ev33 e)]
     ·
      rcases qa h with⟨f,h⟩|⟨f,h⟩
      · obtain⟨_,g,h⟩:=qh h;replace h:=qf h;rcases h with⟨_,rfl,h⟩|⟨_,rfl,h⟩
        · replace h:=t2 h;cases h;exact mF 1 [tF 42 a,sA 56 b,cA 59 (ev30 c),cA 64 (ev32 d),tT 69 f,cA 71 (ev34 g)]
        · replace h:=t6 h;cases h;exact mF 1 [tF 42 a,sA 56 b,cA 59 (ev30 c),cA 64 (ev32 d),tT 69 f,cA 71 (ev34 g)]
      · obtain⟨_,g,h⟩:=qh h;replace h:=qf h;rcases h with⟨_,rfl,h⟩|⟨_,rfl,h⟩
        · replace h:=t6 h;cases h;exact mF 1 [tF 42 a,sA 56 b,cA 59 (ev30 c),cA 64 (ev32 d),tF 69 f,cA 73 (ev35 g)]
        · replace h:=t2 h;cases h;exact mF 1 [tF 42 a,sA 56 b,cA 59 (ev30 c),cA 64 (ev32 d),tF 69 f,cA 73 (ev35 g)]
theorem ev20 {k:Nat}{a:By}{b:Int}{r:R20}(h:g20 k a b=some r):E20 a b r:=qop (ok20 _ _ _ h)
inductive S15 where
 |e (a:By)
 |h0 (a b:Int)(c:Rs)
 |h1 (a:By)(b c d:Int)(e:Rs)
 |h2 (a b:Int)(c:Rs)
abbrev R15:=(Rs×Int×Int)⊕(Int×Int)
def qin:R15→ARes
 |(.inl (a,b,c))=>.ret ⟨.tup [false,false,false],[[.imm a],[ic b],[ic c]]⟩
 |(.inr (a,b))=>.ret ⟨.tup [false,false,false],[[.nil],[ic a],[ic b]]⟩
def bx15:R15→List (List Cell)
 |(.inl (_,_,_))=>[]
 |(.inr (_,_))=>[]
noncomputable def Zu (k:Nat)(rec:S15→Option R15):S15→Option R15
 |.e a=>
  bif decide ((a.size:Int)>4000)then
   rec (.h0 2 0 [])
  else
   rec (.h1 a 0 0 0 [])
 |.h0 a b c=>some (.inl (c,b,a))
 |.h1 a b c d e=>
  (g20 k a b).bind fun f=>
  altC f (fun g=>
    tup6 g fun i j l m n o=>
    gd (apOk 48 5 e [[ic i,sc j,ic l,ic m,ic n]]) <|
    bif i==0 then
     rec (.h2 0 0 (qG (e++[[ic i,sc j,ic l,ic m,ic n]])))
    else
     rec (.h1 a o c d (e++[[ic i,sc j,ic l,ic m,ic n]]))) (fun g=>
    tup2 g fun p o=>
    some (.inr (p,12)))
 |.h2 a b c=>some (.inl (c,b,a))
noncomputable def g15 (k:Nat)(a:By):Option R15:=itS Zu k (.e a)
noncomputable def P15:S15→R15→Prop
 |.e a,r=>FinD cx15 Tryd.f15 (DOf cx15.P none 0) [.code qbW] (fr0 Tryd.f15 [.c (sc a)] []) (qin r) (bx15 r)
 |.h0 a b c,r=>FinD cx15 Tryd.f15 (DOf cx15.P none 0) (kAt qbW [1,0,1,0,1,2] []) ⟨[.deadv,.deadv,pL 2,pL 3,pL 4]++rep 19 .deadv,[(.loc 4,[ic a]),(.loc 3,[ic b]),(.loc 2,[.imm c])]⟩ (qin r) (bx15 r)
 |.h1 a b c d e,r=>FinD cx15 Tryd.f15 (DOf cx15.P (some 10) 19) (kAt qbW [1,1,1,1,0,4] []) ⟨[.deadv,.deadv,pL 2,pL 3,pL 4,pL 13]++rep 4 .deadv++[.c (.clo 19 [] [.ptr ⟨⟨.loc 2,[]⟩,0,0⟩,.ptr ⟨⟨.loc 3,[]⟩,0,0⟩,.ptr ⟨⟨.loc 4,[]⟩,0,0⟩])]++rep 13 .deadv,[(.loc 13,[sc a,ic b]),(.loc 4,[ic c]),(.loc 3,[ic d]),(.loc 2,[.own 5 e])]⟩ (qin r) (bx15 r)
 |.h2 a b c,r=>FinD cx15 Tryd.f15 (DOf cx15.P (some 10) 19) (kAt qbW [1,1,1,1,0,0,0,1,1,1,0,1,2] []) ⟨[.deadv,.deadv,pL 2,pL 3,pL 4]++rep 5 .deadv++[.c (.clo 19 [] [.ptr ⟨⟨.loc 2,[]⟩,0,0⟩,.ptr ⟨⟨.loc 3,[]⟩,0,0⟩,.ptr ⟨⟨.loc 4,[]⟩,0,0⟩])]++rep 13 .deadv,[(.loc 4,[ic a]),(.loc 3,[ic b]),(.loc 2,[.imm c])]⟩ (qin r) (bx15 r)
abbrev E15 (a:By)(r:R15):Prop:=Ev Tryd.prog noHand 15 [.c (sc a)] [] (qin r) (bx15 r)
theorem qn0 {a:By}{r:R15}(h:P15 (.e a) r):E15 a r:=evD h
theorem ql3 {b0_0:Rs}{b1_0:Int}{b2_0:Int}{pv_i00:Int}:EvD Tryd.prog (.panicking [{ v:=.iface 51 (.agg #[.int .i64 pv_i00]),recovered:=false }]) (.panicking [{ v:=.iface 51 (.agg #[.int .i64 pv_i00]),recovered:=true }]) 19 [pP 0,pP 1,pP 2] [[.own 5 b0_0],[ic b1_0],[ic b2_0]] (.ret .undef) [[.nil],[ic pv_i00],[ic 12]]:=qcj (fn:=Tryd.f19) (body:=qkw) (cx:=cx19) (nb:=3) (n:=2000) (val:=.iface 51 (.agg #[.int .i64 pv_i00])) (ad1:=[]) (ad2:=[]) (ps:=[]) (by kernel_rfl) (by kernel_rfl) rfl hmix rfl (.inl ⟨rfl,rfl⟩) (by kernel_rfl) trivial
theorem qlP {b0_0:Rs}{b1_0:Int}{b2_0:Int}:EvD Tryd.prog .returning .returning 19 [pP 0,pP 1,pP 2] [[.imm b0_0],[ic b1_0],[ic b2_0]] (.ret .undef) [[.imm b0_0],[ic b1_0],[ic b2_0]]:=qcj (fn:=Tryd.f19) (body:=qkw) (cx:=cx19) (nb:=3) (n:=2000) (val:=.nilIface) (ad1:=[]) (ad2:=[]) (ps:=[]) (by kernel_rfl) (by kernel_rfl) rfl hmix rfl (.inr ⟨rfl,rfl,rfl⟩) (by kernel_rfl) trivial
theorem ok15:∀ k s r,itS Zu k s=some r→P15 s r:=qF fun k rec ih s r h=>match s,h with
 |.e a,h=>by
  rcases qa h with⟨b,h⟩|⟨b,h⟩
  · exact Ya (t:=none) (f:=0) hmix (ih _ _ h) (n:=8) (ad:=[(some 9,.test true)]) (ps:=[_]) (m:=bm 24 16777187) (ls:=[]) (cs:=[(⟨⟨.loc 2,[]⟩,0,0⟩,none)]) (by kernel_rfl) ⟨b,trivial⟩
  · exact Ya (t:=none) (f:=0) hmix (qg9 (Q:=fun G0 w0=>bodyPostD cx15.P Tryd.f15 (Went G0 w0 _ _)) (K0:=(kAt qbW [1,1,0,2] [])) (F:=⟨[.c (sc a),.undef,pL 2,pL 3,pL 4,.undef,.undef,.c (sc a),.c (ic (a.size:Int)),.c (bc false)]++rep 14 .undef,[(.loc 4,[ic 0]),(.loc 3,[ic 0]),(.loc 2,[.nil])]⟩) (k:=10) (f:=19) (K1:=(kAt qbW [1,1,0,3] [])) (F1:=⟨[.c (sc a),.undef,pL 2,pL 3,pL 4,.undef,.undef,.c (sc a),.c (ic (a.size:Int)),.c (bc false),.c (.clo 19 [] [.ptr ⟨⟨.loc 2,[]⟩,0,0⟩,.ptr ⟨⟨.loc 3,[]⟩,0,0⟩,.ptr ⟨⟨.loc 4,[]⟩,0,0⟩])]++rep 13 .undef,[(.loc 4,[ic 0]),(.loc 3,[ic 0]),(.loc 2,[.nil])]⟩) (ad:=[]) (ps:=[]) ⟨Tryd.f19,by kernel_rfl,by kernel_rfl,by kernel_rfl⟩ (Ya (t:=some 10) (f:=19) hmix (ih _ _ h) (n:=4) (ad:=[]) (ps:=[]) (m:=bm 24 16776131) (ls:=[]) (cs:=[(⟨⟨.loc 2,[]⟩,0,0⟩,some 5)]) (by kernel_rfl) trivial) (by kernel_rfl) trivial) (n:=8) (ad:=[(some 9,.test false)]) (ps:=[_]) (m:=bm 24 0) (ls:=[]) (cs:=[]) (by kernel_rfl) ⟨b,trivial⟩
 |.h0 ..,h=>by rw[← aR h];exact Yz (nb:=0) (t:=none) (f:=0) hmix (n:=2000) (ad:=[]) (ps:=[]) (bx':=[]) (by kernel_rfl) trivial
 |.h1 a _ b c d,h=>by
  obtain⟨_,e,h⟩:=qh h;replace h:=qf h;rcases h with⟨_,rfl,h⟩|⟨_,rfl,h⟩
  · replace h:=qk3 h;obtain⟨g,i,j,l,o,p,rfl,h⟩:=h;obtain⟨q,h⟩:=zo h;rcases qa h with⟨u,h⟩|⟨u,h⟩
    · exact Ya (t:=some 10) (f:=19) hmix (ih _ _ h) (n:=11) (ad:=[(some 15,.call (.ret (.ag [ic g,sc i,ic j,ic l,ic o])) [[sc a,ic p]] false),(some 19,.okE false),(some 22,.test true)]) (ps:=[_,_,_]) (m:=bm 24 16776163) (ls:=[6,13]) (cs:=[]) (by kernel_rfl) ⟨(ev20 e),okF [[ic g,sc i,ic j,ic l,ic o]] q,u,trivial⟩
    · exact Ya (t:=some 10) (f:=19) hmix (ih _ _ h) (n:=11) (ad:=[(some 15,.call (.ret (.ag [ic g,sc i,ic j,ic l,ic o])) [[sc a,ic p]] false),(some 19,.okE false),(some 22,.test false)]) (ps:=[_,_,_]) (m:=bm 24 16776131) (ls:=[6]) (cs:=[]) (by kernel_rfl) ⟨(ev20 e),okF [[ic g,sc i,ic j,ic l,ic o]] q,u,trivial⟩
  · replace h:=QD h;obtain⟨v,p,rfl,h⟩:=h;rw[← aR h];exact Yz (nb:=0) (t:=some 10) (f:=19) hmix (n:=2000) (ad:=[(some 15,.call (.panic (.iface 51 (.agg #[.int .i64 v]))) [[sc a,ic p]] false)]) (ps:=[_,_]) (bx':=[[.nil],[ic v],[ic 12]]) (by kernel_rfl) ⟨(ev20 e),(ql3 (b0_0:=d) (b1_0:=c) (b2_0:=b) (pv_i00:=v)),trivial⟩
 |.h2 a b c,h=>by rw[← aR h];exact Yz (nb:=0) (t:=some 10) (f:=19) hmix (n:=2000) (ad:=[]) (ps:=[_]) (bx':=[[.imm c],[ic b],[ic a]]) (by kernel_rfl) ⟨(qlP (b0_0:=c) (b1_0:=b) (b2_0:=a)),trivial⟩
theorem ev15 {k:Nat}{a:By}{r:R15}(h:g15 k a=some r):E15 a r:=qn0 (ok15 _ _ _ h)
inductive S46 where
 |e (a:Rs)(b c:Int)
abbrev R46:=Int×By×Int×Int×Int×Rs
def qmr:R46→ARes
 |(a,b,c,d,e,_)=>.ret (.ag [ic a,sc b,ic c,ic d,ic e])
def bx46 (b0_1:Int)(b0_2:Int):R46→List (List Cell)
 |(_,_,_,_,_,a)=>[[.imm a,ic b0_1,ic b0_2]]
noncomputable def qfc (k:Nat)(rec:S46→Option R46):S46→Option R46
 |.e a b ..=>
  bif decide (b<(a.length:Int))then
   ixR a b fun c=>
   qaM c fun d e f g i=>
   some (d,e,f,g,i,a)
  else
   some (0,strB [],0,0,0,a)
noncomputable def g46 (k:Nat)(a:Rs)(b c:Int):Option R46:=itS qfc k (.e a b c)
noncomputable def P46:S46→R46→Prop
 |.e a b c,r=>Fin cx46 Tryd.f46 [.code qg7] (fr0 Tryd.f46 [pP 0] [[.imm a,ic b,ic c]]) (qmr r) (bx46 b c r)
abbrev E46 (a:Rs)(b c:Int)(r:R46):Prop:=Ev Tryd.prog noHand 46 [pP 0] [[.imm a,ic b,ic c]] (qmr r) (bx46 b c r)
theorem qnS {a:Rs}{b c:Int}{r:R46}(h:P46 (.e a b c) r):E46 a b c r:=evF h
theorem ok46:∀ k s r,itS qfc k s=some r→P46 s r:=qF fun k rec ih s r h=>match s,h with
 |.e ..,h=>by
  rcases qa h with⟨a,h⟩|⟨a,h⟩
  · obtain⟨_,b,h⟩:=YJ h;replace h:=qca h;obtain⟨_,_,_,_,_,rfl,h⟩:=h;cases h;exact mF 1 [tT 12 a,rA 21 b]
  · cases h;exact mF 1 [tF 12 a]
theorem ev46 {k:Nat}{a:Rs}{b c:Int}{r:R46}(h:g46 k a b c=some r):E46 a b c r:=qnS (ok46 _ _ _ h)
inductive S37 where
 |e (a:By)(b:Rs)(c d:Int)
abbrev R37:=Bool×Rs
def qmN:R37→ARes
 |(r,_)=>.ret (.c (bc r))
def bx37 (b0_1:Int)(b0_2:Int):R37→List (List Cell)
 |(_,a)=>[[.imm a,ic b0_1,ic b0_2]]
noncomputable def qfl (k:Nat)(rec:S37→Option R37):S37→Option R37
 |.e a b c d=>
  (g46 k b c d).bind fun e=>
  tup6 e fun f g _ _ _ i=>
  bif f==1 then
   some (g.toList==a.toList,i)
  else
   bif f==6 then
    some (g.toList==a.toList,i)
   else
    some (false,i)
noncomputable def g37 (k:Nat)(a:By)(b:Rs)(c d:Int):Option R37:=itS qfl k (.e a b c d)
noncomputable def P37:S37→R37→Prop
 |.e a b c d,r=>Fin cx37 Tryd.f37 [.code qhD] (fr0 Tryd.f37 [pP 0,.c (sc a)] [[.imm b,ic c,ic d]]) (qmN r) (bx37 c d r)
abbrev E37 (a:By)(b:Rs)(c d:Int)(r:R37):Prop:=Ev Tryd.prog noHand 37 [pP 0,.c (sc a)] [[.imm b,ic c,ic d]] (qmN r) (bx37 c d r)
theorem qnv {a:By}{b:Rs}{c d:Int}{r:R37}(h:P37 (.e a b c d) r):E37 a b c d r:=evF h
theorem ok37:∀ k s r,itS qfl k s=some r→P37 s r:=qF fun k rec ih s r h=>match s,h with
 |.e ..,h=>by
  obtain⟨_,a,h⟩:=b6 h;rcases qa h with⟨b,h⟩|⟨b,h⟩
  · cases h;exact mF 1 [cA 7 (ev46 a),tT 10 b]
  · rcases qa h with⟨c,h⟩|⟨c,h⟩
    · cases h;exact mF 1 [cA 7 (ev46 a),tF 10 b,tT 14 c]
    · cases h;exact mF 1 [cA 7 (ev46 a),tF 10 b,tF 14 c]
theorem ev37 {k:Nat}{a:By}{b:Rs}{c d:Int}{r:R37}(h:g37 k a b c d=some r):E37 a b c d r:=qnv (ok37 _ _ _ h)
inductive S90 where
 |e (a:Rs)(b c:Int)
abbrev R90:=(Int×Int×Rs×Int)⊕(By×Rs×Int)
def qnd:R90→ARes
 |(.inl (a,b,_,_))=>.panic (.iface 58 (.agg #[.int .i64 a,.int .i64 b]))
 |(.inr (r,_,_))=>.ret (.c (sc r))
def bx90 (b0_2:Int):R90→List (List Cell)
 |(.inl (_,_,a,b))=>[[.imm a,ic b,ic b0_2]]
 |(.inr (_,a,b))=>[[.imm a,ic b,ic b0_2]]
noncomputable def qfL (k:Nat)(rec:S90→Option R90):S90→Option R90
 |.e a b c=>
  (g46 k a b c).bind fun d=>
  tup6 d fun e f _ _ g i=>
  bif e != 2 then
   some (.inl (g,13,i,b))
  else
   some (.inr (f,i,IntKind.i64.wrap (b+1)))
noncomputable def g90 (k:Nat)(a:Rs)(b c:Int):Option R90:=itS qfL k (.e a b c)
noncomputable def P90:S90→R90→Prop
 |.e a b c,r=>Fin cx90 Tryd.f90 [.code qmd] (fr0 Tryd.f90 [pP 0] [[.imm a,ic b,ic c]]) (qnd r) (bx90 c r)
abbrev E90 (a:Rs)(b c:Int)(r:R90):Prop:=Ev Tryd.prog noHand 90 [pP 0] [[.imm a,ic b,ic c]] (qnd r) (bx90 c r)
theorem qoq {a:Rs}{b c:Int}{r:R90}(h:P90 (.e a b c) r):E90 a b c r:=evF h
theorem ok90:∀ k s r,itS qfL k s=some r→P90 s r:=qF fun k rec ih s r h=>match s,h with
 |.e ..,h=>by
  obtain⟨_,a,h⟩:=b6 h;rcases qa h with⟨b,h⟩|⟨b,h⟩
  · cases h;exact mF 1 [cA 5 (ev46 a),tT 8 b]
  · cases h;exact mF 1 [cA 5 (ev46 a),tF 8 b]
theorem ev90 {k:Nat}{a:Rs}{b c:Int}{r:R90}(h:g90 k a b c=some r):E90 a b c r:=qoq (ok90 _ _ _ h)
inductive S86 where
 |e (a:By)(b:Rs)(c d:Int)
abbrev R86:=(Int×Int×Rs×Int)⊕(Rs×Int)
def qmW:R86→ARes
 |(.inl (a,b,_,_))=>.panic (.iface 58 (.agg #[.int .i64 a,.int .i64 b]))
 |(.inr (_,_))=>.ret .undef
def bx86 (b0_2:Int):R86→List (List Cell)
 |(.inl (_,_,a,b))=>[[.imm a,ic b,ic b0_2]]
 |(.inr (a,b))=>[[.imm a,ic b,ic b0_2]]
noncomputable def qe9 (k:Nat)(rec:S86→Option R86):S86→Option R86
 |.e a b c d=>
  (g37 k a b c d).bind fun e=>
  tup2 e fun f g=>
  bif !f then
   (g46 k g c d).bind fun i=>
   tup6 i fun _ _ _ _ j l=>
   some (.inl (j,13,l,c))
  else
   some (.inr (g,IntKind.i64.wrap (c+1)))
noncomputable def g86 (k:Nat)(a:By)(b:Rs)(c d:Int):Option R86:=itS qe9 k (.e a b c d)
noncomputable def P86:S86→R86→Prop
 |.e a b c d,r=>Fin cx86 Tryd.f86 [.code qmI] (fr0 Tryd.f86 [pP 0,.c (sc a)] [[.imm b,ic c,ic d]]) (qmW r) (bx86 d r)
abbrev E86 (a:By)(b:Rs)(c d:Int)(r:R86):Prop:=Ev Tryd.prog noHand 86 [pP 0,.c (sc a)] [[.imm b,ic c,ic d]] (qmW r) (bx86 d r)
theorem qnP {a:By}{b:Rs}{c d:Int}{r:R86}(h:P86 (.e a b c d) r):E86 a b c d r:=evF h
theorem ok86:∀ k s r,itS qe9 k s=some r→P86 s r:=qF fun k rec ih s r h=>match s,h with
 |.e ..,h=>by
  obtain⟨_,a,h⟩:=b2 h;rcases qa h with⟨b,h⟩|⟨b,h⟩
  · obtain⟨_,c,h⟩:=b6 h;cases h;exact mF 1 [cA 6 (ev37 a),tT 7 b,cA 9 (ev46 c)]
  · cases h;exact mF 1 [cA 6 (ev37 a),tF 7 b]
theorem ev86 {k:Nat}{a:By}{b:Rs}{c d:Int}{r:R86}(h:g86 k a b c d=some r):E86 a b c d r:=qnP (ok86 _ _ _ h)
inductive S85 where
 |e (a:Rs)(b c:Int)
abbrev R85:=(Int×Int×Rs×Int)⊕(By×By×Rs×Int)
def qlV:R85→ARes
 |(.inl (a,b,_,_))=>.panic (.iface 58 (.agg #[.int .i64 a,.int .i64 b]))
 |(.inr (a,b,_,_))=>.ret ⟨.tup [false,false],[[sc a],[sc b]]⟩
def bx85 (b0_2:Int):R85→List (List Cell)
 |(.inl (_,_,a,b))=>[[.imm a,ic b,ic b0_2]]
 |(.inr (_,_,a,b))=>[[.imm a,ic b,ic b0_2]]
noncomputable def Zr (k:Nat)(rec:S85→Option R85):S85→Option R85
 |.e a b c=>
  (g90 k a b c).bind fun d=>
  altC d (fun e=>
    tup4 e fun f g i j=>
    some (.inl (f,g,i,j))) (fun e=>
    tup3 e fun l i j=>
    (g86 k (strB [46]) i j c).bind fun m=>
    altC m (fun n=>
      tup4 n fun o p q t=>
      some (.inl (o,p,q,t))) (fun n=>
      tup2 n fun q t=>
      (g37 k (strB [84,73,77,69]) q t c).bind fun u=>
      tup2 u fun v w=>
      bif v then
       some (.inr (l,strB [84,73,77,69],w,IntKind.i64.wrap (t+1)))
      else
       (g90 k w t c).bind fun x=>
       altC x (fun y=>
         tup4 y fun z a1 b1 c1=>
         some (.inl (z,a1,b1,c1))) (fun y=>
         tup3 y fun d1 b1 c1=>
         some (.inr (l,d1,b1,c1)))))
noncomputable def g85 (k:Nat)(a:Rs)(b c:Int):Option R85:=itS Zr k (.e a b c)
noncomputable def P85:S85→R85→Prop
 |.e a b c,r=>Fin cx85 Tryd.f85 [.code qhl] (fr0 Tryd.f85 [pP 0] [[.imm a,ic b,ic c]]) (qlV r) (bx85 c r)
abbrev E85 (a:Rs)(b c:Int)(r:R85):Prop:=Ev Tryd.prog noHand 85 [pP 0] [[.imm a,ic b,ic c]] (qlV r) (bx85 c r)
theorem qnI {a:Rs}{b c:Int}{r:R85}(h:P85 (.e a b c) r):E85 a b c r:=evF h
theorem ok85:∀ k s r,itS Zr k s=some r→P85 s r:=qF fun k rec ih s r h=>match s,h with
 |.e ..,h=>by
  obtain⟨_,a,h⟩:=qh h;replace h:=qf h;rcases h with⟨_,rfl,h⟩|⟨_,rfl,h⟩
  · replace h:=t4 h;cases h;exact mF 1 [cA 6 (ev90 a)]
  ·
   replace h:=t3 h;obtain⟨_,b,h⟩:=qh h;replace h:=qf h;rcases h with⟨_,rfl,h⟩|⟨_,rfl,h⟩
   · replace h:=t4 h;cases h;exact mF 1 [cA 6 (ev90 a),cA 8 (ev86 b)]
   ·
    replace h:=t2 h;obtain⟨_,c,h⟩:=qh h;replace h:=QD h;obtain⟨_,_,rfl,h⟩:=h;replace h:=qa h;rcases h with⟨rfl,h⟩|⟨rfl,h⟩
    · cases h;exact mF 1 [cA 6 (ev90 a),cA 8 (ev86 b),cA 10 (ev37 c)]
    · obtain⟨_,d,h⟩:=qh h;replace h:=qf h;rcases h with⟨_,rfl,h⟩|⟨_,rfl,h⟩
      · replace h:=t4 h;cases h;exact mF 1 [cA 6 (ev90 a),cA 8 (ev86 b),cA 10 (ev37 c),cA 21 (ev90 d)]
      · replace h:=t3 h;cases h;exact mF 1 [cA 6 (ev90 a),cA 8 (ev86 b),cA 10 (ev37 c),cA 21 (ev90 d)]
theorem ev85 {k:Nat}{a:Rs}{b c:Int}{r:R85}(h:g85 k a b c=some r):E85 a b c r:=qnI (ok85 _ _ _ h)
inductive S52 where
 |e (a:Rs)(b c:Int)
abbrev R52:=(Int×Int×Rs×Int×Int)⊕(Int×Rs×Int×Int)
def qlx:R52→ARes
 |(.inl (a,b,_,_,_))=>.panic (.iface 58 (.agg #[.int .i64 a,.int .i64 b]))
 |(.inr (r,_,_,_))=>.ret (.c (ic r))
def bx52:R52→List (List Cell)
 |(.inl (_,_,a,b,c))=>[[.imm a,ic b,ic c]]
 |(.inr (_,a,b,c))=>[[.imm a,ic b,ic c]]
noncomputable def qfC (k:Nat)(rec:S52→Option R52):S52→Option R52
 |.e a b c=>
  (g46 k a b c).bind fun d=>
  tup6 d fun _ _ _ _ e f=>
  bif c==30 then
   some (.inl (e,14,f,b,c))
  else
   some (.inr (e,f,IntKind.i64.wrap (b+1),IntKind.i64.wrap (c+1)))
noncomputable def g52 (k:Nat)(a:Rs)(b c:Int):Option R52:=itS qfC k (.e a b c)
noncomputable def P52:S52→R52→Prop
 |.e a b c,r=>Fin cx52 Tryd.f52 [.code qmV] (fr0 Tryd.f52 [pP 0] [[.imm a,ic b,ic c]]) (qlx r) (bx52 r)
abbrev E52 (a:Rs)(b c:Int)(r:R52):Prop:=Ev Tryd.prog noHand 52 [pP 0] [[.imm a,ic b,ic c]] (qlx r) (bx52 r)
theorem qnn {a:Rs}{b c:Int}{r:R52}(h:P52 (.e a b c) r):E52 a b c r:=evF h
theorem ok52:∀ k s r,itS qfC k s=some r→P52 s r:=qF fun k rec ih s r h=>match s,h with
 |.e ..,h=>by
  obtain⟨_,a,h⟩:=b6 h;rcases qa h with⟨b,h⟩|⟨b,h⟩
  · cases h;exact mF 1 [cA 5 (ev46 a),tT 10 b]
  · cases h;exact mF 1 [cA 5 (ev46 a),tF 10 b]
theorem ev52 {k:Nat}{a:Rs}{b c:Int}{r:R52}(h:g52 k a b c=some r):E52 a b c r:=qnn (ok52 _ _ _ h)
inductive S91 where
 |e (a:Int)(b:By)(c d e:Int)(f:Rs)(g i:Int)
 |h0 (a b c d e f g:By)(i j l m:Int)(n o:By)(p q:Int)(t:By)(u v w:Int)(x:Rs)(y z:Int)
 |h1 (a b c:Int)(d e:By)(f g i j:Int)(l m:By)(n:Int)(o:Rs)(p q:Int)
abbrev R91:=(Int×Int×Rs×Int)⊕(Int×Int×Int×By×By×Int×Rs×Int)
def qi7:R91→ARes
 |(.inl (a,b,_,_))=>.panic (.iface 58 (.agg #[.int .i64 a,.int .i64 b]))
 |(.inr (a,b,c,d,e,f,_,_))=>.ret (.ag [ic a,.nil,ic b,ic c,sc d,sc e,ic f])
def bx91 (b0_2:Int):R91→List (List Cell)
 |(.inl (_,_,a,b))=>[[.imm a,ic b,ic b0_2]]
 |(.inr (_,_,_,_,_,_,a,b))=>[[.imm a,ic b,ic b0_2]]
noncomputable def zX (k:Nat)(rec:S91→Option R91):S91→Option R91
 |.e a b c d e f g i=>rec (.h0 (strB [67,79,85,78,84]) (strB [70,73,82,83,84]) (strB [76,65,83,84]) (strB [83,85,77]) (strB [77,73,78]) (strB [77,65,88]) (strB [77,69,65,78]) 0 0 0 0 (strB []) (strB []) 0 a b c d e f g i)
 |.h0 a b c d e f g i j l m n o p q t u v w x y z=>
  bif decide (i<7)then
   aixS [a,b,c,d,e,f,g] i fun a1=>
   bif !(a1.toList==t.toList)then
    rec (.h0 a b c d e f g (IntKind.i64.wrap (i+1)) j l m n o p q t u v w x y z)
   else
    (g86 k (strB [40]) x (IntKind.i64.wrap (y+1)) z).bind fun b1=>
    altC b1 (fun c1=>
      tup4 c1 fun d1 e1 f1 g1=>
      some (.inl (d1,e1,f1,g1))) (fun c1=>
      tup2 c1 fun f1 g1=>
      bif i==0 then
       (g90 k f1 g1 z).bind fun i1=>
       altC i1 (fun j1=>
         tup4 j1 fun l1 m1 n1 o1=>
         some (.inl (l1,m1,n1,o1))) (fun j1=>
         tup3 j1 fun p1 n1 o1=>
         rec (.h1 (IntKind.i64.wrap ((25:Int)+i)) 0 0 p1 (strB []) w j l m n o p n1 o1 z))
      else
       (g85 k f1 g1 z).bind fun i1=>
       altC i1 (fun j1=>
         tup4 j1 fun l1 m1 n1 o1=>
         some (.inl (l1,m1,n1,o1))) (fun j1=>
         tup4 j1 fun q1 t1 n1 o1=>
         rec (.h1 (IntKind.i64.wrap ((25:Int)+i)) 0 0 q1 t1 w j l m n o p n1 o1 z)))
  else
   some (.inl (w,13,x,y))
 |.h1 a b c d e f _ _ _ _ _ _ g i j=>
  (g86 k (strB [41]) g i j).bind fun l=>
  altC l (fun m=>
    tup4 m fun n o p q=>
    some (.inl (n,o,p,q))) (fun m=>
    tup2 m fun p q=>
    some (.inr (a,b,c,d,e,f,p,q)))
noncomputable def g91 (k:Nat)(a:Int)(b:By)(c d e:Int)(f:Rs)(g i:Int):Option R91:=itS zX k (.e a b c d e f g i)
noncomputable def P91:S91→R91→Prop
 |.e a b c d e f g i,r=>Fin cx91 Tryd.f91 [.code qh4] (fr0 Tryd.f91 [pP 0,.ag [ic a,sc b,ic c,ic d,ic e]] [[.imm f,ic g,ic i]]) (qi7 r) (bx91 i r)
 |.h0 a b c d e f g i j l m n o p q t u v w x y z,r=>Fin cx91 Tryd.f91 (kAt qh4 [1,0,1,0,4] []) ⟨[pP 0,.deadv,.deadv,pL 3,pL 4]++rep 3 .deadv++[.ag [sc a,sc b,sc c,sc d,sc e,sc f,sc g],.c (ic i)]++rep 41 .deadv,[(.loc 4,[ic j,.nil,ic l,ic m,sc n,sc o,ic p]),(.loc 3,[ic q,sc t,ic u,ic v,ic w]),(.par 0,[.imm x,ic y,ic z])]⟩ (qi7 r) (bx91 z r)
 |.h1 a b c d e f g i j l m n o p q,r=>Fin cx91 Tryd.f91 (kAt qh4 [1,0,1,0,0,1,1,0,0,1,1,1,1,1,1,2] []) ⟨[pP 0]++rep 3 .deadv++[pL 4,.deadv,.deadv,pL 7]++rep 43 .deadv,[(.loc 7,[ic a,.nil,ic b,ic c,sc d,sc e,ic f]),(.loc 4,[ic g,.nil,ic i,ic j,sc l,sc m,ic n]),(.par 0,[.imm o,ic p,ic q])]⟩ (qi7 r) (bx91 q r)
abbrev E91 (a:Int)(b:By)(c d e:Int)(f:Rs)(g i:Int)(r:R91):Prop:=Ev Tryd.prog noHand 91 [pP 0,.ag [ic a,sc b,ic c,ic d,ic e]] [[.imm f,ic g,ic i]] (qi7 r) (bx91 i r)
theorem qnH {a:Int}{b:By}{c d e:Int}{f:Rs}{g i:Int}{r:R91}(h:P91 (.e a b c d e f g i) r):E91 a b c d e f g i r:=evF h
theorem ok91:∀ k s r,itS zX k s=some r→P91 s r:=qF fun k rec ih s r h=>match s,h with
 |.e ..,h=>by exact mA 1 (ih _ _ h) 7 [] 51 2251799813684454
 |.h0 ..,h=>by
  rcases qa h with⟨a,h⟩|⟨a,h⟩
  ·
   obtain⟨_,b,h⟩:=qcW h;rcases qa h with⟨c,h⟩|⟨c,h⟩
   · exact mA 1 (ih _ _ h) 16 [tT 10 a,aA 12 b,tT 16 c] 51 2251799813684454
   ·
    obtain⟨_,d,h⟩:=qh h;replace h:=qf h;rcases h with⟨_,rfl,h⟩|⟨_,rfl,h⟩
    · replace h:=t4 h;cases h;exact mF 1 [tT 10 a,aA 12 b,tF 16 c,cA 25 (ev86 d)]
    ·
     replace h:=t2 h;rcases qa h with⟨e,h⟩|⟨e,h⟩
     · obtain⟨_,f,h⟩:=qh h;replace h:=qf h;rcases h with⟨_,rfl,h⟩|⟨_,rfl,h⟩
       · replace h:=t4 h;cases h;exact mF 1 [tT 10 a,aA 12 b,tF 16 c,cA 25 (ev86 d),tT 32 e,cA 34 (ev90 f)]
       · replace h:=t3 h;exact mG 1 (ih _ _ h) 26 [tT 10 a,aA 12 b,tF 16 c,cA 25 (ev86 d),tT 32 e,cA 34 (ev90 f)] 51 2251799813685102 [3] []
     · obtain⟨_,f,h⟩:=qh h;replace h:=qf h;rcases h with⟨_,rfl,h⟩|⟨_,rfl,h⟩
       · replace h:=t4 h;cases h;exact mF 1 [tT 10 a,aA 12 b,tF 16 c,cA 25 (ev86 d),tF 32 e,cA 38 (ev85 f)]
       · replace h:=t4 h;exact mG 1 (ih _ _ h) 26 [tT 10 a,aA 12 b,tF 16 c,cA 25 (ev86 d),tF 32 e,cA 38 (ev85 f)] 51 2251799813685102 [3] []
  · cases h;exact mF 1 [tF 10 a]
 |.h1 ..,h=>by
  obtain⟨_,a,h⟩:=qh h;replace h:=qf h;rcases h with⟨_,rfl,h⟩|⟨_,rfl,h⟩
  · replace h:=t4 h;cases h;exact mF 1 [cA 44 (ev86 a)]
  · replace h:=t2 h;cases h;exact mF 1 [cA 44 (ev86 a)]
theorem ev91 {k:Nat}{a:Int}{b:By}{c d e:Int}{f:Rs}{g i:Int}{r:R91}(h:g91 k a b c d e f g i=some r):E91 a b c d e f g i r:=qnH (ok91 _ _ _ h)
inductive S60 where
 |e (a:By)(b:Int)(c:Rs)(d e:Int)
 |h0 (a:Int)(b:Rs)(c d e:Int)(f:By)(g i j:Int)(l:Rs)(m n:Int)
 |h1 (a:Rs)(b c:Int)
abbrev R60:=Int×Rs
def qjH:R60→ARes
 |(r,_)=>.ret (.c (ic r))
def bx60 (b0_1:Int)(b0_2:Int):R60→List (List Cell)
 |(_,a)=>[[.imm a,ic b0_1,ic b0_2]]
noncomputable def Zz (k:Nat)(rec:S60→Option R60):S60→Option R60
 |.e a b c d e=>
  (g46 k c d e).bind fun f=>
  tup6 f fun g i j l m n=>
  bif g==6 then
   (YZ a).bind fun o=>
   rec (.h0 b o (o.length:Int) 0 g i j l m n d e)
  else
   rec (.h1 n d e)
 |.h0 a b c d e f g i j l m n=>
  bif decide (d<c)then
   ixR b d fun o=>
   un_s o fun p=>
   bif p.toList==f.toList then
    some (IntKind.i64.wrap (a+d),l)
   else
    rec (.h0 a b c (IntKind.i64.wrap (d+1)) e f g i j l m n)
  else
   rec (.h1 l m n)
 |.h1 a ..=>some (0,a)
noncomputable def g60 (k:Nat)(a:By)(b:Int)(c:Rs)(d e:Int):Option R60:=itS Zz k (.e a b c d e)
noncomputable def P60:S60→R60→Prop
 |.e a b c d e,r=>Fin cx60 Tryd.f60 [.code qhX] (fr0 Tryd.f60 [pP 0,.c (sc a),.c (ic b)] [[.imm c,ic d,ic e]]) (qjH r) (bx60 d e r)
 |.h0 a b c d e f g i j l m n,r=>Fin cx60 Tryd.f60 (kAt qhX [1,1,0,1,0,1,0,4] []) ⟨[.deadv,.deadv,.c (ic a)]++rep 4 .deadv++[pL 7]++rep 8 .deadv++[.c (.imm b),.c (ic c),.c (ic d)]++rep 12 .deadv,[(.loc 7,[ic e,sc f,ic g,ic i,ic j]),(.par 0,[.imm l,ic m,ic n])]⟩ (qjH r) (bx60 m n r)
 |.h1 a b c,r=>Fin cx60 Tryd.f60 (kAt qhX [1,1,1,2] []) ⟨rep 31 .deadv,[(.par 0,[.imm a,ic b,ic c])]⟩ (qjH r) (bx60 b c r)
abbrev E60 (a:By)(b:Int)(c:Rs)(d e:Int)(r:R60):Prop:=Ev Tryd.prog noHand 60 [pP 0,.c (sc a),.c (ic b)] [[.imm c,ic d,ic e]] (qjH r) (bx60 d e r)
theorem qoe {a:By}{b:Int}{c:Rs}{d e:Int}{r:R60}(h:P60 (.e a b c d e) r):E60 a b c d e r:=evF h
theorem ok60:∀ k s r,itS Zz k s=some r→P60 s r:=qF fun k rec ih s r h=>match s,h with
 |.e ..,h=>by
  obtain⟨_,a,h⟩:=b6 h;rcases qa h with⟨b,h⟩|⟨b,h⟩
  · obtain⟨_,c,h⟩:=qh h;exact mA 1 (ih _ _ h) 12 [cA 11 (ev46 a),tT 14 b,cA 16 (qgF c)] 31 2147024763
  · exact mG 1 (ih _ _ h) 9 [cA 11 (ev46 a),tF 14 b] 31 2147483647 [7] []
 |.h0 ..,h=>by
  rcases qa h with⟨a,h⟩|⟨a,h⟩
  · obtain⟨_,b,h⟩:=YJ h;replace h:=qkP h;obtain⟨_,rfl,h⟩:=h;rcases qa h with⟨c,h⟩|⟨c,h⟩
    · cases h;exact mF 1 [tT 19 a,rA 21 b,tT 26 c]
    · exact mA 1 (ih _ _ h) 16 [tT 19 a,rA 21 b,tF 26 c] 31 2147024763
  · exact mG 1 (ih _ _ h) 6 [tF 19 a] 31 2147483647 [7] []
 |.h1 ..,h=>by cases h;exact mF 1 []
theorem ev60 {k:Nat}{a:By}{b:Int}{c:Rs}{d e:Int}{r:R60}(h:g60 k a b c d e=some r):E60 a b c d e r:=qoe (ok60 _ _ _ h)
end Ab
end Go.Proofs.YtfekohpjaafnhaaDoor
