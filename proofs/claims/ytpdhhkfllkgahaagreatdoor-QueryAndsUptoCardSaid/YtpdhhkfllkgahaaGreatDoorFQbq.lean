/-
  Functions' ways, printed by a program: what each computes, and that this is what the interpreter computes.
-/
import Derived.Test.YtpdhhkfllkgahaaGreatDoorPrq
import Derived.KernelRfl
set_option linter.all false
set_option maxRecDepth 10000
namespace Go.Proofs.YtpdhhkfllkgahaaGreatDoor
namespace Ab
variable [vo]
inductive S54 where
 |e (a:Int)
abbrev R54:=Bool
def qtI:R54→ARes
 |r=>.ret (.c (bc r))
def bx54:R54→List (List Cell)
 |_=>[]
noncomputable def qxL (k:Nat)(rec:S54→Option R54):S54→Option R54
 |.e a=>
  bif a==32 then
   some true
  else
   bif a==9 then
    some true
   else
    bif a==10 then
     some true
    else
     some (a==13)
noncomputable def g54 (k:Nat)(a:Int):Option R54:=itS qxL k (.e a)
noncomputable def P54:S54→R54→Prop
 |.e a,r=>Fin cx54 Tryz.f54 [.code qsT] (fr0 Tryz.f54 [.c (.val (.int .u8 a))] []) (qtI r) (bx54 r)
abbrev E54 (a:Int)(r:R54):Prop:=Ev Tryz.prog noHand 54 [.c (.val (.int .u8 a))] [] (qtI r) (bx54 r)
theorem qrn {a:Int}{r:R54}(h:P54 (.e a) r):E54 a r:=evF h
theorem ok54:∀ k s r,itS qxL k s=some r→P54 s r:=qF fun k rec ih s r h=>match s,h with
 |.e ..,h=>by
  rcases qa h with⟨a,h⟩|⟨a,h⟩
  · cases h;exact mF 0 [tT 4 a]
  ·
   rcases qa h with⟨b,h⟩|⟨b,h⟩
   · cases h;exact mF 0 [tF 4 a,tT 7 b]
   · rcases qa h with⟨c,h⟩|⟨c,h⟩
     · cases h;exact mF 0 [tF 4 a,tF 7 b,tT 11 c]
     · cases h;exact mF 0 [tF 4 a,tF 7 b,tF 11 c]
theorem ev54 {k:Nat}{a:Int}{r:R54}(h:g54 k a=some r):E54 a r:=qrn (ok54 _ _ _ h)
inductive S55 where
 |e (a:Int)
abbrev R55:=Bool
def qtJ:R55→ARes
 |r=>.ret (.c (bc r))
def bx55:R55→List (List Cell)
 |_=>[]
noncomputable def qsu (k:Nat)(rec:S55→Option R55):S55→Option R55
 |.e a=>
  bif decide (a≥97)then
   bif decide (a≤122)then
    some true
   else
    bif decide (a≥65)then
     some (decide (a≤90))
    else
     some false
  else
   bif decide (a≥65)then
    some (decide (a≤90))
   else
    some false
noncomputable def g55 (k:Nat)(a:Int):Option R55:=itS qsu k (.e a)
noncomputable def P55:S55→R55→Prop
 |.e a,r=>Fin cx55 Tryz.f55 [.code qsU] (fr0 Tryz.f55 [.c (.val (.int .u8 a))] []) (qtJ r) (bx55 r)
abbrev E55 (a:Int)(r:R55):Prop:=Ev Tryz.prog noHand 55 [.c (.val (.int .u8 a))] [] (qtJ r) (bx55 r)
theorem qun {a:Int}{r:R55}(h:P55 (.e a) r):E55 a r:=evF h
theorem ok55:∀ k s r,itS qsu k s=some r→P55 s r:=qF fun k rec ih s r h=>match s,h with
 |.e ..,h=>by
  rcases qa h with⟨a,h⟩|⟨a,h⟩
  ·
   rcases qa h with⟨b,h⟩|⟨b,h⟩
   · cases h;exact mF 0 [tT 4 a,tT 7 b]
   · rcases qa h with⟨c,h⟩|⟨c,h⟩
     · cases h;exact mF 0 [tT 4 a,tF 7 b,tT 11 c]
     · cases h;exact mF 0 [tT 4 a,tF 7 b,tF 11 c]
  · rcases qa h with⟨b,h⟩|⟨b,h⟩
    · cases h;exact mF 0 [tF 4 a,tT 11 b]
    · cases h;exact mF 0 [tF 4 a,tF 11 b]
theorem ev55 {k:Nat}{a:Int}{r:R55}(h:g55 k a=some r):E55 a r:=qun (ok55 _ _ _ h)
inductive S57 where
 |e (a:Int)
abbrev R57:=Bool
def qyZ:R57→ARes
 |r=>.ret (.c (bc r))
def bx57:R57→List (List Cell)
 |_=>[]
noncomputable def qxM (k:Nat)(rec:S57→Option R57):S57→Option R57
 |.e a=>
  bif decide (a≥48)then
   some (decide (a≤57))
  else
   some false
noncomputable def g57 (k:Nat)(a:Int):Option R57:=itS qxM k (.e a)
noncomputable def P57:S57→R57→Prop
 |.e a,r=>Fin cx57 Tryz.f57 [.code qx9] (fr0 Tryz.f57 [.c (.val (.int .u8 a))] []) (qyZ r) (bx57 r)
abbrev E57 (a:Int)(r:R57):Prop:=Ev Tryz.prog noHand 57 [.c (.val (.int .u8 a))] [] (qyZ r) (bx57 r)
theorem qzh {a:Int}{r:R57}(h:P57 (.e a) r):E57 a r:=evF h
theorem ok57:∀ k s r,itS qxM k s=some r→P57 s r:=qF fun k rec ih s r h=>match s,h with
 |.e ..,h=>by
  rcases qa h with⟨a,h⟩|⟨a,h⟩
  · cases h;exact mF 0 [tT 4 a]
  · cases h;exact mF 0 [tF 4 a]
theorem ev57 {k:Nat}{a:Int}{r:R57}(h:g57 k a=some r):E57 a r:=qzh (ok57 _ _ _ h)
inductive S73 where
 |e (a:Int)(b:By)(c:Int)
 |h0 (a b:Int)(c:By)(d:Int)
 |h1 (a b:Int)(c:Bool)(d:By)(e:Int)
abbrev R73:=By
def qrV:R73→ARes
 |r=>.ret (.c (sc r))
def bx73 (b0_0:ByteArray)(b0_1:Int):R73→List (List Cell)
 |_=>[[sc b0_0,ic b0_1]]
noncomputable def qsw (k:Nat)(rec:S73→Option R73):S73→Option R73
 |.e a b c=>rec (.h0 a a b c)
 |.h0 a b c d=>
  bif decide (b<(c.size:Int))then
   sxI c b fun e=>
   (g55 k e).bind fun f=>
   bif f then
    rec (.h1 a b true c d)
   else
    (g57 k e).bind fun g=>
    bif g then
     rec (.h1 a b true c d)
    else
     rec (.h1 a b (e==95) c d)
  else
   rec (.h1 a b false c d)
 |.h1 a b c d e=>
  bif c then
   rec (.h0 a (IntKind.i64.wrap (b+1)) d e)
  else
   gd (decide (0≤a∧a≤b∧b≤(d.size:Int))) <|
   some (d.extract (Int.toNat a) (Int.toNat b))
noncomputable def g73 (k:Nat)(a:Int)(b:By)(c:Int):Option R73:=itS qsw k (.e a b c)
noncomputable def P73:S73→R73→Prop
 |.e a b c,r=>Fin cx73 Tryz.f73 [.code qrf] (fr0 Tryz.f73 [pP 0,.c (ic a)] [[sc b,ic c]]) (qrV r) (bx73 b c r)
 |.h0 a b c d,r=>Fin cx73 Tryz.f73 (kAt qrf [1,1,0,0,4] []) ⟨[pP 0,.c (ic a)]++rep 3 .deadv++[.c (ic b)]++rep 44 .deadv,[(.par 0,[sc c,ic d])]⟩ (qrV r) (bx73 c d r)
 |.h1 a b c d e,r=>Fin cx73 Tryz.f73 (kAt qrf [1,1,0,0,0,0,1,2] []) ⟨[pP 0,.c (ic a)]++rep 3 .deadv++[.c (ic b)]++rep 34 .deadv++[.c (bc c)]++rep 9 .deadv,[(.par 0,[sc d,ic e])]⟩ (qrV r) (bx73 d e r)
abbrev E73 (a:Int)(b:By)(c:Int)(r:R73):Prop:=Ev Tryz.prog noHand 73 [pP 0,.c (ic a)] [[sc b,ic c]] (qrV r) (bx73 b c r)
theorem qux {a:Int}{b:By}{c:Int}{r:R73}(h:P73 (.e a b c) r):E73 a b c r:=evF h
theorem ok73:∀ k s r,itS qsw k s=some r→P73 s r:=qF fun k rec ih s r h=>match s,h with
 |.e ..,h=>by exact mA 1 (ih _ _ h) 7 [] 50 1125899906842588
 |.h0 ..,h=>by
  rcases qa h with⟨a,h⟩|⟨a,h⟩
  ·
   obtain⟨_,b,h⟩:=Xm h;obtain⟨_,c,h⟩:=qh h;replace h:=qa h;rcases h with⟨rfl,h⟩|⟨rfl,h⟩
   · exact mA 1 (ih _ _ h) 4 [tT 13 a,sA 20 b,cA 21 (ev55 c)] 50 1124800395214812
   · obtain⟨_,d,h⟩:=qh h;replace h:=qa h;rcases h with⟨rfl,h⟩|⟨rfl,h⟩
     · exact mA 1 (ih _ _ h) 4 [tT 13 a,sA 20 b,cA 21 (ev55 c),sA 28 b,cA 29 (ev57 d)] 50 1124800395214812
     · exact mA 1 (ih _ _ h) 4 [tT 13 a,sA 20 b,cA 21 (ev55 c),sA 28 b,cA 29 (ev57 d),sA 37 b] 50 1124800395214812
  · exact mA 1 (ih _ _ h) 4 [tF 13 a] 50 1124800395214812
 |.h1 ..,h=>by
  replace h:=qa h;rcases h with⟨rfl,h⟩|⟨rfl,h⟩
  · exact mA 1 (ih _ _ h) 5 [] 50 1125899906842588
  · obtain⟨a,h⟩:=zo h;cases h;exact mF 1 [xS 49 a]
theorem ev73 {k:Nat}{a:Int}{b:By}{c:Int}{r:R73}(h:g73 k a b c=some r):E73 a b c r:=qux (ok73 _ _ _ h)
inductive S65 where
 |e (a:By)
 |h0 (a:Bool)
abbrev R65:=Bool
def qtL:R65→ARes
 |r=>.ret (.c (bc r))
def bx65:R65→List (List Cell)
 |_=>[]
noncomputable def qrB (k:Nat)(rec:S65→Option R65):S65→Option R65
 |.e a=>
  bif a.toList==(strB [80,65,84,84,69,82,78]).toList then
   rec (.h0 true)
  else
   bif a.toList==(strB [83,69,81]).toList then
    rec (.h0 true)
   else
    bif a.toList==(strB [87,72,69,82,69]).toList then
     rec (.h0 true)
    else
     bif a.toList==(strB [83,84,82,65,84,69,71,89]).toList then
      rec (.h0 true)
     else
      bif a.toList==(strB [87,73,84,72,73,78]).toList then
       rec (.h0 true)
      else
       bif a.toList==(strB [80,65,82,84,73,84,73,79,78]).toList then
        rec (.h0 true)
       else
        bif a.toList==(strB [66,89]).toList then
         rec (.h0 true)
        else
         bif a.toList==(strB [83,84,82,73,67,84]).toList then
          rec (.h0 true)
         else
          bif a.toList==(strB [78,69,88,84]).toList then
           rec (.h0 true)
          else
           bif a.toList==(strB [65,78,89]).toList then
            rec (.h0 true)
           else
            bif a.toList==(strB [65,78,68]).toList then
             rec (.h0 true)
            else
             bif a.toList==(strB [79,82]).toList then
              rec (.h0 true)
             else
              bif a.toList==(strB [78,79,84]).toList then
               rec (.h0 true)
              else
               bif a.toList==(strB [84,82,85,69]).toList then
                rec (.h0 true)
               else
                bif a.toList==(strB [70,65,76,83,69]).toList then
                 rec (.h0 true)
                else
                 bif a.toList==(strB [84,73,77,69]).toList then
                  rec (.h0 true)
                 else
                  bif a.toList==(strB [82,69,65,76]).toList then
                   rec (.h0 true)
                  else
                   bif a.toList==(strB [73,83,78,65,78]).toList then
                    rec (.h0 true)
                   else
                    bif a.toList==(strB [67,79,85,78,84]).toList then
                     rec (.h0 true)
                    else
                     bif a.toList==(strB [70,73,82,83,84]).toList then
                      rec (.h0 true)
                     else
                      bif a.toList==(strB [76,65,83,84]).toList then
                       rec (.h0 true)
                      else
                       bif a.toList==(strB [83,85,77]).toList then
                        rec (.h0 true)
                       else
                        bif a.toList==(strB [77,73,78]).toList then
                         rec (.h0 true)
                        else
                         bif a.toList==(strB [77,65,88]).toList then
                          rec (.h0 true)
                         else
                          rec (.h0 (a.toList==(strB [77,69,65,78]).toList))
 |.h0 a=>
  bif a then
   some true
  else
   some false
noncomputable def g65 (k:Nat)(a:By):Option R65:=itS qrB k (.e a)
noncomputable def P65:S65→R65→Prop
 |.e a,r=>Fin cx65 Tryz.f65 [.code qsW] (fr0 Tryz.f65 [.c (sc a)] []) (qtL r) (bx65 r)
 |.h0 a,r=>Fin cx65 Tryz.f65 (kAt qsW [1,0,1,0,1,2] []) ⟨rep 4 .deadv++[.c (bc a)]++rep 25 .deadv,[]⟩ (qtL r) (bx65 r)
abbrev E65 (a:By)(r:R65):Prop:=Ev Tryz.prog noHand 65 [.c (sc a)] [] (qtL r) (bx65 r)
theorem qus {a:By}{r:R65}(h:P65 (.e a) r):E65 a r:=evF h
theorem ok65:∀ k s r,itS qrB k s=some r→P65 s r:=qF fun k rec ih s r h=>match s,h with
 |.e ..,h=>by
  rcases qa h with⟨a,h⟩|⟨a,h⟩
  · exact mA 0 (ih _ _ h) 11 [tT 5 a] 30 1073741807
  ·
   rcases qa h with⟨b,h⟩|⟨b,h⟩
   · exact mA 0 (ih _ _ h) 14 [tF 5 a,tT 6 b] 30 1073741807
   ·
    rcases qa h with⟨c,h⟩|⟨c,h⟩
    · exact mA 0 (ih _ _ h) 17 [tF 5 a,tF 6 b,tT 7 c] 30 1073741807
    ·
     rcases qa h with⟨d,h⟩|⟨d,h⟩
     · exact mA 0 (ih _ _ h) 20 [tF 5 a,tF 6 b,tF 7 c,tT 8 d] 30 1073741807
     ·
      rcases qa h with⟨e,h⟩|⟨e,h⟩
      · exact mA 0 (ih _ _ h) 23 [tF 5 a,tF 6 b,tF 7 c,tF 8 d,tT 9 e] 30 1073741807
      ·
       rcases qa h with⟨f,h⟩|⟨f,h⟩
       · exact mA 0 (ih _ _ h) 26 [tF 5 a,tF 6 b,tF 7 c,tF 8 d,tF 9 e,tT 10 f] 30 1073741807
       ·
        rcases qa h with⟨g,h⟩|⟨g,h⟩
        · exact mA 0 (ih _ _ h) 29 [tF 5 a,tF 6 b,tF 7 c,tF 8 d,tF 9 e,tF 10 f,tT 11 g] 30 1073741807
        ·
         rcases qa h with⟨i,h⟩|⟨i,h⟩
         · exact mA 0 (ih _ _ h) 32 [tF 5 a,tF 6 b,tF 7 c,tF 8 d,tF 9 e,tF 10 f,tF 11 g,tT 12 i] 30 1073741807
         ·
          rcases qa h with⟨j,h⟩|⟨j,h⟩
          · exact mA 0 (ih _ _ h) 35 [tF 5 a,tF 6 b,tF 7 c,tF 8 d,tF 9 e,tF 10 f,tF 11 g,tF 12 i,tT 13 j] 30 1073741807
          ·
           rcases qa h with⟨l,h⟩|⟨l,h⟩
           · exact mA 0 (ih _ _ h) 38 [tF 5 a,tF 6 b,tF 7 c,tF 8 d,tF 9 e,tF 10 f,tF 11 g,tF 12 i,tF 13 j,tT 14 l] 30 1073741807
           ·
            rcases qa h with⟨m,h⟩|⟨m,h⟩
            · exact mA 0 (ih _ _ h) 41 [tF 5 a,tF 6 b,tF 7 c,tF 8 d,tF 9 e,tF 10 f,tF 11 g,tF 12 i,tF 13 j,tF 14 l,tT 15 m] 30 1073741807
            ·
             rcases qa h with⟨n,h⟩|⟨n,h⟩
             · exact mA 0 (ih _ _ h) 44 [tF 5 a,tF 6 b,tF 7 c,tF 8 d,tF 9 e,tF 10 f,tF 11 g,tF 12 i,tF 13 j,tF 14 l,tF 15 m,tT 16 n] 30 1073741807
             ·
              rcases qa h with⟨o,h⟩|⟨o,h⟩
              · exact mA 0 (ih _ _ h) 47 [tF 5 a,tF 6 b,tF 7 c,tF 8 d,tF 9 e,tF 10 f,tF 11 g,tF 12 i,tF 13 j,tF 14 l,tF 15 m,tF 16 n,tT 17 o] 30 1073741807
              ·
               rcases qa h with⟨p,h⟩|⟨p,h⟩
               · exact mA 0 (ih _ _ h) 50 [tF 5 a,tF 6 b,tF 7 c,tF 8 d,tF 9 e,tF 10 f,tF 11 g,tF 12 i,tF 13 j,tF 14 l,tF 15 m,tF 16 n,tF 17 o,tT 18 p] 30 1073741807
               ·
                rcases qa h with⟨q,h⟩|⟨q,h⟩
                · exact mA 0 (ih _ _ h) 53 [tF 5 a,tF 6 b,tF 7 c,tF 8 d,tF 9 e,tF 10 f,tF 11 g,tF 12 i,tF 13 j,tF 14 l,tF 15 m,tF 16 n,tF 17 o,tF 18 p,tT 19 q] 30 1073741807
                ·
                 rcases qa h with⟨t,h⟩|⟨t,h⟩
                 · exact mA 0 (ih _ _ h) 56 [tF 5 a,tF 6 b,tF 7 c,tF 8 d,tF 9 e,tF 10 f,tF 11 g,tF 12 i,tF 13 j,tF 14 l,tF 15 m,tF 16 n,tF 17 o,tF 18 p,tF 19 q,tT 20 t] 30 1073741807
                 ·
                  rcases qa h with⟨u,h⟩|⟨u,h⟩
                  · exact mA 0 (ih _ _ h) 59 [tF 5 a,tF 6 b,tF 7 c,tF 8 d,tF 9 e,tF 10 f,tF 11 g,tF 12 i,tF 13 j,tF 14 l,tF 15 m,tF 16 n,tF 17 o,tF 18 p,tF 19 q,tF 20 t,tT 21 u] 30 1073741807
                  ·
                   rcases qa h with⟨v,h⟩|⟨v,h⟩
                   · exact mA 0 (ih _ _ h) 62 [tF 5 a,tF 6 b,tF 7 c,tF 8 d,tF 9 e,tF 10 f,tF 11 g,tF 12 i,tF 13 j,tF 14 l,tF 15 m,tF 16 n,tF 17 o,tF 18 p,tF 19 q,tF 20 t,tF 21 u,tT 22 v] 30 1073741807
                   · rcases qa h with⟨w,h⟩|⟨w,h⟩
                     · exact mA 0 (ih _ _ h) 65 [tF 5 a,tF 6 b,tF 7 c,tF 8 d,tF 9 e,tF 10 f,tF 11 g,tF 12 i,tF 13 j,tF 14 l,tF 15 m,tF 16 n,tF 17 o,tF 18 p,tF 19 q,tF 20 t,tF 21 u,tF 22 v,tT 23 w] 30 1073741807
                     · rcases qa h with⟨x,h⟩|⟨x,h⟩
                       · exact mA 0 (ih _ _ h) 68 [tF 5 a,tF 6 b,tF 7 c,tF 8 d,tF 9 e,tF 10 f,tF 11 g,tF 12 i,tF 13 j,tF 14 l,tF 15 m,tF 16 n,tF 17 o,tF 18 p,tF 19 q,tF 20 t,tF 21 u,tF 22 v,tF 23 w,tT 24 x] 30 1073741807
                       · rcases qa h with⟨y,h⟩|⟨y,h⟩
                         · exact mA 0 (ih _ _ h) 71 [tF 5 a,tF 6 b,tF 7 c,tF 8 d,tF 9 e,tF 10 f,tF 11 g,tF 12 i,tF 13 j,tF 14 l,tF 15 m,tF 16 n,tF 17 o,tF 18 p,tF 19 q,tF 20 t,tF 21 u,tF 22 v,tF 23 w,tF 24 x,tT 25 y] 30 1073741807
                         · rcases qa h with⟨z,h⟩|⟨z,h⟩
                           · exact mA 0 (ih _ _ h) 74 [tF 5 a,tF 6 b,tF 7 c,tF 8 d,tF 9 e,tF 10 f,tF 11 g,tF 12 i,tF 13 j,tF 14 l,tF 15 m,tF 16 n,tF 17 o,tF 18 p,tF 19 q,tF 20 t,tF 21 u,tF 22 v,tF 23 w,tF 24 x,tF 25 y,tT 26 z] 30 1073741807
                           · rcases qa h with⟨a1,h⟩|⟨a1,h⟩
                             · exact mA 0 (ih _ _ h) 77 [tF 5 a,tF 6 b,tF 7 c,tF 8 d,tF 9 e,tF 10 f,tF 11 g,tF 12 i,tF 13 j,tF 14 l,tF 15 m,tF 16 n,tF 17 o,tF 18 p,tF 19 q,tF 20 t,tF 21 u,tF 22 v,tF 23 w,tF 24 x,tF 25 y,tF 26 z,tT 27 a1] 30 1073741807
                             · rcases qa h with⟨b1,h⟩|⟨b1,h⟩
                               · exact mA 0 (ih _ _ h) 80 [tF 5 a,tF 6 b,tF 7 c,tF 8 d,tF 9 e,tF 10 f,tF 11 g,tF 12 i,tF 13 j,tF 14 l,tF 15 m,tF 16 n,tF 17 o,tF 18 p,tF 19 q,tF 20 t,tF 21 u,tF 22 v,tF 23 w,tF 24 x,tF 25 y,tF 26 z,tF 27 a1,tT 28 b1] 30 1073741807
                               · exact mA 0 (ih _ _ h) 80 [tF 5 a,tF 6 b,tF 7 c,tF 8 d,tF 9 e,tF 10 f,tF 11 g,tF 12 i,tF 13 j,tF 14 l,tF 15 m,tF 16 n,tF 17 o,tF 18 p,tF 19 q,tF 20 t,tF 21 u,tF 22 v,tF 23 w,tF 24 x,tF 25 y,tF 26 z,tF 27 a1,tF 28 b1] 30 1073741807
 |.h0 ..,h=>by
  replace h:=qa h;rcases h with⟨rfl,h⟩|⟨rfl,h⟩
  · cases h;exact mF 0 []
  · cases h;exact mF 0 []
theorem ev65 {k:Nat}{a:By}{r:R65}(h:g65 k a=some r):E65 a r:=qus (ok65 _ _ _ h)
inductive S56 where
 |e (a:By)(b:Int)
abbrev R56:=(Int×By×Int×Int×Int×Int)⊕(Int×Int)
def qtK:R56→ARes
 |(.inl (a,b,c,d,e,_))=>.ret (.ag [ic a,sc b,ic c,ic d,ic e])
 |(.inr (a,_))=>.panic (.iface 84 (.agg #[.int .i64 a]))
def bx56 (b0_0:ByteArray):R56→List (List Cell)
 |(.inl (_,_,_,_,_,a))=>[[sc b0_0,ic a]]
 |(.inr (_,a))=>[[sc b0_0,ic a]]
noncomputable def qsv (k:Nat)(rec:S56→Option R56):S56→Option R56
 |.e a b=>
  (g73 k b a b).bind fun c=>
  (g65 k c).bind fun d=>
  bif d then
   some (.inl (1,c,0,0,b,IntKind.i64.wrap (b+(c.size:Int))))
  else
   (YF c).bind fun e=>
   bif e then
    some (.inl (2,c,0,0,b,IntKind.i64.wrap (b+(c.size:Int))))
   else
    some (.inr (b,IntKind.i64.wrap (b+(c.size:Int))))
noncomputable def g56 (k:Nat)(a:By)(b:Int):Option R56:=itS qsv k (.e a b)
noncomputable def P56:S56→R56→Prop
 |.e a b,r=>Fin cx56 Tryz.f56 [.code qsV] (fr0 Tryz.f56 [pP 0] [[sc a,ic b]]) (qtK r) (bx56 a r)
abbrev E56 (a:By)(b:Int)(r:R56):Prop:=Ev Tryz.prog noHand 56 [pP 0] [[sc a,ic b]] (qtK r) (bx56 a r)
theorem qup {a:By}{b:Int}{r:R56}(h:P56 (.e a b) r):E56 a b r:=evF h
theorem ok56:∀ k s r,itS qsv k s=some r→P56 s r:=qF fun k rec ih s r h=>match s,h with
 |.e a b,h=>by
  obtain⟨c,d,h⟩:=qh h;obtain⟨_,e,h⟩:=qh h;replace h:=qa h;rcases h with⟨rfl,h⟩|⟨rfl,h⟩
  · cases h;exact mF 1 [⟨(some 9999,.alt 5 9),[_],⟨(rfl:(⟨[pP 0,.undef,pL 2,.c (sc c),.c (ic b),pP 0,pP 0,pP 0,.c (.ptr ⟨⟨.par 0,[]⟩,0,1⟩),.c (ic b),.c (sc c),pP 0,pP 0,.c (.ptr ⟨⟨.par 0,[]⟩,0,1⟩),.c (ic b)]++rep 24 .undef,[(.loc 2,[ic 0,sc (strB []),ic 0,ic 0,ic 0]),(.par 0,[sc a,ic b])]⟩:Fr)=⟨[pP 0,.undef,pL 2,.c (sc c),.c (ic b),pP 0,pP 0,pP 0,.c (.ptr ⟨⟨.par 0,[]⟩,0,1⟩),.c (ic b),.c (sc c),pP 0,pP 0,.c (.ptr ⟨⟨.par 0,[]⟩,0,1⟩),.c (ic b)]++rep 24 .undef,[(.loc 2,[ic 0,sc (strB []),ic 0,ic 0,ic 0]),(.par 0,[sc a,ic b])]⟩),trivial⟩⟩,cA 10 (ev73 d),cA 10 (ev73 d),cA 26 (ev65 e)]
  · obtain⟨_,f,h⟩:=qh h;replace h:=qa h;rcases h with⟨rfl,h⟩|⟨rfl,h⟩
    · cases h;exact mF 1 [⟨(some 9999,.alt 5 9),[_],⟨(rfl:(⟨[pP 0,.undef,pL 2,.c (sc c),.c (ic b),pP 0,pP 0,pP 0,.c (.ptr ⟨⟨.par 0,[]⟩,0,1⟩),.c (ic b),.c (sc c),pP 0,pP 0,.c (.ptr ⟨⟨.par 0,[]⟩,0,1⟩),.c (ic b)]++rep 24 .undef,[(.loc 2,[ic 0,sc (strB []),ic 0,ic 0,ic 0]),(.par 0,[sc a,ic b])]⟩:Fr)=⟨[pP 0,.undef,pL 2,.c (sc c),.c (ic b),pP 0,pP 0,pP 0,.c (.ptr ⟨⟨.par 0,[]⟩,0,1⟩),.c (ic b),.c (sc c),pP 0,pP 0,.c (.ptr ⟨⟨.par 0,[]⟩,0,1⟩),.c (ic b)]++rep 24 .undef,[(.loc 2,[ic 0,sc (strB []),ic 0,ic 0,ic 0]),(.par 0,[sc a,ic b])]⟩),trivial⟩⟩,cA 10 (ev73 d),cA 10 (ev73 d),cA 26 (ev65 e),cA 32 (qi f)]
    · cases h;exact mF 1 [⟨(some 9999,.alt 5 9),[_],⟨(rfl:(⟨[pP 0,.undef,pL 2,.c (sc c),.c (ic b),pP 0,pP 0,pP 0,.c (.ptr ⟨⟨.par 0,[]⟩,0,1⟩),.c (ic b),.c (sc c),pP 0,pP 0,.c (.ptr ⟨⟨.par 0,[]⟩,0,1⟩),.c (ic b)]++rep 24 .undef,[(.loc 2,[ic 0,sc (strB []),ic 0,ic 0,ic 0]),(.par 0,[sc a,ic b])]⟩:Fr)=⟨[pP 0,.undef,pL 2,.c (sc c),.c (ic b),pP 0,pP 0,pP 0,.c (.ptr ⟨⟨.par 0,[]⟩,0,1⟩),.c (ic b),.c (sc c),pP 0,pP 0,.c (.ptr ⟨⟨.par 0,[]⟩,0,1⟩),.c (ic b)]++rep 24 .undef,[(.loc 2,[ic 0,sc (strB []),ic 0,ic 0,ic 0]),(.par 0,[sc a,ic b])]⟩),trivial⟩⟩,cA 10 (ev73 d),cA 10 (ev73 d),cA 26 (ev65 e),cA 32 (qi f)]
theorem ev56 {k:Nat}{a:By}{b:Int}{r:R56}(h:g56 k a b=some r):E56 a b r:=qup (ok56 _ _ _ h)
inductive S74 where
 |e (a:Int)(b:By)(c:Int)
 |h0 (a b:Int)(c:By)(d:Int)
 |h1 (a b:Int)(c:Bool)(d:By)(e:Int)
abbrev R74:=By
def qrW:R74→ARes
 |r=>.ret (.c (sc r))
def bx74 (b0_0:ByteArray)(b0_1:Int):R74→List (List Cell)
 |_=>[[sc b0_0,ic b0_1]]
noncomputable def qpu (k:Nat)(rec:S74→Option R74):S74→Option R74
 |.e a b c=>rec (.h0 a a b c)
 |.h0 a b c d=>
  bif decide (b<(c.size:Int))then
   sxI c b fun e=>
   (g57 k e).bind fun f=>
   rec (.h1 a b f c d)
  else
   rec (.h1 a b false c d)
 |.h1 a b c d e=>
  bif c then
   rec (.h0 a (IntKind.i64.wrap (b+1)) d e)
  else
   gd (decide (0≤a∧a≤b∧b≤(d.size:Int))) <|
   some (d.extract (Int.toNat a) (Int.toNat b))
noncomputable def g74 (k:Nat)(a:Int)(b:By)(c:Int):Option R74:=itS qpu k (.e a b c)
noncomputable def P74:S74→R74→Prop
 |.e a b c,r=>Fin cx74 Tryz.f74 [.code qrg] (fr0 Tryz.f74 [pP 0,.c (ic a)] [[sc b,ic c]]) (qrW r) (bx74 b c r)
 |.h0 a b c d,r=>Fin cx74 Tryz.f74 (kAt qrg [1,1,0,0,4] []) ⟨[pP 0,.c (ic a)]++rep 3 .deadv++[.c (ic b)]++rep 26 .deadv,[(.par 0,[sc c,ic d])]⟩ (qrW r) (bx74 c d r)
 |.h1 a b c d e,r=>Fin cx74 Tryz.f74 (kAt qrg [1,1,0,0,0,0,1,2] []) ⟨[pP 0,.c (ic a)]++rep 3 .deadv++[.c (ic b)]++rep 16 .deadv++[.c (bc c)]++rep 9 .deadv,[(.par 0,[sc d,ic e])]⟩ (qrW r) (bx74 d e r)
abbrev E74 (a:Int)(b:By)(c:Int)(r:R74):Prop:=Ev Tryz.prog noHand 74 [pP 0,.c (ic a)] [[sc b,ic c]] (qrW r) (bx74 b c r)
theorem quy {a:Int}{b:By}{c:Int}{r:R74}(h:P74 (.e a b c) r):E74 a b c r:=evF h
theorem ok74:∀ k s r,itS qpu k s=some r→P74 s r:=qF fun k rec ih s r h=>match s,h with
 |.e ..,h=>by exact mA 1 (ih _ _ h) 7 [] 32 4294967260
 |.h0 ..,h=>by
  rcases qa h with⟨a,h⟩|⟨a,h⟩
  · obtain⟨_,b,h⟩:=Xm h;obtain⟨_,c,h⟩:=qh h;exact mA 1 (ih _ _ h) 4 [tT 13 a,sA 20 b,cA 21 (ev57 c)] 32 4290772956
  · exact mA 1 (ih _ _ h) 4 [tF 13 a] 32 4290772956
 |.h1 ..,h=>by
  replace h:=qa h;rcases h with⟨rfl,h⟩|⟨rfl,h⟩
  · exact mA 1 (ih _ _ h) 5 [] 32 4294967260
  · obtain⟨a,h⟩:=zo h;cases h;exact mF 1 [xS 31 a]
theorem ev74 {k:Nat}{a:Int}{b:By}{c:Int}{r:R74}(h:g74 k a b c=some r):E74 a b c r:=quy (ok74 _ _ _ h)
inductive S58 where
 |e (a:By)(b:Int)
 |h0 (a:Int)(b c:By)(d:Bool)(e:Int)(f:By)(g i j:Int)(l:By)(m:Int)
 |h1 (a:Int)(b c:By)(d:Int)(e:By)(f g i:Int)(j:By)(l:Int)
 |h2 (a:Int)(b c:By)(d:Bool)(e:Int)(f:By)(g i j:Int)(l:By)(m:Int)
abbrev R58:=(Int×Int)⊕(Int×By×Int×Int×Int×Int)
def qwE:R58→ARes
 |(.inl (a,_))=>.panic (.iface 84 (.agg #[.int .i64 a]))
 |(.inr (a,b,c,d,e,_))=>.ret (.ag [ic a,sc b,ic c,ic d,ic e])
def bx58 (b0_0:ByteArray):R58→List (List Cell)
 |(.inl (_,a))=>[[sc b0_0,ic a]]
 |(.inr (_,_,_,_,_,a))=>[[sc b0_0,ic a]]
noncomputable def qxN (k:Nat)(rec:S58→Option R58):S58→Option R58
 |.e a b=>
  (g74 k b a b).bind fun c=>
  bif decide ((IntKind.i64.wrap (b+(c.size:Int)))<(a.size:Int))then
   sxI a (IntKind.i64.wrap (b+(c.size:Int))) fun d=>
   rec (.h0 b c (strB []) (d==46) 0 (strB []) 0 0 0 a (IntKind.i64.wrap (b+(c.size:Int))))
  else
   rec (.h0 b c (strB []) false 0 (strB []) 0 0 0 a (IntKind.i64.wrap (b+(c.size:Int))))
 |.h0 a b c d e f g i j l m=>
  bif d then
   (g74 k (IntKind.i64.wrap (m+1)) l m).bind fun n=>
   rec (.h1 a b n e f g i j l m)
  else
   rec (.h1 a b c e f g i j l m)
 |.h1 a b c d e f g i j l=>
  bif decide ((b.size:Int)>1)then
   sxI b 0 fun m=>
   rec (.h2 a b c (m==48) d e f g i j l)
  else
   rec (.h2 a b c false d e f g i j l)
 |.h2 b c d e _ _ _ _ _ _ f=>
  bif e then
   some (.inl (b,f))
  else
   bif d.toList==(strB []).toList then
    (qag c).bind fun g=>
    optC g (
      some (.inl (b,f))) fun i=>
     some (.inr (3,strB [],i,0,b,f))
   else
    bif decide ((IntKind.i64.wrap ((c.size:Int)+(d.size:Int)))>15)then
     some (.inl (b,f))
    else
     gd (decide (c.size+d.size≤1000000000)) <|
     (qag (c++d)).bind fun i=>
     optC i (
       none   /- a result that hangs on what is not told -/) fun j=>
      some (.inr (4,strB [],j,(d.size:Int),b,IntKind.i64.wrap (f+(IntKind.i64.wrap ((1:Int)+(d.size:Int))))))
noncomputable def g58 (k:Nat)(a:By)(b:Int):Option R58:=itS qxN k (.e a b)
noncomputable def P58:S58→R58→Prop
 |.e a b,r=>Fin cx58 Tryz.f58 [.code qvK] (fr0 Tryz.f58 [pP 0] [[sc a,ic b]]) (qwE r) (bx58 a r)
 |.h0 a b c d e f g i j l m,r=>Fin cx58 Tryz.f58 (kAt qvK [1,1,1,1,1,0,1,2] []) ⟨[pP 0,.deadv,pL 2,.c (ic a),.c (sc b),.c (sc c)]++rep 41 .deadv++[.c (bc d)]++rep 64 .deadv,[(.loc 2,[ic e,sc f,ic g,ic i,ic j]),(.par 0,[sc l,ic m])]⟩ (qwE r) (bx58 l r)
 |.h1 a b c d e f g i j l,r=>Fin cx58 Tryz.f58 (kAt qvK [1,1,1,1,1,1,2] []) ⟨[pP 0,.deadv,pL 2,.c (ic a),.c (sc b),.c (sc c)]++rep 106 .deadv,[(.loc 2,[ic d,sc e,ic f,ic g,ic i]),(.par 0,[sc j,ic l])]⟩ (qwE r) (bx58 j r)
 |.h2 a b c d e f g i j l m,r=>Fin cx58 Tryz.f58 (kAt qvK [1,1,1,1,1,1,0,1,2] []) ⟨[pP 0,.deadv,pL 2,.c (ic a),.c (sc b),.c (sc c)]++rep 56 .deadv++[.c (bc d)]++rep 49 .deadv,[(.loc 2,[ic e,sc f,ic g,ic i,ic j]),(.par 0,[sc l,ic m])]⟩ (qwE r) (bx58 l r)
abbrev E58 (a:By)(b:Int)(r:R58):Prop:=Ev Tryz.prog noHand 58 [pP 0] [[sc a,ic b]] (qwE r) (bx58 a r)
theorem qzi {a:By}{b:Int}{r:R58}(h:P58 (.e a b) r):E58 a b r:=evF h
theorem ok58:∀ k s r,itS qxN k s=some r→P58 s r:=qF fun k rec ih s r h=>match s,h with
 |.e ..,h=>by
  obtain⟨_,a,h⟩:=qh h;rcases qa h with⟨b,h⟩|⟨b,h⟩
  · obtain⟨_,c,h⟩:=Xm h;exact mA 1 (ih _ _ h) 13 [cA 16 (ev74 a),tT 35 b,sA 45 c] 112 5192296858534827628389758840864706
  · exact mA 1 (ih _ _ h) 13 [cA 16 (ev74 a),tF 35 b] 112 5192296858534827628389758840864706
 |.h0 ..,h=>by
  replace h:=qa h;rcases h with⟨rfl,h⟩|⟨rfl,h⟩
  · obtain⟨_,a,h⟩:=qh h;exact mA 1 (ih _ _ h) 2 [cA 54 (ev74 a)] 112 5192296858534827628530496329220034
  · exact mA 1 (ih _ _ h) 2 [] 112 5192296858534827628530496329220034
 |.h1 ..,h=>by
  rcases qa h with⟨a,h⟩|⟨a,h⟩
  · obtain⟨_,b,h⟩:=Xm h;exact mA 1 (ih _ _ h) 3 [tT 57 a,sA 60 b] 112 5192296858534823016844477901832130
  · exact mA 1 (ih _ _ h) 3 [tF 57 a] 112 5192296858534823016844477901832130
 |.h2 a b c _ d e f g i l o,h=>by
  replace h:=qa h;rcases h with⟨rfl,h⟩|⟨rfl,h⟩
  · cases h;exact mF 1 []
  ·
   rcases qa h with⟨p,h⟩|⟨p,h⟩
   · obtain⟨_,q,h⟩:=qh h;replace h:=qgU h;rcases h with⟨_,rfl,h⟩|⟨rfl,h⟩
     · cases h;exact mF 1 [tT 67 p,cA 70 (qdZ q)]
     · rw[← aR h];exact qhs (nb:=1) hmix (qjh (qga q) (K0:=(kAt qvK [1,1,1,1,1,1,1,0,1,0,0,2] [])) (F:=⟨[pP 0,.deadv,pL 2,.c (ic a),.c (sc b),.c (sc c)]++rep 56 .deadv++[.c (bc false)]++rep 3 .deadv++[.c (sc c),.c (bc true)]++rep 44 .deadv,[(.loc 2,[ic d,sc e,ic f,ic g,ic i]),(.par 0,[sc l,ic o])]⟩) (K1:=(kAt qvK [1,1,1,1,1,1,1,0,1,0,0,3] [])) (F3:=fun xe1=>⟨[pP 0,.deadv,pL 2,.c (ic a),.c (sc b),.c (sc c),.c (ic xe1.1),.c (.val (.iface 141 (.pointer (some ⟨xe1.2,0,none⟩))))]++rep 54 .deadv++[.c (bc false)]++rep 3 .deadv++[.c (sc c),.c (bc true),⟨.tup [false,false],[[ic xe1.1],[.val (.iface 141 (.pointer (some ⟨xe1.2,0,none⟩)))]]⟩,.c (sc b),⟨.tup [false,false],[[ic xe1.1],[.val (.iface 141 (.pointer (some ⟨xe1.2,0,none⟩)))]]⟩,.c (ic xe1.1),.c (.val (.iface 141 (.pointer (some ⟨xe1.2,0,none⟩))))]++rep 39 .deadv,[(.loc 2,[ic d,sc e,ic f,ic g,ic i]),(.par 0,[sc l,ic o])]⟩) (j:=1) (ad1:=[]) (ad2:=fun xe1=>[]) (ps:=fun xe1=>[isX 75 [.c (sc b),.c (ic 10),.c (ic 64)] (ZY xe1) 75 [.c (sc b),.c (ic 10),.c (ic 64)] [] (.ret (ZY xe1)) []]) (thaw:=true) ((0,0)) (fun xe1=>zO (nb:=1) hmix (n:=2000) (ad:=[]) (ps:=[]) (by kernel_rfl) trivial) (fun xe1=>by kernel_rfl) (fun xe1=>⟨⟨rfl,rfl,rfl,rfl,rfl⟩,trivial⟩)) (n:=7) (ad:=[(some 67,.test true)]) (ps:=[_]) (m:=bm 112 0) (ls:=[]) (cs:=[]) (by kernel_rfl) ⟨p,trivial⟩
   ·
    rcases qa h with⟨t,h⟩|⟨t,h⟩
    · cases h;exact mF 1 [tF 67 p,tT 86 t]
    · obtain⟨q,h⟩:=zo h;obtain⟨_,u,h⟩:=qh h;replace h:=qgU h;rcases h with⟨_,rfl,h⟩|⟨rfl,h⟩
      · cases h;exact mF 1 [tF 67 p,tF 86 t,xC 103 q,cA 104 (qdZ u)]
      · cases h
theorem ev58 {k:Nat}{a:By}{b:Int}{r:R58}(h:g58 k a b=some r):E58 a b r:=qzi (ok58 _ _ _ h)
inductive S59 where
 |e (a:By)(b:Int)
 |h0 (a:Int)(b:By)(c:Int)(d:Bool)(e:Int)(f:By)(g i j:Int)(l:By)(m:Int)
abbrev R59:=(Int×Int)⊕(Int×By×Int×Int×Int×Int)
def qmp:R59→ARes
 |(.inl (a,_))=>.panic (.iface 84 (.agg #[.int .i64 a]))
 |(.inr (a,b,c,d,e,_))=>.ret (.ag [ic a,sc b,ic c,ic d,ic e])
def bx59 (b0_0:ByteArray):R59→List (List Cell)
 |(.inl (_,a))=>[[sc b0_0,ic a]]
 |(.inr (_,_,_,_,_,a))=>[[sc b0_0,ic a]]
noncomputable def qxO (k:Nat)(rec:S59→Option R59):S59→Option R59
 |.e a b=>
  (g73 k (IntKind.i64.wrap (b+1)) a b).bind fun c=>
  (YF c).bind fun d=>
  bif !d then
   rec (.h0 b c (IntKind.i64.wrap ((IntKind.i64.wrap (b+1))+(c.size:Int))) true 0 (strB []) 0 0 0 a b)
  else
   bif (IntKind.i64.wrap ((IntKind.i64.wrap (b+1))+(c.size:Int)))==(a.size:Int)then
    rec (.h0 b c (IntKind.i64.wrap ((IntKind.i64.wrap (b+1))+(c.size:Int))) true 0 (strB []) 0 0 0 a b)
   else
    sxI a (IntKind.i64.wrap ((IntKind.i64.wrap (b+1))+(c.size:Int))) fun e=>
    rec (.h0 b c (IntKind.i64.wrap ((IntKind.i64.wrap (b+1))+(c.size:Int))) (e != 39) 0 (strB []) 0 0 0 a b)
 |.h0 a b c d _ _ _ _ _ _ e=>
  bif d then
   some (.inl (a,e))
  else
   some (.inr (5,b,0,0,a,IntKind.i64.wrap (c+1)))
noncomputable def g59 (k:Nat)(a:By)(b:Int):Option R59:=itS qxO k (.e a b)
noncomputable def P59:S59→R59→Prop
 |.e a b,r=>Fin cx59 Tryz.f59 [.code qgO] (fr0 Tryz.f59 [pP 0] [[sc a,ic b]]) (qmp r) (bx59 a r)
 |.h0 a b c d e f g i j l m,r=>Fin cx59 Tryz.f59 (kAt qgO [1,1,1,1,0,1,2] []) ⟨[pP 0,.deadv,pL 2,.c (ic a),.c (sc b),.c (ic c)]++rep 33 .deadv++[.c (bc d)]++rep 11 .deadv,[(.loc 2,[ic e,sc f,ic g,ic i,ic j]),(.par 0,[sc l,ic m])]⟩ (qmp r) (bx59 l r)
abbrev E59 (a:By)(b:Int)(r:R59):Prop:=Ev Tryz.prog noHand 59 [pP 0] [[sc a,ic b]] (qmp r) (bx59 a r)
theorem qgv {a:By}{b:Int}{r:R59}(h:P59 (.e a b) r):E59 a b r:=evF h
theorem ok59:∀ k s r,itS qxO k s=some r→P59 s r:=qF fun k rec ih s r h=>match s,h with
 |.e ..,h=>by
  obtain⟨_,a,h⟩:=qh h;obtain⟨_,b,h⟩:=qh h;rcases qa h with⟨c,h⟩|⟨c,h⟩
  · exact mA 1 (ih _ _ h) 11 [cA 13 (ev73 a),cA 20 (qi b),tT 21 c] 51 2251250057871298
  · rcases qa h with⟨d,h⟩|⟨d,h⟩
    · exact mA 1 (ih _ _ h) 11 [cA 13 (ev73 a),cA 20 (qi b),tF 21 c,tT 29 d] 51 2251250057871298
    · obtain⟨_,e,h⟩:=Xm h;exact mA 1 (ih _ _ h) 11 [cA 13 (ev73 a),cA 20 (qi b),tF 21 c,tF 29 d,sA 37 e] 51 2251250057871298
 |.h0 ..,h=>by
  replace h:=qa h;rcases h with⟨rfl,h⟩|⟨rfl,h⟩
  · cases h;exact mF 1 []
  · cases h;exact mF 1 []
theorem ev59 {k:Nat}{a:By}{b:Int}{r:R59}(h:g59 k a b=some r):E59 a b r:=qgv (ok59 _ _ _ h)
inductive S60 where
 |e (a:By)(b:Int)
 |h0 (a b c:Int)(d:Bool)(e:Int)(f:By)(g i j:Int)(l:By)(m:Int)
 |h1 (a b:Int)(c:Bool)(d:Int)(e:By)(f g i:Int)(j:By)(l:Int)
 |h2 (a b:Int)(c:Bool)(d:Int)(e:By)(f g i:Int)(j:By)(l:Int)
 |h3 (a b c:Int)(d:By)(e f g:Int)(i:By)(j:Int)
abbrev R60:=(Int×By×Int×Int×Int×Int)⊕(Int×Int)
def qjH:R60→ARes
 |(.inl (a,b,c,d,e,_))=>.ret (.ag [ic a,sc b,ic c,ic d,ic e])
 |(.inr (a,_))=>.panic (.iface 84 (.agg #[.int .i64 a]))
def bx60 (b0_0:ByteArray):R60→List (List Cell)
 |(.inl (_,_,_,_,_,a))=>[[sc b0_0,ic a]]
 |(.inr (_,a))=>[[sc b0_0,ic a]]
noncomputable def Zz (k:Nat)(rec:S60→Option R60):S60→Option R60
 |.e a b=>
  sxI a b fun c=>
  bif c==33 then
   rec (.h0 b 1 c true 0 (strB []) 0 0 0 a b)
  else
   bif c==60 then
    rec (.h0 b 1 c true 0 (strB []) 0 0 0 a b)
   else
    rec (.h0 b 1 c (c==62) 0 (strB []) 0 0 0 a b)
 |.h0 a b c d e f g i j l m=>
  bif d then
   bif decide ((IntKind.i64.wrap (a+1))<(l.size:Int))then
    sxI l (IntKind.i64.wrap (a+1)) fun n=>
    rec (.h1 a b (n==61) e f g i j l m)
   else
    rec (.h1 a b false e f g i j l m)
  else
   bif c==40 then
    rec (.h2 a b true e f g i j l m)
   else
    bif c==41 then
     rec (.h2 a b true e f g i j l m)
    else
     bif c==44 then
      rec (.h2 a b true e f g i j l m)
     else
      bif c==46 then
       rec (.h2 a b true e f g i j l m)
      else
       bif c==43 then
        rec (.h2 a b true e f g i j l m)
       else
        bif c==45 then
         rec (.h2 a b true e f g i j l m)
        else
         bif c==42 then
          rec (.h2 a b true e f g i j l m)
         else
          bif c==47 then
           rec (.h2 a b true e f g i j l m)
          else
           bif c==37 then
            rec (.h2 a b true e f g i j l m)
           else
            bif c==61 then
             rec (.h2 a b true e f g i j l m)
            else
             rec (.h2 a b (c==124) e f g i j l m)
 |.h1 a b c d e f g i j l=>
  bif c then
   rec (.h3 a 2 d e f g i j l)
  else
   rec (.h3 a b d e f g i j l)
 |.h2 a b c d e f g i j l=>
  bif c then
   rec (.h3 a b d e f g i j l)
  else
   some (.inr (a,l))
 |.h3 a b _ _ _ _ _ c d=>
  gd (decide (0≤a∧a≤(IntKind.i64.wrap (d+b))∧(IntKind.i64.wrap (d+b))≤(c.size:Int))) <|
  some (.inl (6,(c.extract (Int.toNat a) (Int.toNat (IntKind.i64.wrap (d+b)))),0,0,a,IntKind.i64.wrap (d+b)))
noncomputable def g60 (k:Nat)(a:By)(b:Int):Option R60:=itS Zz k (.e a b)
noncomputable def P60:S60→R60→Prop
 |.e a b,r=>Fin cx60 Tryz.f60 [.code qhX] (fr0 Tryz.f60 [pP 0] [[sc a,ic b]]) (qjH r) (bx60 a r)
 |.h0 a b c d e f g i j l m,r=>Fin cx60 Tryz.f60 (kAt qhX [1,1,1,1,0,1,0,0,0,0,0,0,0,1,2] []) ⟨[pP 0,.deadv,pL 2,.c (ic a),.deadv,.c (ic b)]++rep 10 .deadv++[.c (.val (.int .u8 c)),.c (bc d)]++rep 56 .deadv,[(.loc 2,[ic e,sc f,ic g,ic i,ic j]),(.par 0,[sc l,ic m])]⟩ (qjH r) (bx60 l r)
 |.h1 a b c d e f g i j l,r=>Fin cx60 Tryz.f60 (kAt qhX [1,1,1,1,0,1,0,0,0,1,1,2] []) ⟨[pP 0,.deadv,pL 2,.c (ic a),.deadv,.c (ic b)]++rep 44 .deadv++[.c (bc c)]++rep 23 .deadv,[(.loc 2,[ic d,sc e,ic f,ic g,ic i]),(.par 0,[sc j,ic l])]⟩ (qjH r) (bx60 j r)
 |.h2 a b c d e f g i j l,r=>Fin cx60 Tryz.f60 (kAt qhX [1,1,1,1,0,1,0,0,0,0,0,0,1,1,2] []) ⟨[pP 0,.deadv,pL 2,.c (ic a),.deadv,.c (ic b)]++rep 15 .deadv++[.c (bc c)]++rep 52 .deadv,[(.loc 2,[ic d,sc e,ic f,ic g,ic i]),(.par 0,[sc j,ic l])]⟩ (qjH r) (bx60 j r)
 |.h3 a b c d e f g i j,r=>Fin cx60 Tryz.f60 (kAt qhX [1,1,1,1,0,1,0,1,2] []) ⟨[pP 0,.deadv,pL 2,.c (ic a),.deadv,.c (ic b)]++rep 68 .deadv,[(.loc 2,[ic c,sc d,ic e,ic f,ic g]),(.par 0,[sc i,ic j])]⟩ (qjH r) (bx60 i r)
abbrev E60 (a:By)(b:Int)(r:R60):Prop:=Ev Tryz.prog noHand 60 [pP 0] [[sc a,ic b]] (qjH r) (bx60 a r)
theorem qoe {a:By}{b:Int}{r:R60}(h:P60 (.e a b) r):E60 a b r:=evF h
theorem ok60:∀ k s r,itS Zz k s=some r→P60 s r:=qF fun k rec ih s r h=>match s,h with
 |.e ..,h=>by
  obtain⟨_,a,h⟩:=Xm h;rcases qa h with⟨b,h⟩|⟨b,h⟩
  · exact mA 1 (ih _ _ h) 23 [sA 15 a,tT 18 b] 74 18889465931478580658130
  · rcases qa h with⟨c,h⟩|⟨c,h⟩
    · exact mA 1 (ih _ _ h) 26 [sA 15 a,tF 18 b,tT 19 c] 74 18889465931478580658130
    · exact mA 1 (ih _ _ h) 26 [sA 15 a,tF 18 b,tF 19 c] 74 18889465931478580658130
 |.h0 ..,h=>by
  replace h:=qa h;rcases h with⟨rfl,h⟩|⟨rfl,h⟩
  · rcases qa h with⟨a,h⟩|⟨a,h⟩
    · obtain⟨_,b,h⟩:=Xm h;exact mA 1 (ih _ _ h) 4 [tT 40 a,sA 48 b] 74 18889464805578674012114
    · exact mA 1 (ih _ _ h) 4 [tF 40 a] 74 18889464805578674012114
  ·
   rcases qa h with⟨a,h⟩|⟨a,h⟩
   · exact mA 1 (ih _ _ h) 7 [tT 22 a] 74 18889465931478578757586
   ·
    rcases qa h with⟨c,h⟩|⟨c,h⟩
    · exact mA 1 (ih _ _ h) 10 [tF 22 a,tT 23 c] 74 18889465931478578757586
    ·
     rcases qa h with⟨b,h⟩|⟨b,h⟩
     · exact mA 1 (ih _ _ h) 13 [tF 22 a,tF 23 c,tT 24 b] 74 18889465931478578757586
     ·
      rcases qa h with⟨d,h⟩|⟨d,h⟩
      · exact mA 1 (ih _ _ h) 16 [tF 22 a,tF 23 c,tF 24 b,tT 25 d] 74 18889465931478578757586
      ·
       rcases qa h with⟨e,h⟩|⟨e,h⟩
       · exact mA 1 (ih _ _ h) 19 [tF 22 a,tF 23 c,tF 24 b,tF 25 d,tT 26 e] 74 18889465931478578757586
       ·
        rcases qa h with⟨f,h⟩|⟨f,h⟩
        · exact mA 1 (ih _ _ h) 22 [tF 22 a,tF 23 c,tF 24 b,tF 25 d,tF 26 e,tT 27 f] 74 18889465931478578757586
        ·
         rcases qa h with⟨g,h⟩|⟨g,h⟩
         · exact mA 1 (ih _ _ h) 25 [tF 22 a,tF 23 c,tF 24 b,tF 25 d,tF 26 e,tF 27 f,tT 28 g] 74 18889465931478578757586
         · rcases qa h with⟨i,h⟩|⟨i,h⟩
           · exact mA 1 (ih _ _ h) 28 [tF 22 a,tF 23 c,tF 24 b,tF 25 d,tF 26 e,tF 27 f,tF 28 g,tT 29 i] 74 18889465931478578757586
           · rcases qa h with⟨j,h⟩|⟨j,h⟩
             · exact mA 1 (ih _ _ h) 31 [tF 22 a,tF 23 c,tF 24 b,tF 25 d,tF 26 e,tF 27 f,tF 28 g,tF 29 i,tT 30 j] 74 18889465931478578757586
             · rcases qa h with⟨l,h⟩|⟨l,h⟩
               · exact mA 1 (ih _ _ h) 34 [tF 22 a,tF 23 c,tF 24 b,tF 25 d,tF 26 e,tF 27 f,tF 28 g,tF 29 i,tF 30 j,tT 31 l] 74 18889465931478578757586
               · exact mA 1 (ih _ _ h) 34 [tF 22 a,tF 23 c,tF 24 b,tF 25 d,tF 26 e,tF 27 f,tF 28 g,tF 29 i,tF 30 j,tF 31 l] 74 18889465931478578757586
 |.h1 ..,h=>by
  replace h:=qa h;rcases h with⟨rfl,h⟩|⟨rfl,h⟩
  · exact mA 1 (ih _ _ h) 3 [] 74 18889465931478580854738
  · exact mA 1 (ih _ _ h) 3 [] 74 18889465931478580854738
 |.h2 ..,h=>by
  replace h:=qa h;rcases h with⟨rfl,h⟩|⟨rfl,h⟩
  · exact mA 1 (ih _ _ h) 2 [] 74 18889465931478580854738
  · cases h;exact mF 1 []
 |.h3 ..,h=>by obtain⟨a,h⟩:=zo h;cases h;exact mF 1 [xS 68 a]
theorem ev60 {k:Nat}{a:By}{b:Int}{r:R60}(h:g60 k a b=some r):E60 a b r:=qoe (ok60 _ _ _ h)
inductive S40 where
 |e (a:By)(b:Int)
 |h0 (a:Int)(b:By)(c d e:Int)(f:By)(g:Int)
 |h1 (a:Bool)(b:Int)(c:By)(d e f:Int)(g:By)(i:Int)
abbrev R40:=(Int×By×Int×Int×Int×Int)⊕(Int×Int)
def qjm:R40→ARes
 |(.inl (a,b,c,d,e,_))=>.ret (.ag [ic a,sc b,ic c,ic d,ic e])
 |(.inr (a,_))=>.panic (.iface 84 (.agg #[.int .i64 a]))
def bx40 (b0_0:ByteArray):R40→List (List Cell)
 |(.inl (_,_,_,_,_,a))=>[[sc b0_0,ic a]]
 |(.inr (_,a))=>[[sc b0_0,ic a]]
noncomputable def qjX (k:Nat)(rec:S40→Option R40):S40→Option R40
 |.e a b=>rec (.h0 0 (strB []) 0 0 0 a b)
 |.h0 a b c d e f g=>
  bif decide (g<(f.size:Int))then
   sxI f g fun i=>
   (g54 k i).bind fun j=>
   rec (.h1 j a b c d e f g)
  else
   rec (.h1 false a b c d e f g)
 |.h1 a b c d e f g i=>
  bif a then
   rec (.h0 b c d e f g (IntKind.i64.wrap (i+1)))
  else
   bif i==(g.size:Int)then
    some (.inl (0,strB [],0,0,i,i))
   else
    sxI g i fun j=>
    (g55 k j).bind fun l=>
    bif l then
     (g56 k g i).bind fun m=>
     altC m (fun n=>
       tup6 n fun o p q t u v=>
       some (.inl (o,p,q,t,u,v))) (fun n=>
       tup2 n fun w v=>
       some (.inr (w,v)))
    else
     (g57 k j).bind fun m=>
     bif m then
      (g58 k g i).bind fun n=>
      altC n (fun x=>
        tup2 x fun y z=>
        some (.inr (y,z))) (fun x=>
        tup6 x fun a1 b1 c1 d1 e1 z=>
        some (.inl (a1,b1,c1,d1,e1,z)))
     else
      bif j==39 then
       (g59 k g i).bind fun f1=>
       altC f1 (fun g1=>
         tup2 g1 fun i1 j1=>
         some (.inr (i1,j1))) (fun g1=>
         tup6 g1 fun l1 m1 n1 o1 p1 j1=>
         some (.inl (l1,m1,n1,o1,p1,j1)))
      else
       (g60 k g i).bind fun f1=>
       altC f1 (fun g1=>
         tup6 g1 fun l1 m1 n1 o1 p1 j1=>
         some (.inl (l1,m1,n1,o1,p1,j1))) (fun g1=>
         tup2 g1 fun i1 j1=>
         some (.inr (i1,j1)))
noncomputable def g40 (k:Nat)(a:By)(b:Int):Option R40:=itS qjX k (.e a b)
noncomputable def P40:S40→R40→Prop
 |.e a b,r=>Fin cx40 Tryz.f40 [.code qib] (fr0 Tryz.f40 [pP 0] [[sc a,ic b]]) (qjm r) (bx40 a r)
 |.h0 a b c d e f g,r=>Fin cx40 Tryz.f40 (kAt qib [1,0,0,4] []) ⟨[pP 0,.deadv,pL 2]++rep 71 .deadv,[(.loc 2,[ic a,sc b,ic c,ic d,ic e]),(.par 0,[sc f,ic g])]⟩ (qjm r) (bx40 f r)
 |.h1 a b c d e f g i,r=>Fin cx40 Tryz.f40 (kAt qib [1,0,0,0,0,1,2] []) ⟨[pP 0,.deadv,pL 2]++rep 22 .deadv++[.c (bc a)]++rep 48 .deadv,[(.loc 2,[ic b,sc c,ic d,ic e,ic f]),(.par 0,[sc g,ic i])]⟩ (qjm r) (bx40 g r)
abbrev E40 (a:By)(b:Int)(r:R40):Prop:=Ev Tryz.prog noHand 40 [pP 0] [[sc a,ic b]] (qjm r) (bx40 a r)
theorem qok {a:By}{b:Int}{r:R40}(h:P40 (.e a b) r):E40 a b r:=evF h
theorem ok40:∀ k s r,itS qjX k s=some r→P40 s r:=qF fun k rec ih s r h=>match s,h with
 |.e ..,h=>by exact mA 1 (ih _ _ h) 5 [] 74 18889465931478580854778
 |.h0 ..,h=>by
  rcases qa h with⟨a,h⟩|⟨a,h⟩
  · obtain⟨_,b,h⟩:=Xm h;obtain⟨_,c,h⟩:=qh h;exact mA 1 (ih _ _ h) 4 [tT 13 a,sA 23 b,cA 24 (ev54 c)] 74 18889465931478547300346
  · exact mA 1 (ih _ _ h) 4 [tF 13 a] 74 18889465931478547300346
 |.h1 ..,h=>by
  replace h:=qa h;rcases h with⟨rfl,h⟩|⟨rfl,h⟩
  · exact mA 1 (ih _ _ h) 5 [] 74 18889465931478580854778
  ·
   rcases qa h with⟨a,h⟩|⟨a,h⟩
   · cases h;exact mF 1 [tT 42 a]
   ·
    obtain⟨_,b,h⟩:=Xm h;obtain⟨_,c,h⟩:=qh h;replace h:=qa h;rcases h with⟨rfl,h⟩|⟨rfl,h⟩
    · obtain⟨_,d,h⟩:=qh h;replace h:=qf h;rcases h with⟨_,rfl,h⟩|⟨_,rfl,h⟩
      · replace h:=t6 h;cases h;exact mF 1 [tF 42 a,sA 56 b,cA 59 (ev55 c),cA 61 (ev56 d)]
      · replace h:=t2 h;cases h;exact mF 1 [tF 42 a,sA 56 b,cA 59 (ev55 c),cA 61 (ev56 d)]
    ·
     obtain⟨_,d,h⟩:=qh h;replace h:=qa h;rcases h with⟨rfl,h⟩|⟨rfl,h⟩
     · obtain⟨_,e,h⟩:=qh h;replace h:=qf h;rcases h with⟨_,rfl,h⟩|⟨_,rfl,h⟩
       · replace h:=t2 h;cases h;exact mF 1 [tF 42 a,sA 56 b,cA 59 (ev55 c),cA 64 (ev57 d),cA 66 (ev58 e)]
       · replace h:=t6 h;cases h;exact mF 1 [tF 42 a,sA 56 b,cA 59 (ev55 c),cA 64 (ev57 d),cA 66 (ev58 e)]
     ·
      rcases qa h with⟨f,h⟩|⟨f,h⟩
      · obtain⟨_,g,h⟩:=qh h;replace h:=qf h;rcases h with⟨_,rfl,h⟩|⟨_,rfl,h⟩
        · replace h:=t2 h;cases h;exact mF 1 [tF 42 a,sA 56 b,cA 59 (ev55 c),cA 64 (ev57 d),tT 69 f,cA 71 (ev59 g)]
        · replace h:=t6 h;cases h;exact mF 1 [tF 42 a,sA 56 b,cA 59 (ev55 c),cA 64 (ev57 d),tT 69 f,cA 71 (ev59 g)]
      · obtain⟨_,g,h⟩:=qh h;replace h:=qf h;rcases h with⟨_,rfl,h⟩|⟨_,rfl,h⟩
        · replace h:=t6 h;cases h;exact mF 1 [tF 42 a,sA 56 b,cA 59 (ev55 c),cA 64 (ev57 d),tF 69 f,cA 73 (ev60 g)]
        · replace h:=t2 h;cases h;exact mF 1 [tF 42 a,sA 56 b,cA 59 (ev55 c),cA 64 (ev57 d),tF 69 f,cA 73 (ev60 g)]
theorem ev40 {k:Nat}{a:By}{b:Int}{r:R40}(h:g40 k a b=some r):E40 a b r:=qok (ok40 _ _ _ h)
inductive S19 where
 |e (a:By)
 |h0 (a b:Int)(c:Rs)
 |h1 (a:By)(b c d:Int)(e:Rs)
 |h2 (a b:Int)(c:Rs)
abbrev R19:=(Rs×Int×Int)⊕(Int×Int)
def qwD:R19→ARes
 |(.inl (a,b,c))=>.ret ⟨.tup [false,false,false],[[.imm a],[ic b],[ic c]]⟩
 |(.inr (a,b))=>.ret ⟨.tup [false,false,false],[[.nil],[ic a],[ic b]]⟩
def bx19:R19→List (List Cell)
 |(.inl (_,_,_))=>[]
 |(.inr (_,_))=>[]
noncomputable def qxJ (k:Nat)(rec:S19→Option R19):S19→Option R19
 |.e a=>
  bif decide ((a.size:Int)>4000)then
   rec (.h0 2 0 [])
  else
   rec (.h1 a 0 0 0 [])
 |.h0 a b c=>some (.inl (c,b,a))
 |.h1 a b c d e=>
  (g40 k a b).bind fun f=>
  altC f (fun g=>
    tup6 g fun i j l m n o=>
    gd (apOk 48 5 e [[ic i,sc j,ic l,ic m,ic n]]) <|
    bif i==0 then
     rec (.h2 0 0 (qG (e++[[ic i,sc j,ic l,ic m,ic n]])))
    else
     rec (.h1 a o c d (e++[[ic i,sc j,ic l,ic m,ic n]]))) (fun g=>
    tup2 g fun p o=>
    some (.inr (p,12)))
 |.h2 a b c=>some (.inl (c,b,a))
noncomputable def g19 (k:Nat)(a:By):Option R19:=itS qxJ k (.e a)
noncomputable def P19:S19→R19→Prop
 |.e a,r=>FinD cx19 Tryz.f19 (DOf cx19.P none 0) [.code qkw] (fr0 Tryz.f19 [.c (sc a)] []) (qwD r) (bx19 r)
 |.h0 a b c,r=>FinD cx19 Tryz.f19 (DOf cx19.P none 0) (kAt qkw [1,0,1,0,1,2] []) ⟨[.deadv,.deadv,pL 2,pL 3,pL 4]++rep 19 .deadv,[(.loc 4,[ic a]),(.loc 3,[ic b]),(.loc 2,[.imm c])]⟩ (qwD r) (bx19 r)
 |.h1 a b c d e,r=>FinD cx19 Tryz.f19 (DOf cx19.P (some 10) 39) (kAt qkw [1,1,1,1,0,4] []) ⟨[.deadv,.deadv,pL 2,pL 3,pL 4,pL 13]++rep 4 .deadv++[.c (.clo 39 [] [.ptr ⟨⟨.loc 2,[]⟩,0,0⟩,.ptr ⟨⟨.loc 3,[]⟩,0,0⟩,.ptr ⟨⟨.loc 4,[]⟩,0,0⟩])]++rep 13 .deadv,[(.loc 13,[sc a,ic b]),(.loc 4,[ic c]),(.loc 3,[ic d]),(.loc 2,[.own 5 e])]⟩ (qwD r) (bx19 r)
 |.h2 a b c,r=>FinD cx19 Tryz.f19 (DOf cx19.P (some 10) 39) (kAt qkw [1,1,1,1,0,0,0,1,1,1,0,1,2] []) ⟨[.deadv,.deadv,pL 2,pL 3,pL 4]++rep 5 .deadv++[.c (.clo 39 [] [.ptr ⟨⟨.loc 2,[]⟩,0,0⟩,.ptr ⟨⟨.loc 3,[]⟩,0,0⟩,.ptr ⟨⟨.loc 4,[]⟩,0,0⟩])]++rep 13 .deadv,[(.loc 4,[ic a]),(.loc 3,[ic b]),(.loc 2,[.imm c])]⟩ (qwD r) (bx19 r)
abbrev E19 (a:By)(r:R19):Prop:=Ev Tryz.prog noHand 19 [.c (sc a)] [] (qwD r) (bx19 r)
theorem qzg {a:By}{r:R19}(h:P19 (.e a) r):E19 a r:=evD h
theorem qyu {b0_0:Rs}{b1_0:Int}{b2_0:Int}{pv_i00:Int}:EvD Tryz.prog (.panicking [{ v:=.iface 84 (.agg #[.int .i64 pv_i00]),recovered:=false }]) (.panicking [{ v:=.iface 84 (.agg #[.int .i64 pv_i00]),recovered:=true }]) 39 [pP 0,pP 1,pP 2] [[.own 5 b0_0],[ic b1_0],[ic b2_0]] (.ret .undef) [[.nil],[ic pv_i00],[ic 12]]:=qcj (fn:=Tryz.f39) (body:=qr3) (cx:=cx39) (nb:=3) (n:=2000) (val:=.iface 84 (.agg #[.int .i64 pv_i00])) (ad1:=[]) (ad2:=[]) (ps:=[]) (by kernel_rfl) (by kernel_rfl) rfl hmix rfl (.inl ⟨rfl,rfl⟩) (by kernel_rfl) trivial
theorem qyv {b0_0:Rs}{b1_0:Int}{b2_0:Int}:EvD Tryz.prog .returning .returning 39 [pP 0,pP 1,pP 2] [[.imm b0_0],[ic b1_0],[ic b2_0]] (.ret .undef) [[.imm b0_0],[ic b1_0],[ic b2_0]]:=qcj (fn:=Tryz.f39) (body:=qr3) (cx:=cx39) (nb:=3) (n:=2000) (val:=.nilIface) (ad1:=[]) (ad2:=[]) (ps:=[]) (by kernel_rfl) (by kernel_rfl) rfl hmix rfl (.inr ⟨rfl,rfl,rfl⟩) (by kernel_rfl) trivial
theorem ok19:∀ k s r,itS qxJ k s=some r→P19 s r:=qF fun k rec ih s r h=>match s,h with
 |.e a,h=>by
  rcases qa h with⟨b,h⟩|⟨b,h⟩
  · exact Ya (t:=none) (f:=0) hmix (ih _ _ h) (n:=8) (ad:=[(some 9,.test true)]) (ps:=[_]) (m:=bm 24 16777187) (ls:=[]) (cs:=[(⟨⟨.loc 2,[]⟩,0,0⟩,none)]) (by kernel_rfl) ⟨b,trivial⟩
  · exact Ya (t:=none) (f:=0) hmix (qg9 (Q:=fun G0 w0=>bodyPostD cx19.P Tryz.f19 (Went G0 w0 _ _)) (K0:=(kAt qkw [1,1,0,2] [])) (F:=⟨[.c (sc a),.undef,pL 2,pL 3,pL 4,.undef,.undef,.c (sc a),.c (ic (a.size:Int)),.c (bc false)]++rep 14 .undef,[(.loc 4,[ic 0]),(.loc 3,[ic 0]),(.loc 2,[.nil])]⟩) (k:=10) (f:=39) (K1:=(kAt qkw [1,1,0,3] [])) (F1:=⟨[.c (sc a),.undef,pL 2,pL 3,pL 4,.undef,.undef,.c (sc a),.c (ic (a.size:Int)),.c (bc false),.c (.clo 39 [] [.ptr ⟨⟨.loc 2,[]⟩,0,0⟩,.ptr ⟨⟨.loc 3,[]⟩,0,0⟩,.ptr ⟨⟨.loc 4,[]⟩,0,0⟩])]++rep 13 .undef,[(.loc 4,[ic 0]),(.loc 3,[ic 0]),(.loc 2,[.nil])]⟩) (ad:=[]) (ps:=[]) ⟨Tryz.f39,by kernel_rfl,by kernel_rfl,by kernel_rfl⟩ (Ya (t:=some 10) (f:=39) hmix (ih _ _ h) (n:=4) (ad:=[]) (ps:=[]) (m:=bm 24 16776131) (ls:=[]) (cs:=[(⟨⟨.loc 2,[]⟩,0,0⟩,some 5)]) (by kernel_rfl) trivial) (by kernel_rfl) trivial) (n:=8) (ad:=[(some 9,.test false)]) (ps:=[_]) (m:=bm 24 0) (ls:=[]) (cs:=[]) (by kernel_rfl) ⟨b,trivial⟩
 |.h0 ..,h=>by rw[← aR h];exact Yz (nb:=0) (t:=none) (f:=0) hmix (n:=2000) (ad:=[]) (ps:=[]) (bx':=[]) (by kernel_rfl) trivial
 |.h1 a _ b c d,h=>by
  obtain⟨_,e,h⟩:=qh h;replace h:=qf h;rcases h with⟨_,rfl,h⟩|⟨_,rfl,h⟩
  · replace h:=qk3 h;obtain⟨g,i,j,l,o,p,rfl,h⟩:=h;obtain⟨q,h⟩:=zo h;rcases qa h with⟨u,h⟩|⟨u,h⟩
    · exact Ya (t:=some 10) (f:=39) hmix (ih _ _ h) (n:=11) (ad:=[(some 15,.call (.ret (.ag [ic g,sc i,ic j,ic l,ic o])) [[sc a,ic p]] false),(some 19,.okE false),(some 22,.test true)]) (ps:=[_,_,_]) (m:=bm 24 16776163) (ls:=[6,13]) (cs:=[]) (by kernel_rfl) ⟨(ev40 e),okF [[ic g,sc i,ic j,ic l,ic o]] q,u,trivial⟩
    · exact Ya (t:=some 10) (f:=39) hmix (ih _ _ h) (n:=11) (ad:=[(some 15,.call (.ret (.ag [ic g,sc i,ic j,ic l,ic o])) [[sc a,ic p]] false),(some 19,.okE false),(some 22,.test false)]) (ps:=[_,_,_]) (m:=bm 24 16776131) (ls:=[6]) (cs:=[]) (by kernel_rfl) ⟨(ev40 e),okF [[ic g,sc i,ic j,ic l,ic o]] q,u,trivial⟩
  · replace h:=QD h;obtain⟨v,p,rfl,h⟩:=h;rw[← aR h];exact Yz (nb:=0) (t:=some 10) (f:=39) hmix (n:=2000) (ad:=[(some 15,.call (.panic (.iface 84 (.agg #[.int .i64 v]))) [[sc a,ic p]] false)]) (ps:=[_,_]) (bx':=[[.nil],[ic v],[ic 12]]) (by kernel_rfl) ⟨(ev40 e),(qyu (b0_0:=d) (b1_0:=c) (b2_0:=b) (pv_i00:=v)),trivial⟩
 |.h2 a b c,h=>by rw[← aR h];exact Yz (nb:=0) (t:=some 10) (f:=39) hmix (n:=2000) (ad:=[]) (ps:=[_]) (bx':=[[.imm c],[ic b],[ic a]]) (by kernel_rfl) ⟨(qyv (b0_0:=c) (b1_0:=b) (b2_0:=a)),trivial⟩
theorem ev19 {k:Nat}{a:By}{r:R19}(h:g19 k a=some r):E19 a r:=qzg (ok19 _ _ _ h)
inductive S47b where
 |e (a:Rs)(b:Int)(c d:Rs)(e f:Int)(g:By)(i:Int)
abbrev R47b:=Int×By×Int×Int×Int×Rs×Rs×Rs
def qxB:R47b→ARes
 |(a,b,c,d,e,_,_,_)=>.ret (.ag [ic a,sc b,ic c,ic d,ic e])
def qym (b0_1:Int)(b0_4:Int)(b0_5:Int)(b0_6:ByteArray)(b0_7:Int):R47b→List (List Cell)
 |(_,_,_,_,_,a,b,c)=>[[.imm a,ic b0_1,.own 1 b,.own 7 c,ic b0_4,ic b0_5,sc b0_6,ic b0_7]]
noncomputable def qwU (k:Nat)(rec:S47b→Option R47b):S47b→Option R47b
 |.e a b c d ..=>
  ixR a b fun e=>
  qaM e fun f g i j l=>
  some (f,g,i,j,l,a,c,d)
noncomputable def g47b (k:Nat)(a:Rs)(b:Int)(c d:Rs)(e f:Int)(g:By)(i:Int):Option R47b:=itS qwU k (.e a b c d e f g i)
noncomputable def P47b:S47b→R47b→Prop
 |.e a b c d e f g i,r=>Fin cx47 Tryz.f47 [.code qpJ] (fr0 Tryz.f47 [pP 0] [[.imm a,ic b,.own 1 c,.own 7 d,ic e,ic f,sc g,ic i]]) (qxB r) (qym b e f g i r)
abbrev E47b (a:Rs)(b:Int)(c d:Rs)(e f:Int)(g:By)(i:Int)(r:R47b):Prop:=Ev Tryz.prog noHand 47 [pP 0] [[.imm a,ic b,.own 1 c,.own 7 d,ic e,ic f,sc g,ic i]] (qxB r) (qym b e f g i r)
theorem qyI {a:Rs}{b:Int}{c d:Rs}{e f:Int}{g:By}{i:Int}{r:R47b}(h:P47b (.e a b c d e f g i) r):E47b a b c d e f g i r:=evF h
theorem qzB:∀ k s r,itS qwU k s=some r→P47b s r:=qF fun k rec ih s r h=>match s,h with
 |.e ..,h=>by obtain⟨_,a,h⟩:=YJ h;replace h:=qca h;obtain⟨_,_,_,_,_,rfl,h⟩:=h;cases h;exact mF 1 [rA 11 a]
theorem qu6 {k:Nat}{a:Rs}{b:Int}{c d:Rs}{e f:Int}{g:By}{i:Int}{r:R47b}(h:g47b k a b c d e f g i=some r):E47b a b c d e f g i r:=qyI (qzB _ _ _ h)
inductive S43b where
 |e (a:By)(b:Rs)(c:Int)(d e:Rs)(f g:Int)(i:By)(j:Int)
abbrev R43b:=Bool×Rs×Rs×Rs
def qxA:R43b→ARes
 |(r,_,_,_)=>.ret (.c (bc r))
def qyl (b0_1:Int)(b0_4:Int)(b0_5:Int)(b0_6:ByteArray)(b0_7:Int):R43b→List (List Cell)
 |(_,a,b,c)=>[[.imm a,ic b0_1,.own 1 b,.own 7 c,ic b0_4,ic b0_5,sc b0_6,ic b0_7]]
noncomputable def qwS (k:Nat)(rec:S43b→Option R43b):S43b→Option R43b
 |.e a b c d e f g i j=>
  (g47b k b c d e f g i j).bind fun l=>
  tup8 l fun m n _ _ _ o p q=>
  bif m==1 then
   some (n.toList==a.toList,o,p,q)
  else
   bif m==6 then
    some (n.toList==a.toList,o,p,q)
   else
    some (false,o,p,q)
noncomputable def g43b (k:Nat)(a:By)(b:Rs)(c:Int)(d e:Rs)(f g:Int)(i:By)(j:Int):Option R43b:=itS qwS k (.e a b c d e f g i j)
noncomputable def P43b:S43b→R43b→Prop
 |.e a b c d e f g i j,r=>Fin cx43 Tryz.f43 [.code qgV] (fr0 Tryz.f43 [pP 0,.c (sc a)] [[.imm b,ic c,.own 1 d,.own 7 e,ic f,ic g,sc i,ic j]]) (qxA r) (qyl c f g i j r)
abbrev E43b (a:By)(b:Rs)(c:Int)(d e:Rs)(f g:Int)(i:By)(j:Int)(r:R43b):Prop:=Ev Tryz.prog noHand 43 [pP 0,.c (sc a)] [[.imm b,ic c,.own 1 d,.own 7 e,ic f,ic g,sc i,ic j]] (qxA r) (qyl c f g i j r)
theorem qyH {a:By}{b:Rs}{c:Int}{d e:Rs}{f g:Int}{i:By}{j:Int}{r:R43b}(h:P43b (.e a b c d e f g i j) r):E43b a b c d e f g i j r:=evF h
theorem qzz:∀ k s r,itS qwS k s=some r→P43b s r:=qF fun k rec ih s r h=>match s,h with
 |.e ..,h=>by
  obtain⟨_,a,h⟩:=b8 h;rcases qa h with⟨b,h⟩|⟨b,h⟩
  · cases h;exact mF 1 [cA 7 (qu6 a),tT 10 b]
  · rcases qa h with⟨c,h⟩|⟨c,h⟩
    · cases h;exact mF 1 [cA 7 (qu6 a),tF 10 b,tT 14 c]
    · cases h;exact mF 1 [cA 7 (qu6 a),tF 10 b,tF 14 c]
theorem zt {k:Nat}{a:By}{b:Rs}{c:Int}{d e:Rs}{f g:Int}{i:By}{j:Int}{r:R43b}(h:g43b k a b c d e f g i j=some r):E43b a b c d e f g i j r:=qyH (qzz _ _ _ h)
inductive S48b where
 |e (a:Int)(b:Rs)(c:Int)(d e:Rs)(f g:Int)(i:By)(j:Int)
abbrev R48b:=Int×Int×Rs×Rs×Rs
def qxC:R48b→ARes
 |(a,b,_,_,_)=>.panic (.iface 50 (.agg #[.int .i64 a,.int .i64 b]))
def qyn (b0_1:Int)(b0_4:Int)(b0_5:Int)(b0_6:ByteArray)(b0_7:Int):R48b→List (List Cell)
 |(_,_,a,b,c)=>[[.imm a,ic b0_1,.own 1 b,.own 7 c,ic b0_4,ic b0_5,sc b0_6,ic b0_7]]
noncomputable def qwV (k:Nat)(rec:S48b→Option R48b):S48b→Option R48b
 |.e a b c d e f g i j=>
  (g47b k b c d e f g i j).bind fun l=>
  tup8 l fun _ _ _ _ m n o p=>
  some (m,a,n,o,p)
noncomputable def g48b (k:Nat)(a:Int)(b:Rs)(c:Int)(d e:Rs)(f g:Int)(i:By)(j:Int):Option R48b:=itS qwV k (.e a b c d e f g i j)
noncomputable def P48b:S48b→R48b→Prop
 |.e a b c d e f g i j,r=>Fin cx48 Tryz.f48 [.code qpT] (fr0 Tryz.f48 [pP 0,.c (ic a)] [[.imm b,ic c,.own 1 d,.own 7 e,ic f,ic g,sc i,ic j]]) (qxC r) (qyn c f g i j r)
abbrev E48b (a:Int)(b:Rs)(c:Int)(d e:Rs)(f g:Int)(i:By)(j:Int)(r:R48b):Prop:=Ev Tryz.prog noHand 48 [pP 0,.c (ic a)] [[.imm b,ic c,.own 1 d,.own 7 e,ic f,ic g,sc i,ic j]] (qxC r) (qyn c f g i j r)
theorem qyJ {a:Int}{b:Rs}{c:Int}{d e:Rs}{f g:Int}{i:By}{j:Int}{r:R48b}(h:P48b (.e a b c d e f g i j) r):E48b a b c d e f g i j r:=evF h
theorem qzC:∀ k s r,itS qwV k s=some r→P48b s r:=qF fun k rec ih s r h=>match s,h with
 |.e ..,h=>by obtain⟨_,a,h⟩:=b8 h;cases h;exact mF 1 [cA 5 (qu6 a)]
theorem qvV {k:Nat}{a:Int}{b:Rs}{c:Int}{d e:Rs}{f g:Int}{i:By}{j:Int}{r:R48b}(h:g48b k a b c d e f g i j=some r):E48b a b c d e f g i j r:=qyJ (qzC _ _ _ h)
inductive S64b where
 |e (a:Rs)(b:Int)(c d:Rs)(e f:Int)(g:By)(i:Int)
abbrev R64b:=(Int×Int×Rs×Int×Rs×Rs)⊕(By×Rs×Int×Rs×Rs)
def qxD:R64b→ARes
 |(.inl (a,b,_,_,_,_))=>.panic (.iface 50 (.agg #[.int .i64 a,.int .i64 b]))
 |(.inr (r,_,_,_,_))=>.ret (.c (sc r))
def qyo (b0_4:Int)(b0_5:Int)(b0_6:ByteArray)(b0_7:Int):R64b→List (List Cell)
 |(.inl (_,_,a,b,c,d))=>[[.imm a,ic b,.own 1 c,.own 7 d,ic b0_4,ic b0_5,sc b0_6,ic b0_7]]
 |(.inr (_,a,b,c,d))=>[[.imm a,ic b,.own 1 c,.own 7 d,ic b0_4,ic b0_5,sc b0_6,ic b0_7]]
noncomputable def qwX (k:Nat)(rec:S64b→Option R64b):S64b→Option R64b
 |.e a b c d e f g i=>
  (g47b k a b c d e f g i).bind fun j=>
  tup8 j fun l m _ _ _ n o p=>
  bif l != 2 then
   (g48b k 13 n b o p e f g i).bind fun q=>
   tup5 q fun t u v w x=>
   some (.inl (t,u,v,b,w,x))
  else
   some (.inr (m,n,IntKind.i64.wrap (b+1),o,p))
noncomputable def g64b (k:Nat)(a:Rs)(b:Int)(c d:Rs)(e f:Int)(g:By)(i:Int):Option R64b:=itS qwX k (.e a b c d e f g i)
noncomputable def P64b:S64b→R64b→Prop
 |.e a b c d e f g i,r=>Fin cx64 Tryz.f64 [.code qya] (fr0 Tryz.f64 [pP 0] [[.imm a,ic b,.own 1 c,.own 7 d,ic e,ic f,sc g,ic i]]) (qxD r) (qyo e f g i r)
abbrev E64b (a:Rs)(b:Int)(c d:Rs)(e f:Int)(g:By)(i:Int)(r:R64b):Prop:=Ev Tryz.prog noHand 64 [pP 0] [[.imm a,ic b,.own 1 c,.own 7 d,ic e,ic f,sc g,ic i]] (qxD r) (qyo e f g i r)
theorem qyL {a:Rs}{b:Int}{c d:Rs}{e f:Int}{g:By}{i:Int}{r:R64b}(h:P64b (.e a b c d e f g i) r):E64b a b c d e f g i r:=evF h
theorem qzE:∀ k s r,itS qwX k s=some r→P64b s r:=qF fun k rec ih s r h=>match s,h with
 |.e ..,h=>by
  obtain⟨_,a,h⟩:=b8 h;rcases qa h with⟨b,h⟩|⟨b,h⟩
  · obtain⟨_,c,h⟩:=b5 h;cases h;exact mF 1 [cA 5 (qu6 a),tT 8 b,cA 10 (qvV c)]
  · cases h;exact mF 1 [cA 5 (qu6 a),tF 8 b]
theorem qv6 {k:Nat}{a:Rs}{b:Int}{c d:Rs}{e f:Int}{g:By}{i:Int}{r:R64b}(h:g64b k a b c d e f g i=some r):E64b a b c d e f g i r:=qyL (qzE _ _ _ h)
inductive S61b where
 |e (a:Int)(b:Rs)(c:Int)(d e:Rs)(f g:Int)(i:By)(j:Int)
 |h0 (a:Bool)(b:Int)(c:By)(d e f g:Int)(i j:By)(l:Int)(m:Rs)(n:Int)(o p:Rs)(q t:Int)(u:By)(v:Int)
 |h1 (a:Int)(b c:By)(d e:Int)(f g:By)(i:Int)(j:Rs)(l:Int)(m n:Rs)(o p:Int)(q:By)(t:Int)
 |h2 (a:Bool)(b:Int)(c d:By)(e f:Int)(g i:By)(j:Int)(l:Rs)(m:Int)(n o:Rs)(p q:Int)(t:By)(u:Int)
 |h3 (a:Int)(b c:By)(d e:Int)(f g:By)(i:Int)(j:Rs)(l:Int)(m n:Rs)(o p:Int)(q:By)(t:Int)
abbrev R61b:=(Int×Int×Rs×Int×Rs×Rs)⊕(Int×By×By×Int×Rs×Int×Rs×Rs)
def qvN:R61b→ARes
 |(.inl (a,b,_,_,_,_))=>.panic (.iface 50 (.agg #[.int .i64 a,.int .i64 b]))
 |(.inr (a,b,c,d,_,_,_,_))=>.ret (.ag [ic a,sc b,sc c,ic d])
def qwo (b0_4:Int)(b0_5:Int)(b0_6:ByteArray)(b0_7:Int):R61b→List (List Cell)
 |(.inl (_,_,a,b,c,d))=>[[.imm a,ic b,.own 1 c,.own 7 d,ic b0_4,ic b0_5,sc b0_6,ic b0_7]]
 |(.inr (_,_,_,_,a,b,c,d))=>[[.imm a,ic b,.own 1 c,.own 7 d,ic b0_4,ic b0_5,sc b0_6,ic b0_7]]
noncomputable def qwW (k:Nat)(rec:S61b→Option R61b):S61b→Option R61b
 |.e a b c d e f g i j=>
  (g47b k b c d e f g i j).bind fun l=>
  tup8 l fun m n o p q t u v=>
  bif a==8 then
   (g43b k (strB [33]) t c u v f g i j).bind fun w=>
   tup4 w fun x y z a1=>
   bif x then
    rec (.h0 true m n o p q 0 (strB []) (strB []) 0 y c z a1 f g i j)
   else
    rec (.h0 (m==2) m n o p q 0 (strB []) (strB []) 0 y c z a1 f g i j)
  else
   rec (.h0 false m n o p q 0 (strB []) (strB []) 0 t c u v f g i j)
 |.h0 a _ _ _ _ b c d e f g i j l m n o p=>
  bif a then
   (g48b k 2 g i j l m n o p).bind fun q=>
   tup5 q fun t u v w x=>
   some (.inl (t,u,v,i,w,x))
  else
   (g43b k (strB [33]) g i j l m n o p).bind fun q=>
   tup4 q fun y v w x=>
   bif y then
    rec (.h1 3 (strB []) (strB []) b c d e f v (IntKind.i64.wrap (i+1)) w x m n o p)
   else
    rec (.h1 1 (strB []) (strB []) b c d e f v i w x m n o p)
 |.h1 a _ b c d e f g i j l m n o p q=>
  (g64b k i j l m n o p q).bind fun t=>
  altC t (fun u=>
    tup6 u fun v w x y z a1=>
    some (.inl (v,w,x,y,z,a1))) (fun u=>
    tup5 u fun b1 x y z a1=>
    bif a==1 then
     (g43b k (strB [43]) x y z a1 n o p q).bind fun c1=>
     tup4 c1 fun d1 e1 f1 g1=>
     rec (.h2 d1 a b1 b c d e f g e1 y f1 g1 n o p q)
    else
     rec (.h2 false a b1 b c d e f g x y z a1 n o p q))
 |.h2 a b c d e f g i j l m n o p q t u=>
  bif a then
   rec (.h3 2 c d e f g i j l (IntKind.i64.wrap (m+1)) n o p q t u)
  else
   rec (.h3 b c d e f g i j l m n o p q t u)
 |.h3 a b _ c _ _ _ _ d e f g i j l m=>
  (g64b k d e f g i j l m).bind fun n=>
  altC n (fun o=>
    tup6 o fun p q t u v w=>
    some (.inl (p,q,t,u,v,w))) (fun o=>
    tup5 o fun x t u v w=>
    some (.inr (a,b,x,c,t,u,v,w)))
noncomputable def g61b (k:Nat)(a:Int)(b:Rs)(c:Int)(d e:Rs)(f g:Int)(i:By)(j:Int):Option R61b:=itS qwW k (.e a b c d e f g i j)
noncomputable def P61b:S61b→R61b→Prop
 |.e a b c d e f g i j,r=>Fin cx61 Tryz.f61 [.code qr4] (fr0 Tryz.f61 [pP 0,.c (ic a)] [[.imm b,ic c,.own 1 d,.own 7 e,ic f,ic g,sc i,ic j]]) (qvN r) (qwo f g i j r)
 |.h0 a b c d e f g i j l m n o p q t u v,r=>Fin cx61 Tryz.f61 (kAt qr4 [1,1,0,1,2] []) ⟨[pP 0]++rep 3 .deadv++[pL 4,pL 5]++rep 17 .deadv++[.c (bc a)]++rep 51 .deadv,[(.loc 5,[ic b,sc c,ic d,ic e,ic f]),(.loc 4,[ic g,sc i,sc j,ic l]),(.par 0,[.imm m,ic n,.own 1 o,.own 7 p,ic q,ic t,sc u,ic v])]⟩ (qvN r) (qwo q t u v r)
 |.h1 a b c d e f g i j l m n o p q t,r=>Fin cx61 Tryz.f61 (kAt qr4 [1,1,1,1,1,2] []) ⟨[pP 0]++rep 3 .deadv++[pL 4,.deadv,pL 6]++rep 68 .deadv,[(.loc 6,[ic a,sc b,sc c,ic d]),(.loc 4,[ic e,sc f,sc g,ic i]),(.par 0,[.imm j,ic l,.own 1 m,.own 7 n,ic o,ic p,sc q,ic t])]⟩ (qvN r) (qwo o p q t r)
 |.h2 a b c d e f g i j l m n o p q t u,r=>Fin cx61 Tryz.f61 (kAt qr4 [1,1,1,1,1,1,0,1,2] []) ⟨[pP 0]++rep 3 .deadv++[pL 4,.deadv,pL 6]++rep 51 .deadv++[.c (bc a)]++rep 16 .deadv,[(.loc 6,[ic b,sc c,sc d,ic e]),(.loc 4,[ic f,sc g,sc i,ic j]),(.par 0,[.imm l,ic m,.own 1 n,.own 7 o,ic p,ic q,sc t,ic u])]⟩ (qvN r) (qwo p q t u r)
 |.h3 a b c d e f g i j l m n o p q t,r=>Fin cx61 Tryz.f61 (kAt qr4 [1,1,1,1,1,1,1,2] []) ⟨[pP 0]++rep 3 .deadv++[pL 4,.deadv,pL 6]++rep 68 .deadv,[(.loc 6,[ic a,sc b,sc c,ic d]),(.loc 4,[ic e,sc f,sc g,ic i]),(.par 0,[.imm j,ic l,.own 1 m,.own 7 n,ic o,ic p,sc q,ic t])]⟩ (qvN r) (qwo o p q t r)
abbrev E61b (a:Int)(b:Rs)(c:Int)(d e:Rs)(f g:Int)(i:By)(j:Int)(r:R61b):Prop:=Ev Tryz.prog noHand 61 [pP 0,.c (ic a)] [[.imm b,ic c,.own 1 d,.own 7 e,ic f,ic g,sc i,ic j]] (qvN r) (qwo f g i j r)
theorem qyK {a:Int}{b:Rs}{c:Int}{d e:Rs}{f g:Int}{i:By}{j:Int}{r:R61b}(h:P61b (.e a b c d e f g i j) r):E61b a b c d e f g i j r:=evF h
theorem qzD:∀ k s r,itS qwW k s=some r→P61b s r:=qF fun k rec ih s r h=>match s,h with
 |.e ..,h=>by
  obtain⟨_,a,h⟩:=b8 h;rcases qa h with⟨b,h⟩|⟨b,h⟩
  · obtain⟨_,c,h⟩:=qh h;replace h:=qu7 h;obtain⟨_,_,_,_,rfl,h⟩:=h;replace h:=qa h;rcases h with⟨rfl,h⟩|⟨rfl,h⟩
    · exact mA 1 (ih _ _ h) 7 [cA 10 (qu6 a),tT 12 b,cA 17 (zt c)] 75 37778931862957153320910
    · exact mA 1 (ih _ _ h) 7 [cA 10 (qu6 a),tT 12 b,cA 17 (zt c)] 75 37778931862957153320910
  · exact mA 1 (ih _ _ h) 7 [cA 10 (qu6 a),tF 12 b] 75 37778931862957153320910
 |.h0 ..,h=>by
  replace h:=qa h;rcases h with⟨rfl,h⟩|⟨rfl,h⟩
  · obtain⟨_,a,h⟩:=b5 h;cases h;exact mF 1 [cA 27 (qvV a)]
  · obtain⟨_,a,h⟩:=qh h;replace h:=qu7 h;obtain⟨_,_,_,_,rfl,h⟩:=h;replace h:=qa h;rcases h with⟨rfl,h⟩|⟨rfl,h⟩
    · exact mG 1 (ih _ _ h) 11 [cA 34 (zt a)] 75 37778931862957161709486 [5] []
    · exact mG 1 (ih _ _ h) 9 [cA 34 (zt a)] 75 37778931862957161709486 [5] []
 |.h1 ..,h=>by
  obtain⟨_,a,h⟩:=qh h;replace h:=qf h;rcases h with⟨_,rfl,h⟩|⟨_,rfl,h⟩
  · replace h:=t6 h;cases h;exact mF 1 [cA 48 (qv6 a)]
  · replace h:=t5 h;rcases qa h with⟨b,h⟩|⟨b,h⟩
    · obtain⟨_,c,h⟩:=b4 h;exact mA 1 (ih _ _ h) 5 [cA 48 (qv6 a),tT 52 b,cA 57 (zt c)] 75 37778643632581009997742
    · exact mA 1 (ih _ _ h) 5 [cA 48 (qv6 a),tF 52 b] 75 37778643632581009997742
 |.h2 ..,h=>by
  replace h:=qa h;rcases h with⟨rfl,h⟩|⟨rfl,h⟩
  · exact mA 1 (ih _ _ h) 4 [] 75 37778931862957161709486
  · exact mA 1 (ih _ _ h) 2 [] 75 37778931862957161709486
 |.h3 ..,h=>by
  obtain⟨_,a,h⟩:=qh h;replace h:=qf h;rcases h with⟨_,rfl,h⟩|⟨_,rfl,h⟩
  · replace h:=t6 h;cases h;exact mF 1 [cA 72 (qv6 a)]
  · replace h:=t5 h;cases h;exact mF 1 [cA 72 (qv6 a)]
theorem qw9 {k:Nat}{a:Int}{b:Rs}{c:Int}{d e:Rs}{f g:Int}{i:By}{j:Int}{r:R61b}(h:g61b k a b c d e f g i j=some r):E61b a b c d e f g i j r:=qyK (qzD _ _ _ h)
inductive S41b where
 |e (a:By)(b:Rs)(c:Int)(d e:Rs)(f g:Int)(i:By)(j:Int)
abbrev R41b:=(Int×Int×Rs×Int×Rs×Rs)⊕(Rs×Int×Rs×Rs)
def qxz:R41b→ARes
 |(.inl (a,b,_,_,_,_))=>.panic (.iface 50 (.agg #[.int .i64 a,.int .i64 b]))
 |(.inr (_,_,_,_))=>.ret .undef
def qyk (b0_4:Int)(b0_5:Int)(b0_6:ByteArray)(b0_7:Int):R41b→List (List Cell)
 |(.inl (_,_,a,b,c,d))=>[[.imm a,ic b,.own 1 c,.own 7 d,ic b0_4,ic b0_5,sc b0_6,ic b0_7]]
 |(.inr (a,b,c,d))=>[[.imm a,ic b,.own 1 c,.own 7 d,ic b0_4,ic b0_5,sc b0_6,ic b0_7]]
noncomputable def qwQ (k:Nat)(rec:S41b→Option R41b):S41b→Option R41b
 |.e a b c d e f g i j=>
  (g43b k a b c d e f g i j).bind fun l=>
  tup4 l fun m n o p=>
  bif !m then
   (g48b k 13 n c o p f g i j).bind fun q=>
   tup5 q fun t u v w x=>
   some (.inl (t,u,v,c,w,x))
  else
   some (.inr (n,IntKind.i64.wrap (c+1),o,p))
noncomputable def g41b (k:Nat)(a:By)(b:Rs)(c:Int)(d e:Rs)(f g:Int)(i:By)(j:Int):Option R41b:=itS qwQ k (.e a b c d e f g i j)
noncomputable def P41b:S41b→R41b→Prop
 |.e a b c d e f g i j,r=>Fin cx41 Tryz.f41 [.code qg6] (fr0 Tryz.f41 [pP 0,.c (sc a)] [[.imm b,ic c,.own 1 d,.own 7 e,ic f,ic g,sc i,ic j]]) (qxz r) (qyk f g i j r)
abbrev E41b (a:By)(b:Rs)(c:Int)(d e:Rs)(f g:Int)(i:By)(j:Int)(r:R41b):Prop:=Ev Tryz.prog noHand 41 [pP 0,.c (sc a)] [[.imm b,ic c,.own 1 d,.own 7 e,ic f,ic g,sc i,ic j]] (qxz r) (qyk f g i j r)
theorem qyF {a:By}{b:Rs}{c:Int}{d e:Rs}{f g:Int}{i:By}{j:Int}{r:R41b}(h:P41b (.e a b c d e f g i j) r):E41b a b c d e f g i j r:=evF h
theorem qzx:∀ k s r,itS qwQ k s=some r→P41b s r:=qF fun k rec ih s r h=>match s,h with
 |.e ..,h=>by
  obtain⟨_,a,h⟩:=b4 h;rcases qa h with⟨b,h⟩|⟨b,h⟩
  · obtain⟨_,c,h⟩:=b5 h;cases h;exact mF 1 [cA 6 (zt a),tT 7 b,cA 9 (qvV c)]
  · cases h;exact mF 1 [cA 6 (zt a),tF 7 b]
theorem vk {k:Nat}{a:By}{b:Rs}{c:Int}{d e:Rs}{f g:Int}{i:By}{j:Int}{r:R41b}(h:g41b k a b c d e f g i j=some r):E41b a b c d e f g i j r:=qyF (qzx _ _ _ h)
inductive S42b where
 |e (a:Rs)(b:Int)(c d:Rs)(e f:Int)(g:By)(i:Int)
 |h0 (a:Bool)(b:Rs)(c:Int)(d e:Rs)(f g:Int)(i:By)(j:Int)
 |h1 (a b:Rs)(c:Int)(d e:Rs)(f g:Int)(i:By)(j:Int)
abbrev R42b:=(Int×Int×Rs×Int×Rs×Rs)⊕(Rs×Int×Rs×Rs)
def qwi:R42b→ARes
 |(.inl (a,b,_,_,_,_))=>.panic (.iface 50 (.agg #[.int .i64 a,.int .i64 b]))
 |(.inr (_,_,_,_))=>.ret .undef
def qw5 (b0_4:Int)(b0_5:Int)(b0_6:ByteArray)(b0_7:Int):R42b→List (List Cell)
 |(.inl (_,_,a,b,c,d))=>[[.imm a,ic b,.own 1 c,.own 7 d,ic b0_4,ic b0_5,sc b0_6,ic b0_7]]
 |(.inr (a,b,c,d))=>[[.imm a,ic b,.own 1 c,.own 7 d,ic b0_4,ic b0_5,sc b0_6,ic b0_7]]
noncomputable def qwR (k:Nat)(rec:S42b→Option R42b):S42b→Option R42b
 |.e a b c d e f g i=>
  (g43b k (strB [83,69,81]) a b c d e f g i).bind fun j=>
  tup4 j fun l m n o=>
  bif l then
   rec (.h0 ((n.length:Int)==4) m b n o e f g i)
  else
   rec (.h0 false m b n o e f g i)
 |.h0 a b c d e f g i j=>
  bif a then
   (g48b k 2 b c d e f g i j).bind fun l=>
   tup5 l fun m n o p q=>
   some (.inl (m,n,o,c,p,q))
  else
   (g41b k (strB [83,69,81]) b c d e f g i j).bind fun l=>
   altC l (fun t=>
     tup6 t fun u v w x y z=>
     some (.inl (u,v,w,x,y,z))) (fun t=>
     tup4 t fun w x y z=>
     (g41b k (strB [40]) w x y z f g i j).bind fun a1=>
     altC a1 (fun b1=>
       tup6 b1 fun c1 d1 e1 f1 g1 i1=>
       some (.inl (c1,d1,e1,f1,g1,i1))) (fun b1=>
       tup4 b1 fun e1 f1 g1 i1=>
       rec (.h1 [] e1 f1 g1 i1 f g i j)))
 |.h1 a b c d e f g i j=>
  (g61b k (a.length:Int) b c d e f g i j).bind fun l=>
  altC l (fun m=>
    tup6 m fun n o p q t u=>
    some (.inl (n,o,p,q,t,u))) (fun m=>
    tup8 m fun v w x y p q t u=>
    gd (apOk 48 4 a [[ic v,sc w,sc x,ic y]]) <|
    (g43b k (strB [44]) p q t u f g i j).bind fun z=>
    tup4 z fun a1 b1 c1 d1=>
    bif !a1 then
     (g41b k (strB [41]) b1 q c1 d1 f g i j).bind fun e1=>
     altC e1 (fun f1=>
       tup6 f1 fun g1 i1 j1 l1 m1 n1=>
       some (.inl (g1,i1,j1,l1,m1,n1))) (fun f1=>
       tup4 f1 fun j1 l1 m1 n1=>
       gd (apOk 24 1 m1 [[.imm (qG (a++[[ic v,sc w,sc x,ic y]]))]]) <|
       some (.inr (j1,l1,m1++[[.imm (qG (a++[[ic v,sc w,sc x,ic y]]))]],n1)))
    else
     rec (.h1 (a++[[ic v,sc w,sc x,ic y]]) b1 (IntKind.i64.wrap (q+1)) c1 d1 f g i j))
noncomputable def g42b (k:Nat)(a:Rs)(b:Int)(c d:Rs)(e f:Int)(g:By)(i:Int):Option R42b:=itS qwR k (.e a b c d e f g i)
noncomputable def P42b:S42b→R42b→Prop
 |.e a b c d e f g i,r=>Fin cx42 Tryz.f42 [.code qj1] (fr0 Tryz.f42 [pP 0] [[.imm a,ic b,.own 1 c,.own 7 d,ic e,ic f,sc g,ic i]]) (qwi r) (qw5 e f g i r)
 |.h0 a b c d e f g i j,r=>Fin cx42 Tryz.f42 (kAt qj1 [0,1,2] []) ⟨[pP 0]++rep 14 .deadv++[.c (bc a)]++rep 49 .deadv,[(.par 0,[.imm b,ic c,.own 1 d,.own 7 e,ic f,ic g,sc i,ic j])]⟩ (qwi r) (qw5 f g i j r)
 |.h1 a b c d e f g i j,r=>Fin cx42 Tryz.f42 (kAt qj1 [1,1,1,1,0,0,4] []) ⟨[pP 0,.deadv,.c (.own 4 a)]++rep 62 .deadv,[(.par 0,[.imm b,ic c,.own 1 d,.own 7 e,ic f,ic g,sc i,ic j])]⟩ (qwi r) (qw5 f g i j r)
abbrev E42b (a:Rs)(b:Int)(c d:Rs)(e f:Int)(g:By)(i:Int)(r:R42b):Prop:=Ev Tryz.prog noHand 42 [pP 0] [[.imm a,ic b,.own 1 c,.own 7 d,ic e,ic f,sc g,ic i]] (qwi r) (qw5 e f g i r)
theorem qyG {a:Rs}{b:Int}{c d:Rs}{e f:Int}{g:By}{i:Int}{r:R42b}(h:P42b (.e a b c d e f g i) r):E42b a b c d e f g i r:=evF h
theorem qzy:∀ k s r,itS qwR k s=some r→P42b s r:=qF fun k rec ih s r h=>match s,h with
 |.e ..,h=>by
  obtain⟨_,a,h⟩:=qh h;replace h:=qu7 h;obtain⟨_,_,_,_,rfl,h⟩:=h;replace h:=qa h;rcases h with⟨rfl,h⟩|⟨rfl,h⟩
  · exact mA 1 (ih _ _ h) 3 [cA 6 (zt a)] 65 36893488147419070462
  · exact mA 1 (ih _ _ h) 3 [cA 6 (zt a)] 65 36893488147419070462
 |.h0 ..,h=>by
  replace h:=qa h;rcases h with⟨rfl,h⟩|⟨rfl,h⟩
  · obtain⟨_,a,h⟩:=b5 h;cases h;exact mF 1 [cA 19 (qvV a)]
  ·
   obtain⟨_,a,h⟩:=qh h;replace h:=qf h;rcases h with⟨_,rfl,h⟩|⟨_,rfl,h⟩
   · replace h:=t6 h;cases h;exact mF 1 [cA 23 (vk a)]
   · replace h:=t4 h;obtain⟨_,b,h⟩:=qh h;replace h:=qf h;rcases h with⟨_,rfl,h⟩|⟨_,rfl,h⟩
     · replace h:=t6 h;cases h;exact mF 1 [cA 23 (vk a),cA 27 (vk b)]
     · replace h:=t4 h;exact mG 1 (ih _ _ h) 11 [cA 23 (vk a),cA 27 (vk b)] 65 36893488147419103226 [] [(⟨⟨.slot 2,[]⟩,0,0⟩,some 4)]
 |.h1 a ..,h=>by
  obtain⟨_,b,h⟩:=qh h;replace h:=qf h;rcases h with⟨_,rfl,h⟩|⟨_,rfl,h⟩
  · replace h:=t6 h;cases h;exact mF 1 [cA 32 (qw9 b)]
  ·
   replace h:=qw0 h;obtain⟨c,d,e,f,_,_,_,_,rfl,h⟩:=h;obtain⟨g,h⟩:=zo h;obtain⟨_,i,h⟩:=b4 h;rcases qa h with⟨j,h⟩|⟨j,h⟩
   · obtain⟨_,l,h⟩:=qh h;replace h:=qf h;rcases h with⟨_,rfl,h⟩|⟨_,rfl,h⟩
     · replace h:=t6 h;cases h;exact mF 1 [cA 32 (qw9 b),⟨(some 34,.okE false),[_],⟨okF [[ic c,sc d,sc e,ic f]] g,trivial⟩⟩,cA 38 (zt i),tT 39 j,cA 52 (vk l)]
     · replace h:=t4 h;obtain⟨m,h⟩:=zo h;cases h;exact mF 1 [cA 32 (qw9 b),⟨(some 34,.okE false),[_],⟨okF [[ic c,sc d,sc e,ic f]] g,trivial⟩⟩,cA 38 (zt i),tT 39 j,cA 52 (vk l),⟨(some 61,.okE false),[_],⟨okF [[.imm (qG (a++[[ic c,sc d,sc e,ic f]]))]] m,trivial⟩⟩]
   · exact mA 1 (ih _ _ h) 11 [cA 32 (qw9 b),⟨(some 34,.okE false),[_],⟨okF [[ic c,sc d,sc e,ic f]] g,trivial⟩⟩,cA 38 (zt i),tF 39 j] 65 36893488147419103226
theorem qw8 {k:Nat}{a:Rs}{b:Int}{c d:Rs}{e f:Int}{g:By}{i:Int}{r:R42b}(h:g42b k a b c d e f g i=some r):E42b a b c d e f g i r:=qyG (qzy _ _ _ h)
inductive S88 where
 |e (a:Rs)(b c:Int)
abbrev R88:=Int×By×Int×Int×Int×Rs
def qy2:R88→ARes
 |(a,b,c,d,e,_)=>.ret (.ag [ic a,sc b,ic c,ic d,ic e])
def bx88 (b0_1:Int)(b0_2:Int):R88→List (List Cell)
 |(_,_,_,_,_,a)=>[[.imm a,ic b0_1,ic b0_2]]
noncomputable def qxQ (k:Nat)(rec:S88→Option R88):S88→Option R88
 |.e a b ..=>
  bif decide (b<(a.length:Int))then
   ixR a b fun c=>
   qaM c fun d e f g i=>
   some (d,e,f,g,i,a)
  else
   some (0,strB [],0,0,0,a)
noncomputable def g88 (k:Nat)(a:Rs)(b c:Int):Option R88:=itS qxQ k (.e a b c)
noncomputable def P88:S88→R88→Prop
 |.e a b c,r=>Fin cx88 Tryz.f88 [.code qyc] (fr0 Tryz.f88 [pP 0] [[.imm a,ic b,ic c]]) (qy2 r) (bx88 b c r)
abbrev E88 (a:Rs)(b c:Int)(r:R88):Prop:=Ev Tryz.prog noHand 88 [pP 0] [[.imm a,ic b,ic c]] (qy2 r) (bx88 b c r)
theorem qzk {a:Rs}{b c:Int}{r:R88}(h:P88 (.e a b c) r):E88 a b c r:=evF h
theorem ok88:∀ k s r,itS qxQ k s=some r→P88 s r:=qF fun k rec ih s r h=>match s,h with
 |.e ..,h=>by
  rcases qa h with⟨a,h⟩|⟨a,h⟩
  · obtain⟨_,b,h⟩:=YJ h;replace h:=qca h;obtain⟨_,_,_,_,_,rfl,h⟩:=h;cases h;exact mF 1 [tT 12 a,rA 21 b]
  · cases h;exact mF 1 [tF 12 a]
theorem ev88 {k:Nat}{a:Rs}{b c:Int}{r:R88}(h:g88 k a b c=some r):E88 a b c r:=qzk (ok88 _ _ _ h)
inductive S77 where
 |e (a:By)(b:Rs)(c d:Int)
abbrev R77:=Bool×Rs
def qy1:R77→ARes
 |(r,_)=>.ret (.c (bc r))
def bx77 (b0_1:Int)(b0_2:Int):R77→List (List Cell)
 |(_,a)=>[[.imm a,ic b0_1,ic b0_2]]
noncomputable def qxP (k:Nat)(rec:S77→Option R77):S77→Option R77
 |.e a b c d=>
  (g88 k b c d).bind fun e=>
  tup6 e fun f g _ _ _ i=>
  bif f==1 then
   some (g.toList==a.toList,i)
  else
   bif f==6 then
    some (g.toList==a.toList,i)
   else
    some (false,i)
noncomputable def g77 (k:Nat)(a:By)(b:Rs)(c d:Int):Option R77:=itS qxP k (.e a b c d)
noncomputable def P77:S77→R77→Prop
 |.e a b c d,r=>Fin cx77 Tryz.f77 [.code qyb] (fr0 Tryz.f77 [pP 0,.c (sc a)] [[.imm b,ic c,ic d]]) (qy1 r) (bx77 c d r)
abbrev E77 (a:By)(b:Rs)(c d:Int)(r:R77):Prop:=Ev Tryz.prog noHand 77 [pP 0,.c (sc a)] [[.imm b,ic c,ic d]] (qy1 r) (bx77 c d r)
theorem qzj {a:By}{b:Rs}{c d:Int}{r:R77}(h:P77 (.e a b c d) r):E77 a b c d r:=evF h
theorem ok77:∀ k s r,itS qxP k s=some r→P77 s r:=qF fun k rec ih s r h=>match s,h with
 |.e ..,h=>by
  obtain⟨_,a,h⟩:=b6 h;rcases qa h with⟨b,h⟩|⟨b,h⟩
  · cases h;exact mF 1 [cA 7 (ev88 a),tT 10 b]
  · rcases qa h with⟨c,h⟩|⟨c,h⟩
    · cases h;exact mF 1 [cA 7 (ev88 a),tF 10 b,tT 14 c]
    · cases h;exact mF 1 [cA 7 (ev88 a),tF 10 b,tF 14 c]
theorem ev77 {k:Nat}{a:By}{b:Rs}{c d:Int}{r:R77}(h:g77 k a b c d=some r):E77 a b c d r:=qzj (ok77 _ _ _ h)
inductive S119 where
 |e (a:Rs)(b c:Int)
abbrev R119:=(Int×Int×Rs×Int)⊕(By×Rs×Int)
def qxy:R119→ARes
 |(.inl (a,b,_,_))=>.panic (.iface 109 (.agg #[.int .i64 a,.int .i64 b]))
 |(.inr (r,_,_))=>.ret (.c (sc r))
def qyj (b0_2:Int):R119→List (List Cell)
 |(.inl (_,_,a,b))=>[[.imm a,ic b,ic b0_2]]
 |(.inr (_,a,b))=>[[.imm a,ic b,ic b0_2]]
noncomputable def qwN (k:Nat)(rec:S119→Option R119):S119→Option R119
 |.e a b c=>
  (g88 k a b c).bind fun d=>
  tup6 d fun e f _ _ g i=>
  bif e != 2 then
   some (.inl (g,13,i,b))
  else
   some (.inr (f,i,IntKind.i64.wrap (b+1)))
noncomputable def g119 (k:Nat)(a:Rs)(b c:Int):Option R119:=itS qwN k (.e a b c)
noncomputable def P119:S119→R119→Prop
 |.e a b c,r=>Fin qzd Tryz.f119 [.code qxV] (fr0 Tryz.f119 [pP 0] [[.imm a,ic b,ic c]]) (qxy r) (qyj c r)
abbrev E119 (a:Rs)(b c:Int)(r:R119):Prop:=Ev Tryz.prog noHand 119 [pP 0] [[.imm a,ic b,ic c]] (qxy r) (qyj c r)
theorem qyC {a:Rs}{b c:Int}{r:R119}(h:P119 (.e a b c) r):E119 a b c r:=evF h
theorem qzu:∀ k s r,itS qwN k s=some r→P119 s r:=qF fun k rec ih s r h=>match s,h with
 |.e ..,h=>by
  obtain⟨_,a,h⟩:=b6 h;rcases qa h with⟨b,h⟩|⟨b,h⟩
  · cases h;exact mF 1 [cA 5 (ev88 a),tT 8 b]
  · cases h;exact mF 1 [cA 5 (ev88 a),tF 8 b]
theorem qvR {k:Nat}{a:Rs}{b c:Int}{r:R119}(h:g119 k a b c=some r):E119 a b c r:=qyC (qzu _ _ _ h)
inductive S115 where
 |e (a:By)(b:Rs)(c d:Int)
abbrev R115:=(Int×Int×Rs×Int)⊕(Rs×Int)
def qxx:R115→ARes
 |(.inl (a,b,_,_))=>.panic (.iface 109 (.agg #[.int .i64 a,.int .i64 b]))
 |(.inr (_,_))=>.ret .undef
def qyi (b0_2:Int):R115→List (List Cell)
 |(.inl (_,_,a,b))=>[[.imm a,ic b,ic b0_2]]
 |(.inr (a,b))=>[[.imm a,ic b,ic b0_2]]
noncomputable def qwM (k:Nat)(rec:S115→Option R115):S115→Option R115
 |.e a b c d=>
  (g77 k a b c d).bind fun e=>
  tup2 e fun f g=>
  bif !f then
   (g88 k g c d).bind fun i=>
   tup6 i fun _ _ _ _ j l=>
   some (.inl (j,13,l,c))
  else
   some (.inr (g,IntKind.i64.wrap (c+1)))
noncomputable def g115 (k:Nat)(a:By)(b:Rs)(c d:Int):Option R115:=itS qwM k (.e a b c d)
noncomputable def P115:S115→R115→Prop
 |.e a b c d,r=>Fin qzc Tryz.f115 [.code qxU] (fr0 Tryz.f115 [pP 0,.c (sc a)] [[.imm b,ic c,ic d]]) (qxx r) (qyi d r)
abbrev E115 (a:By)(b:Rs)(c d:Int)(r:R115):Prop:=Ev Tryz.prog noHand 115 [pP 0,.c (sc a)] [[.imm b,ic c,ic d]] (qxx r) (qyi d r)
theorem qyB {a:By}{b:Rs}{c d:Int}{r:R115}(h:P115 (.e a b c d) r):E115 a b c d r:=evF h
theorem qzt:∀ k s r,itS qwM k s=some r→P115 s r:=qF fun k rec ih s r h=>match s,h with
 |.e ..,h=>by
  obtain⟨_,a,h⟩:=b2 h;rcases qa h with⟨b,h⟩|⟨b,h⟩
  · obtain⟨_,c,h⟩:=b6 h;cases h;exact mF 1 [cA 6 (ev77 a),tT 7 b,cA 9 (ev88 c)]
  · cases h;exact mF 1 [cA 6 (ev77 a),tF 7 b]
theorem qu4 {k:Nat}{a:By}{b:Rs}{c d:Int}{r:R115}(h:g115 k a b c d=some r):E115 a b c d r:=qyB (qzt _ _ _ h)
inductive S114 where
 |e (a:Rs)(b c:Int)
abbrev R114:=(Int×Int×Rs×Int)⊕(By×By×Rs×Int)
def qxw:R114→ARes
 |(.inl (a,b,_,_))=>.panic (.iface 109 (.agg #[.int .i64 a,.int .i64 b]))
 |(.inr (a,b,_,_))=>.ret ⟨.tup [false,false],[[sc a],[sc b]]⟩
def qyh (b0_2:Int):R114→List (List Cell)
 |(.inl (_,_,a,b))=>[[.imm a,ic b,ic b0_2]]
 |(.inr (_,_,a,b))=>[[.imm a,ic b,ic b0_2]]
noncomputable def qwL (k:Nat)(rec:S114→Option R114):S114→Option R114
 |.e a b c=>
  (g119 k a b c).bind fun d=>
  altC d (fun e=>
    tup4 e fun f g i j=>
    some (.inl (f,g,i,j))) (fun e=>
    tup3 e fun l i j=>
    (g115 k (strB [46]) i j c).bind fun m=>
    altC m (fun n=>
      tup4 n fun o p q t=>
      some (.inl (o,p,q,t))) (fun n=>
      tup2 n fun q t=>
      (g77 k (strB [84,73,77,69]) q t c).bind fun u=>
      tup2 u fun v w=>
      bif v then
       some (.inr (l,strB [84,73,77,69],w,IntKind.i64.wrap (t+1)))
      else
       (g119 k w t c).bind fun x=>
       altC x (fun y=>
         tup4 y fun z a1 b1 c1=>
         some (.inl (z,a1,b1,c1))) (fun y=>
         tup3 y fun d1 b1 c1=>
         some (.inr (l,d1,b1,c1)))))
noncomputable def g114 (k:Nat)(a:Rs)(b c:Int):Option R114:=itS qwL k (.e a b c)
noncomputable def P114:S114→R114→Prop
 |.e a b c,r=>Fin qzb Tryz.f114 [.code qxT] (fr0 Tryz.f114 [pP 0] [[.imm a,ic b,ic c]]) (qxw r) (qyh c r)
abbrev E114 (a:Rs)(b c:Int)(r:R114):Prop:=Ev Tryz.prog noHand 114 [pP 0] [[.imm a,ic b,ic c]] (qxw r) (qyh c r)
theorem qyA {a:Rs}{b c:Int}{r:R114}(h:P114 (.e a b c) r):E114 a b c r:=evF h
theorem qzs:∀ k s r,itS qwL k s=some r→P114 s r:=qF fun k rec ih s r h=>match s,h with
 |.e ..,h=>by
  obtain⟨_,a,h⟩:=qh h;replace h:=qf h;rcases h with⟨_,rfl,h⟩|⟨_,rfl,h⟩
  · replace h:=t4 h;cases h;exact mF 1 [cA 6 (qvR a)]
  ·
   replace h:=t3 h;obtain⟨_,b,h⟩:=qh h;replace h:=qf h;rcases h with⟨_,rfl,h⟩|⟨_,rfl,h⟩
   · replace h:=t4 h;cases h;exact mF 1 [cA 6 (qvR a),cA 8 (qu4 b)]
   ·
    replace h:=t2 h;obtain⟨_,c,h⟩:=qh h;replace h:=QD h;obtain⟨_,_,rfl,h⟩:=h;replace h:=qa h;rcases h with⟨rfl,h⟩|⟨rfl,h⟩
    · cases h;exact mF 1 [cA 6 (qvR a),cA 8 (qu4 b),cA 10 (ev77 c)]
    · obtain⟨_,d,h⟩:=qh h;replace h:=qf h;rcases h with⟨_,rfl,h⟩|⟨_,rfl,h⟩
      · replace h:=t4 h;cases h;exact mF 1 [cA 6 (qvR a),cA 8 (qu4 b),cA 10 (ev77 c),cA 21 (qvR d)]
      · replace h:=t3 h;cases h;exact mF 1 [cA 6 (qvR a),cA 8 (qu4 b),cA 10 (ev77 c),cA 21 (qvR d)]
theorem qw7 {k:Nat}{a:Rs}{b c:Int}{r:R114}(h:g114 k a b c=some r):E114 a b c r:=qyA (qzs _ _ _ h)
inductive S98 where
 |e (a:Rs)(b c:Int)
abbrev R98:=(Int×Int×Rs×Int×Int)⊕(Int×Rs×Int×Int)
def qy3:R98→ARes
 |(.inl (a,b,_,_,_))=>.panic (.iface 109 (.agg #[.int .i64 a,.int .i64 b]))
 |(.inr (r,_,_,_))=>.ret (.c (ic r))
def bx98:R98→List (List Cell)
 |(.inl (_,_,a,b,c))=>[[.imm a,ic b,ic c]]
 |(.inr (_,a,b,c))=>[[.imm a,ic b,ic c]]
noncomputable def qxR (k:Nat)(rec:S98→Option R98):S98→Option R98
 |.e a b c=>
  (g88 k a b c).bind fun d=>
  tup6 d fun _ _ _ _ e f=>
  bif c==30 then
   some (.inl (e,14,f,b,c))
  else
   some (.inr (e,f,IntKind.i64.wrap (b+1),IntKind.i64.wrap (c+1)))
noncomputable def g98 (k:Nat)(a:Rs)(b c:Int):Option R98:=itS qxR k (.e a b c)
noncomputable def P98:S98→R98→Prop
 |.e a b c,r=>Fin cx98 Tryz.f98 [.code qyd] (fr0 Tryz.f98 [pP 0] [[.imm a,ic b,ic c]]) (qy3 r) (bx98 r)
abbrev E98 (a:Rs)(b c:Int)(r:R98):Prop:=Ev Tryz.prog noHand 98 [pP 0] [[.imm a,ic b,ic c]] (qy3 r) (bx98 r)
theorem qzl {a:Rs}{b c:Int}{r:R98}(h:P98 (.e a b c) r):E98 a b c r:=evF h
theorem ok98:∀ k s r,itS qxR k s=some r→P98 s r:=qF fun k rec ih s r h=>match s,h with
 |.e ..,h=>by
  obtain⟨_,a,h⟩:=b6 h;rcases qa h with⟨b,h⟩|⟨b,h⟩
  · cases h;exact mF 1 [cA 5 (ev88 a),tT 10 b]
  · cases h;exact mF 1 [cA 5 (ev88 a),tF 10 b]
theorem ev98 {k:Nat}{a:Rs}{b c:Int}{r:R98}(h:g98 k a b c=some r):E98 a b c r:=qzl (ok98 _ _ _ h)
end Ab
end Go.Proofs.YtpdhhkfllkgahaaGreatDoor
