/-
  Functions' ways, printed by a program: what each computes, and that this is what the interpreter computes.
-/
import Derived.Test.YtfekohpjaafnhaaGreatDoorFEcq
import Derived.KernelRfl
set_option linter.all false
set_option maxRecDepth 10000
namespace Go.Proofs.YtfekohpjaafnhaaGreatDoor
namespace Ab
variable [vo]
inductive S73 where
 |e (a:Int)(b:By)(c d e:Int)
 |h0 (a:By)(b:Int)(c:By)(d e f:Int)
 |h1 (a:By)(b:Bool)(c:Int)(d:By)(e f g:Int)
abbrev R73:=By
def qrV:R73→ARes
 |r=>.ret (.c (sc r))
def bx73:R73→List (List Cell)
 |_=>[]
noncomputable def qsw (k:Nat)(rec:S73→Option R73):S73→Option R73
 |.e a b c d e=>
  bif a==3 then
   (fmtX c).bind fun f=>
   some f
  else
   bif a==4 then
    (fmtX c).bind fun g=>
    rec (.h0 g a b c d e)
   else
    bif a==5 then
     gd (decide ((strB [39]).size+b.size≤1000000000)) <|
     gd (decide (((strB [39])++b).size+(strB [39]).size≤1000000000)) <|
     some (((strB [39])++b)++(strB [39]))
    else
     some b
 |.h0 a b c d e f=>
  bif decide ((a.size:Int)≤e)then
   gd (decide ((strB [48]).size+a.size≤1000000000)) <|
   rec (.h0 ((strB [48])++a) b c d e f)
  else
   bif decide (e<0)then
    rec (.h1 a true b c d e f)
   else
    rec (.h1 a (decide ((a.size:Int)<e)) b c d e f)
 |.h1 a b _ _ _ c ..=>
  bif b then
   some (strB [])
  else
   gd (decide (0≤(0:Int)∧(0:Int)≤(IntKind.i64.wrap ((a.size:Int)-c))∧(IntKind.i64.wrap ((a.size:Int)-c))≤(a.size:Int))) <|
   gd (decide ((a.extract (Int.toNat (0:Int)) (Int.toNat (IntKind.i64.wrap ((a.size:Int)-c)))).size+(strB [46]).size≤1000000000)) <|
   gd (decide (0≤(IntKind.i64.wrap ((a.size:Int)-c))∧(IntKind.i64.wrap ((a.size:Int)-c))≤(a.size:Int)∧(a.size:Int)≤(a.size:Int))) <|
   gd (decide (((a.extract (Int.toNat (0:Int)) (Int.toNat (IntKind.i64.wrap ((a.size:Int)-c))))++(strB [46])).size+(a.extract (Int.toNat (IntKind.i64.wrap ((a.size:Int)-c))) (Int.toNat (a.size:Int))).size≤1000000000)) <|
   some (((a.extract (Int.toNat (0:Int)) (Int.toNat (IntKind.i64.wrap ((a.size:Int)-c))))++(strB [46]))++(a.extract (Int.toNat (IntKind.i64.wrap ((a.size:Int)-c))) (Int.toNat (a.size:Int))))
noncomputable def g73 (k:Nat)(a:Int)(b:By)(c d e:Int):Option R73:=itS qsw k (.e a b c d e)
noncomputable def P73:S73→R73→Prop
 |.e a b c d e,r=>Fin cx73 Tryz.f73 [.code qrf] (fr0 Tryz.f73 [.ag [ic a,sc b,ic c,ic d,ic e]] []) (qrV r) (bx73 r)
 |.h0 a b c d e f,r=>Fin cx73 Tryz.f73 (kAt qrf [1,0,1,0,1,1,1,0,1,0,0,4] []) ⟨[.deadv,pL 1,.deadv,.c (sc a)]++rep 53 .deadv,[(.loc 1,[ic b,sc c,ic d,ic e,ic f])]⟩ (qrV r) (bx73 r)
 |.h1 a b c d e f g,r=>Fin cx73 Tryz.f73 (kAt qrf [1,0,1,0,1,1,1,0,1,1,0,1,2] []) ⟨[.deadv,pL 1,.deadv,.c (sc a)]++rep 28 .deadv++[.c (bc b)]++rep 24 .deadv,[(.loc 1,[ic c,sc d,ic e,ic f,ic g])]⟩ (qrV r) (bx73 r)
abbrev E73 (a:Int)(b:By)(c d e:Int)(r:R73):Prop:=Ev Tryz.prog noHand 73 [.ag [ic a,sc b,ic c,ic d,ic e]] [] (qrV r) (bx73 r)
theorem qux {a:Int}{b:By}{c d e:Int}{r:R73}(h:P73 (.e a b c d e) r):E73 a b c d e r:=evF h
theorem ok73:∀ k s r,itS qsw k s=some r→P73 s r:=qF fun k rec ih s r h=>match s,h with
 |.e ..,h=>by
  rcases qa h with⟨a,h⟩|⟨a,h⟩
  · obtain⟨_,b,h⟩:=qh h;cases h;exact mF 0 [tT 7 a,cA 10 (qij b)]
  ·
   rcases qa h with⟨c,h⟩|⟨c,h⟩
   · obtain⟨_,d,h⟩:=qh h;exact mA 0 (ih _ _ h) 17 [tF 7 a,tT 12 c,cA 15 (qij d)] 57 144115188075855861
   · rcases qa h with⟨b,h⟩|⟨b,h⟩
     · obtain⟨d,h⟩:=zo h;obtain⟨e,h⟩:=zo h;cases h;exact mF 0 [tF 7 a,tF 12 c,tT 50 b,xC 53 d,xC 54 e]
     · cases h;exact mF 0 [tF 7 a,tF 12 c,tF 50 b]
 |.h0 ..,h=>by
  rcases qa h with⟨a,h⟩|⟨a,h⟩
  · obtain⟨b,h⟩:=zo h;exact mA 0 (ih _ _ h) 9 [tT 20 a,xC 22 b] 57 144115188075855861
  · rcases qa h with⟨b,h⟩|⟨b,h⟩
    · exact mA 0 (ih _ _ h) 9 [tF 20 a,tT 25 b] 57 144115183780888565
    · exact mA 0 (ih _ _ h) 9 [tF 20 a,tF 25 b] 57 144115183780888565
 |.h1 ..,h=>by
  replace h:=qa h;rcases h with⟨rfl,h⟩|⟨rfl,h⟩
  · cases h;exact mF 0 []
  · obtain⟨a,h⟩:=zo h;obtain⟨b,h⟩:=zo h;obtain⟨c,h⟩:=zo h;obtain⟨d,h⟩:=zo h;cases h;exact mF 0 [xS 39 a,xC 40 b,xS 47 c,xC 48 d]
theorem ev73 {k:Nat}{a:Int}{b:By}{c d e:Int}{r:R73}(h:g73 k a b c d e=some r):E73 a b c d e r:=qux (ok73 _ _ _ h)
inductive S52 where
 |e (a:Int)(b:Rs)(c d:Int)(e f:By)(g:Int)
 |h0 (a:Bool)(b:Int)(c:Rs)(d e:Int)(f g:By)(i:Int)
abbrev R52:=Bool
def qlx:R52→ARes
 |r=>.ret (.c (bc r))
def bx52:R52→List (List Cell)
 |_=>[]
noncomputable def qfC (k:Nat)(rec:S52→Option R52):S52→Option R52
 |.e a b c d e f g=>
  bif decide (a≥23)then
   bif decide (a≤31)then
    bif a != 23 then
     (YF e).bind fun i=>
     bif true != i then
      rec (.h0 true a b c d e f g)
     else
      (YF f).bind fun j=>
      bif j then
       bif (a != 25)!=true then
        rec (.h0 true a b c d e f g)
       else
        bif !(a != 25)then
         rec (.h0 (!(f.toList==(strB []).toList)) a b c d e f g)
        else
         rec (.h0 false a b c d e f g)
      else
       bif (a != 25)!=(f.toList==(strB [84,73,77,69]).toList)then
        rec (.h0 true a b c d e f g)
       else
        bif !(a != 25)then
         rec (.h0 (!(f.toList==(strB []).toList)) a b c d e f g)
        else
         rec (.h0 false a b c d e f g)
    else
     (YF e).bind fun i=>
     bif true != i then
      rec (.h0 true a b c d e f g)
     else
      (YF f).bind fun j=>
      bif j then
       rec (.h0 true a b c d e f g)
      else
       bif false != (f.toList==(strB [84,73,77,69]).toList)then
        rec (.h0 true a b c d e f g)
       else
        rec (.h0 (!(f.toList==(strB []).toList)) a b c d e f g)
   else
    (YF e).bind fun l=>
    bif false != l then
     rec (.h0 true a b c d e f g)
    else
     bif !(e.toList==(strB []).toList)then
      rec (.h0 true a b c d e f g)
     else
      (YF f).bind fun j=>
      bif j then
       rec (.h0 true a b c d e f g)
      else
       bif false != (f.toList==(strB [84,73,77,69]).toList)then
        rec (.h0 true a b c d e f g)
       else
        rec (.h0 (!(f.toList==(strB []).toList)) a b c d e f g)
  else
   (YF e).bind fun m=>
   bif false != m then
    rec (.h0 true a b c d e f g)
   else
    bif !(e.toList==(strB []).toList)then
     rec (.h0 true a b c d e f g)
    else
     (YF f).bind fun n=>
     bif n then
      rec (.h0 true a b c d e f g)
     else
      bif false != (f.toList==(strB [84,73,77,69]).toList)then
       rec (.h0 true a b c d e f g)
      else
       rec (.h0 (!(f.toList==(strB []).toList)) a b c d e f g)
 |.h0 a b _ c d ..=>
  bif a then
   some false
  else
   bif b==20 then
    bif decide (c≥0)then
     some (d==0)
    else
     some false
   else
    bif b==22 then
     bif decide (c≥0)then
      bif decide (c≤1)then
       some (d==0)
      else
       some false
     else
      some false
    else
     bif b==21 then
      bif decide (c≥0)then
       bif decide (d≥1)then
        bif decide (d≤14)then
         (g73 k 4 (strB []) c d 0).bind fun e=>
         some (decide ((e.size:Int)≤16))
        else
         some false
       else
        some false
      else
       some false
     else
      bif c==0 then
       some (d==0)
      else
       some false
noncomputable def g52 (k:Nat)(a:Int)(b:Rs)(c d:Int)(e f:By)(g:Int):Option R52:=itS qfC k (.e a b c d e f g)
noncomputable def P52:S52→R52→Prop
 |.e a b c d e f g,r=>Fin cx52 Tryz.f52 [.code qmV] (fr0 Tryz.f52 [.ag [ic a,.imm b,ic c,ic d,sc e,sc f,ic g]] []) (qlx r) (bx52 r)
 |.h0 a b c d e f g i,r=>Fin cx52 Tryz.f52 (kAt qmV [1,1,1,0,1,2] []) ⟨[.deadv,pL 1]++rep 56 .deadv++[.c (bc a)]++rep 60 .deadv,[(.loc 1,[ic b,.imm c,ic d,ic e,sc f,sc g,ic i])]⟩ (qlx r) (bx52 r)
abbrev E52 (a:Int)(b:Rs)(c d:Int)(e f:By)(g:Int)(r:R52):Prop:=Ev Tryz.prog noHand 52 [.ag [ic a,.imm b,ic c,ic d,sc e,sc f,ic g]] [] (qlx r) (bx52 r)
theorem qnn {a:Int}{b:Rs}{c d:Int}{e f:By}{g:Int}{r:R52}(h:P52 (.e a b c d e f g) r):E52 a b c d e f g r:=evF h
theorem ok52:∀ k s r,itS qfC k s=some r→P52 s r:=qF fun k rec ih s r h=>match s,h with
 |.e ..,h=>by
  rcases qa h with⟨a,h⟩|⟨a,h⟩
  ·
   rcases qa h with⟨b,h⟩|⟨b,h⟩
   ·
    rcases qa h with⟨c,h⟩|⟨c,h⟩
    ·
     obtain⟨_,d,h⟩:=qh h;rcases qa h with⟨e,h⟩|⟨e,h⟩
     · exact mA 0 (ih _ _ h) 9 [tT 7 a,tT 11 b,tT 17 c,cA 27 (qi d),tT 28 e] 119 664613997892457936163673153988460541
     ·
      obtain⟨_,f,h⟩:=qh h;replace h:=qa h;rcases h with⟨rfl,h⟩|⟨rfl,h⟩
      · rcases qa h with⟨g,h⟩|⟨g,h⟩
        · exact mA 0 (ih _ _ h) 9 [tT 7 a,tT 11 b,tT 17 c,cA 27 (qi d),tF 28 e,cA 42 (qi f),tT 48 g] 119 664613997892457936163673153988460541
        · rcases qa h with⟨i,h⟩|⟨i,h⟩
          · exact mA 0 (ih _ _ h) 9 [tT 7 a,tT 11 b,tT 17 c,cA 27 (qi d),tF 28 e,cA 42 (qi f),tF 48 g,tT 52 i] 119 664613997892457936163673153988460541
          · exact mA 0 (ih _ _ h) 9 [tT 7 a,tT 11 b,tT 17 c,cA 27 (qi d),tF 28 e,cA 42 (qi f),tF 48 g,tF 52 i] 119 664613997892457936163673153988460541
      · rcases qa h with⟨g,h⟩|⟨g,h⟩
        · exact mA 0 (ih _ _ h) 9 [tT 7 a,tT 11 b,tT 17 c,cA 27 (qi d),tF 28 e,cA 42 (qi f),tT 48 g] 119 664613997892457936163673153988460541
        · rcases qa h with⟨i,h⟩|⟨i,h⟩
          · exact mA 0 (ih _ _ h) 9 [tT 7 a,tT 11 b,tT 17 c,cA 27 (qi d),tF 28 e,cA 42 (qi f),tF 48 g,tT 52 i] 119 664613997892457936163673153988460541
          · exact mA 0 (ih _ _ h) 9 [tT 7 a,tT 11 b,tT 17 c,cA 27 (qi d),tF 28 e,cA 42 (qi f),tF 48 g,tF 52 i] 119 664613997892457936163673153988460541
    ·
     obtain⟨_,d,h⟩:=qh h;rcases qa h with⟨e,h⟩|⟨e,h⟩
     · exact mA 0 (ih _ _ h) 9 [tT 7 a,tT 11 b,tF 17 c,cA 27 (qi d),tT 28 e] 119 664613997892457936163673153988460541
     · obtain⟨_,f,h⟩:=qh h;replace h:=qa h;rcases h with⟨rfl,h⟩|⟨rfl,h⟩
       · exact mA 0 (ih _ _ h) 9 [tT 7 a,tT 11 b,tF 17 c,cA 27 (qi d),tF 28 e,cA 42 (qi f)] 119 664613997892457936163673153988460541
       · rcases qa h with⟨g,h⟩|⟨g,h⟩
         · exact mA 0 (ih _ _ h) 9 [tT 7 a,tT 11 b,tF 17 c,cA 27 (qi d),tF 28 e,cA 42 (qi f),tT 48 g] 119 664613997892457936163673153988460541
         · exact mA 0 (ih _ _ h) 9 [tT 7 a,tT 11 b,tF 17 c,cA 27 (qi d),tF 28 e,cA 42 (qi f),tF 48 g] 119 664613997892457936163673153988460541
   ·
    obtain⟨_,j,h⟩:=qh h;rcases qa h with⟨d,h⟩|⟨d,h⟩
    · exact mA 0 (ih _ _ h) 9 [tT 7 a,tF 11 b,cA 27 (qi j),tT 28 d] 119 664613997892457936163673153988460541
    ·
     rcases qa h with⟨e,h⟩|⟨e,h⟩
     · exact mA 0 (ih _ _ h) 9 [tT 7 a,tF 11 b,cA 27 (qi j),tF 28 d,tT 35 e] 119 664613997892457936163673153988460541
     · obtain⟨_,f,h⟩:=qh h;replace h:=qa h;rcases h with⟨rfl,h⟩|⟨rfl,h⟩
       · exact mA 0 (ih _ _ h) 9 [tT 7 a,tF 11 b,cA 27 (qi j),tF 28 d,tF 35 e,cA 42 (qi f)] 119 664613997892457936163673153988460541
       · rcases qa h with⟨g,h⟩|⟨g,h⟩
         · exact mA 0 (ih _ _ h) 9 [tT 7 a,tF 11 b,cA 27 (qi j),tF 28 d,tF 35 e,cA 42 (qi f),tT 48 g] 119 664613997892457936163673153988460541
         · exact mA 0 (ih _ _ h) 9 [tT 7 a,tF 11 b,cA 27 (qi j),tF 28 d,tF 35 e,cA 42 (qi f),tF 48 g] 119 664613997892457936163673153988460541
  ·
   obtain⟨_,c,h⟩:=qh h;rcases qa h with⟨j,h⟩|⟨j,h⟩
   · exact mA 0 (ih _ _ h) 9 [tF 7 a,cA 27 (qi c),tT 28 j] 119 664613997892457936163673153988460541
   ·
    rcases qa h with⟨d,h⟩|⟨d,h⟩
    · exact mA 0 (ih _ _ h) 9 [tF 7 a,cA 27 (qi c),tF 28 j,tT 35 d] 119 664613997892457936163673153988460541
    ·
     obtain⟨_,l,h⟩:=qh h;replace h:=qa h;rcases h with⟨rfl,h⟩|⟨rfl,h⟩
     · exact mA 0 (ih _ _ h) 9 [tF 7 a,cA 27 (qi c),tF 28 j,tF 35 d,cA 42 (qi l)] 119 664613997892457936163673153988460541
     · rcases qa h with⟨f,h⟩|⟨f,h⟩
       · exact mA 0 (ih _ _ h) 9 [tF 7 a,cA 27 (qi c),tF 28 j,tF 35 d,cA 42 (qi l),tT 48 f] 119 664613997892457936163673153988460541
       · exact mA 0 (ih _ _ h) 9 [tF 7 a,cA 27 (qi c),tF 28 j,tF 35 d,cA 42 (qi l),tF 48 f] 119 664613997892457936163673153988460541
 |.h0 ..,h=>by
  replace h:=qa h;rcases h with⟨rfl,h⟩|⟨rfl,h⟩
  · cases h;exact mF 0 []
  ·
   rcases qa h with⟨a,h⟩|⟨a,h⟩
   · rcases qa h with⟨b,h⟩|⟨b,h⟩
     · cases h;exact mF 0 [tT 62 a,tT 65 b]
     · cases h;exact mF 0 [tT 62 a,tF 65 b]
   ·
    rcases qa h with⟨b,h⟩|⟨b,h⟩
    ·
     rcases qa h with⟨c,h⟩|⟨c,h⟩
     · rcases qa h with⟨d,h⟩|⟨d,h⟩
       · cases h;exact mF 0 [tF 62 a,tT 72 b,tT 75 c,tT 79 d]
       · cases h;exact mF 0 [tF 62 a,tT 72 b,tT 75 c,tF 79 d]
     · cases h;exact mF 0 [tF 62 a,tT 72 b,tF 75 c]
    ·
     rcases qa h with⟨c,h⟩|⟨c,h⟩
     ·
      rcases qa h with⟨d,h⟩|⟨d,h⟩
      · rcases qa h with⟨e,h⟩|⟨e,h⟩
        · rcases qa h with⟨f,h⟩|⟨f,h⟩
          · obtain⟨_,g,h⟩:=qh h;cases h;exact mF 0 [tF 62 a,tF 72 b,tT 87 c,tT 90 d,tT 94 e,tT 99 f,cA 107 (ev73 g)]
          · cases h;exact mF 0 [tF 62 a,tF 72 b,tT 87 c,tT 90 d,tT 94 e,tF 99 f]
        · cases h;exact mF 0 [tF 62 a,tF 72 b,tT 87 c,tT 90 d,tF 94 e]
      · cases h;exact mF 0 [tF 62 a,tF 72 b,tT 87 c,tF 90 d]
     · rcases qa h with⟨d,h⟩|⟨d,h⟩
       · cases h;exact mF 0 [tF 62 a,tF 72 b,tF 87 c,tT 113 d]
       · cases h;exact mF 0 [tF 62 a,tF 72 b,tF 87 c,tF 113 d]
theorem ev52 {k:Nat}{a:Int}{b:Rs}{c d:Int}{e f:By}{g:Int}{r:R52}(h:g52 k a b c d e f g=some r):E52 a b c d e f g r:=qnn (ok52 _ _ _ h)
inductive S26 where
 |e (a:Int)(b:Rs)(c d:Int)(e f:By)(g:Int)
 |h0 (a:Bool)(b:Int)(c:Rs)(d e:Int)(f g:By)(i:Int)
 |h1 (a:Rs)(b c:Int)
abbrev R26:=Bool
def qlX:R26→ARes
 |r=>.ret (.c (bc r))
def bx26:R26→List (List Cell)
 |_=>[]
noncomputable def qsr (k:Nat)(rec:S26→Option R26):S26→Option R26
 |.e a b c d e f g=>
  (g51 k a).bind fun i=>
  bif i != (b.length:Int)then
   rec (.h0 true a b c d e f g)
  else
   (g52 k a b c d e f g).bind fun j=>
   rec (.h0 (!j) a b c d e f g)
 |.h0 a _ b ..=>
  bif a then
   some false
  else
   rec (.h1 b (b.length:Int) 0)
 |.h1 a b c=>
  bif decide (c<b)then
   ixR a c fun d=>
   qE d fun e f g i j l m=>
   (rec (.e e f g i j l m)).bind fun n=>
   bif !n then
    some false
   else
    rec (.h1 a b (IntKind.i64.wrap (c+1)))
  else
   some true
noncomputable def g26 (k:Nat)(a:Int)(b:Rs)(c d:Int)(e f:By)(g:Int):Option R26:=itS qsr k (.e a b c d e f g)
noncomputable def P26:S26→R26→Prop
 |.e a b c d e f g,r=>Fin cx26 Tryz.f26 [.code qlT] (fr0 Tryz.f26 [.ag [ic a,.imm b,ic c,ic d,sc e,sc f,ic g]] []) (qlX r) (bx26 r)
 |.h0 a b c d e f g i,r=>Fin cx26 Tryz.f26 (kAt qlT [1,0,1,2] []) ⟨[.deadv,pL 1]++rep 14 .deadv++[.c (bc a)]++rep 11 .deadv,[(.loc 1,[ic b,.imm c,ic d,ic e,sc f,sc g,ic i])]⟩ (qlX r) (bx26 r)
 |.h1 a b c,r=>Fin cx26 Tryz.f26 (kAt qlT [1,1,0,1,0,4] []) ⟨rep 18 .deadv++[.c (.imm a),.c (ic b),.c (ic c)]++rep 7 .deadv,[]⟩ (qlX r) (bx26 r)
abbrev E26 (a:Int)(b:Rs)(c d:Int)(e f:By)(g:Int)(r:R26):Prop:=Ev Tryz.prog noHand 26 [.ag [ic a,.imm b,ic c,ic d,sc e,sc f,ic g]] [] (qlX r) (bx26 r)
theorem qh0 {a:Int}{b:Rs}{c d:Int}{e f:By}{g:Int}{r:R26}(h:P26 (.e a b c d e f g) r):E26 a b c d e f g r:=evF h
theorem ok26:∀ k s r,itS qsr k s=some r→P26 s r:=qF fun k rec ih s r h=>match s,h with
 |.e ..,h=>by
  obtain⟨_,a,h⟩:=qh h;rcases qa h with⟨b,h⟩|⟨b,h⟩
  · exact mA 0 (ih _ _ h) 5 [cA 7 (ev51 a),tT 11 b] 28 268369917
  · obtain⟨_,c,h⟩:=qh h;exact mA 0 (ih _ _ h) 5 [cA 7 (ev51 a),tF 11 b,cA 14 (ev52 c)] 28 268369917
 |.h0 ..,h=>by
  replace h:=qa h;rcases h with⟨rfl,h⟩|⟨rfl,h⟩
  · cases h;exact mF 0 []
  · exact mG 0 (ih _ _ h) 7 [] 28 266600447 [1] []
 |.h1 ..,h=>by
  rcases qa h with⟨a,h⟩|⟨a,h⟩
  · obtain⟨_,b,h⟩:=YJ h;replace h:=zB h;obtain⟨_,_,_,_,_,_,_,rfl,h⟩:=h;obtain⟨_,c,h⟩:=qh h;rcases qa h with⟨d,h⟩|⟨d,h⟩
    · cases h;exact mF 0 [tT 21 a,rA 22 b,cA 25 (qh0 (ih _ _ c)),tT 26 d]
    · exact mG 0 (ih _ _ h) 16 [tT 21 a,rA 22 b,cA 25 (qh0 (ih _ _ c)),tF 26 d] 28 266600447 [4] []
  · cases h;exact mF 0 [tF 21 a]
theorem ev26 {k:Nat}{a:Int}{b:Rs}{c d:Int}{e f:By}{g:Int}{r:R26}(h:g26 k a b c d e f g=some r):E26 a b c d e f g r:=qh0 (ok26 _ _ _ h)
inductive S53 where
 |e (a:Int)
 |h0 (a:Int)(b:Bool)
 |h1 (a:Int)(b:Bool)
 |h2 (a:Int)(b:Bool)
abbrev R53:=Int×Int×Int
def qrz:R53→ARes
 |(a,b,c)=>.ret ⟨.tup [false,false,false],[[ic a],[ic b],[ic c]]⟩
def bx53:R53→List (List Cell)
 |(_,_,_)=>[]
noncomputable def qst (k:Nat)(rec:S53→Option R53):S53→Option R53
 |.e a=>
  bif a==14 then
   some (1,1,2)
  else
   bif a==13 then
    some (2,2,3)
   else
    bif a==15 then
     some (3,3,3)
    else
     bif decide (a≥7)then
      rec (.h0 a (decide (a≤12)))
     else
      rec (.h0 a false)
 |.h0 a b=>
  bif b then
   some (4,5,5)
  else
   bif a==1 then
    rec (.h1 a true)
   else
    rec (.h1 a (a==2))
 |.h1 a b=>
  bif b then
   some (5,5,6)
  else
   bif decide (a≥3)then
    rec (.h2 a (decide (a≤5)))
   else
    rec (.h2 a false)
 |.h2 a b=>
  bif b then
   some (6,6,7)
  else
   bif a==6 then
    some (7,7,7)
   else
    some (8,1,1)
noncomputable def g53 (k:Nat)(a:Int):Option R53:=itS qst k (.e a)
noncomputable def P53:S53→R53→Prop
 |.e a,r=>Fin cx53 Tryz.f53 [.code qkg] (fr0 Tryz.f53 [.c (ic a)] []) (qrz r) (bx53 r)
 |.h0 a b,r=>Fin cx53 Tryz.f53 (kAt qkg [1,0,0,1,1,1,1,1,1,1,2] []) ⟨[.c (ic a)]++rep 13 .deadv++[.c (bc b)]++rep 23 .deadv,[]⟩ (qrz r) (bx53 r)
 |.h1 a b,r=>Fin cx53 Tryz.f53 (kAt qkg [1,0,0,1,1,1,1,1,1,1,1,1,2] []) ⟨[.c (ic a)]++rep 20 .deadv++[.c (bc b)]++rep 16 .deadv,[]⟩ (qrz r) (bx53 r)
 |.h2 a b,r=>Fin cx53 Tryz.f53 (kAt qkg [1,0,0,1,1,1,1,1,1,1,1,1,1,1,2] []) ⟨[.c (ic a)]++rep 27 .deadv++[.c (bc b)]++rep 9 .deadv,[]⟩ (qrz r) (bx53 r)
abbrev E53 (a:Int)(r:R53):Prop:=Ev Tryz.prog noHand 53 [.c (ic a)] [] (qrz r) (bx53 r)
theorem qum {a:Int}{r:R53}(h:P53 (.e a) r):E53 a r:=evF h
theorem ok53:∀ k s r,itS qst k s=some r→P53 s r:=qF fun k rec ih s r h=>match s,h with
 |.e ..,h=>by
  rcases qa h with⟨a,h⟩|⟨a,h⟩
  · cases h;exact mF 0 [tT 7 a]
  ·
   rcases qa h with⟨b,h⟩|⟨b,h⟩
   · cases h;exact mF 0 [tF 7 a,tT 10 b]
   ·
    rcases qa h with⟨c,h⟩|⟨c,h⟩
    · cases h;exact mF 0 [tF 7 a,tF 10 b,tT 13 c]
    · rcases qa h with⟨d,h⟩|⟨d,h⟩
      · exact mA 0 (ih _ _ h) 15 [tF 7 a,tF 10 b,tF 13 c,tT 16 d] 38 274877890558
      · exact mA 0 (ih _ _ h) 15 [tF 7 a,tF 10 b,tF 13 c,tF 16 d] 38 274877890558
 |.h0 ..,h=>by
  replace h:=qa h;rcases h with⟨rfl,h⟩|⟨rfl,h⟩
  · cases h;exact mF 0 []
  · rcases qa h with⟨a,h⟩|⟨a,h⟩
    · exact mA 0 (ih _ _ h) 3 [tT 23 a] 38 274875809790
    · exact mA 0 (ih _ _ h) 3 [tF 23 a] 38 274875809790
 |.h1 ..,h=>by
  replace h:=qa h;rcases h with⟨rfl,h⟩|⟨rfl,h⟩
  · cases h;exact mF 0 []
  · rcases qa h with⟨a,h⟩|⟨a,h⟩
    · exact mA 0 (ih _ _ h) 3 [tT 30 a] 38 274609471486
    · exact mA 0 (ih _ _ h) 3 [tF 30 a] 38 274609471486
 |.h2 ..,h=>by
  replace h:=qa h;rcases h with⟨rfl,h⟩|⟨rfl,h⟩
  · cases h;exact mF 0 []
  · rcases qa h with⟨a,h⟩|⟨a,h⟩
    · cases h;exact mF 0 [tT 37 a]
    · cases h;exact mF 0 [tF 37 a]
theorem ev53 {k:Nat}{a:Int}{r:R53}(h:g53 k a=some r):E53 a r:=qum (ok53 _ _ _ h)
inductive S56 where
 |e (a:Int)(b:Rs)(c d:Int)(e f:By)(g:Int)
abbrev R56:=By
def qtK:R56→ARes
 |r=>.ret (.c (sc r))
def bx56:R56→List (List Cell)
 |_=>[]
noncomputable def qsv (k:Nat)(rec:S56→Option R56):S56→Option R56
 |.e a _ b c d e ..=>
  bif a==20 then
   (g73 k 3 (strB []) b 0 0).bind fun f=>
   some f
  else
   bif a==21 then
    (g73 k 4 (strB []) b c 0).bind fun g=>
    some g
   else
    bif a==22 then
     aixS [strB [70,65,76,83,69],strB [84,82,85,69]] b fun i=>
     some i
    else
     bif a==23 then
      gd (decide ((strB [39]).size+d.size≤1000000000)) <|
      gd (decide (((strB [39])++d).size+(strB [39]).size≤1000000000)) <|
      some (((strB [39])++d)++(strB [39]))
     else
      bif a==24 then
       gd (decide (d.size+(strB [46]).size≤1000000000)) <|
       gd (decide ((d++(strB [46])).size+e.size≤1000000000)) <|
       some ((d++(strB [46]))++e)
      else
       bif a==25 then
        gd (decide ((strB [67,79,85,78,84,40]).size+d.size≤1000000000)) <|
        gd (decide (((strB [67,79,85,78,84,40])++d).size+(strB [41]).size≤1000000000)) <|
        some (((strB [67,79,85,78,84,40])++d)++(strB [41]))
       else
        aixS [strB [70,73,82,83,84],strB [76,65,83,84],strB [83,85,77],strB [77,73,78],strB [77,65,88],strB [77,69,65,78]] (IntKind.i64.wrap (a-26)) fun j=>
        gd (decide (j.size+(strB [40]).size≤1000000000)) <|
        gd (decide ((j++(strB [40])).size+d.size≤1000000000)) <|
        gd (decide (((j++(strB [40]))++d).size+(strB [46]).size≤1000000000)) <|
        gd (decide ((((j++(strB [40]))++d)++(strB [46])).size+e.size≤1000000000)) <|
        gd (decide (((((j++(strB [40]))++d)++(strB [46]))++e).size+(strB [41]).size≤1000000000)) <|
        some (((((j++(strB [40]))++d)++(strB [46]))++e)++(strB [41]))
noncomputable def g56 (k:Nat)(a:Int)(b:Rs)(c d:Int)(e f:By)(g:Int):Option R56:=itS qsv k (.e a b c d e f g)
noncomputable def P56:S56→R56→Prop
 |.e a b c d e f g,r=>Fin cx56 Tryz.f56 [.code qsV] (fr0 Tryz.f56 [.ag [ic a,.imm b,ic c,ic d,sc e,sc f,ic g]] []) (qtK r) (bx56 r)
abbrev E56 (a:Int)(b:Rs)(c d:Int)(e f:By)(g:Int)(r:R56):Prop:=Ev Tryz.prog noHand 56 [.ag [ic a,.imm b,ic c,ic d,sc e,sc f,ic g]] [] (qtK r) (bx56 r)
theorem qup {a:Int}{b:Rs}{c d:Int}{e f:By}{g:Int}{r:R56}(h:P56 (.e a b c d e f g) r):E56 a b c d e f g r:=evF h
theorem ok56:∀ k s r,itS qsv k s=some r→P56 s r:=qF fun k rec ih s r h=>match s,h with
 |.e ..,h=>by
  rcases qa h with⟨a,h⟩|⟨a,h⟩
  · obtain⟨_,b,h⟩:=qh h;cases h;exact mF 0 [tT 6 a,cA 10 (ev73 b)]
  ·
   rcases qa h with⟨c,h⟩|⟨c,h⟩
   · obtain⟨_,d,h⟩:=qh h;cases h;exact mF 0 [tF 6 a,tT 12 c,cA 18 (ev73 d)]
   ·
    rcases qa h with⟨b,h⟩|⟨b,h⟩
    · obtain⟨_,e,h⟩:=qcW h;cases h;exact mF 0 [tF 6 a,tF 12 c,tT 20 b,aA 24 e]
    ·
     rcases qa h with⟨d,h⟩|⟨d,h⟩
     · obtain⟨e,h⟩:=zo h;obtain⟨f,h⟩:=zo h;cases h;exact mF 0 [tF 6 a,tF 12 c,tF 20 b,tT 26 d,xC 29 e,xC 30 f]
     · rcases qa h with⟨e,h⟩|⟨e,h⟩
       · obtain⟨f,h⟩:=zo h;obtain⟨g,h⟩:=zo h;cases h;exact mF 0 [tF 6 a,tF 12 c,tF 20 b,tF 26 d,tT 32 e,xC 35 f,xC 38 g]
       · rcases qa h with⟨f,h⟩|⟨f,h⟩
         · obtain⟨g,h⟩:=zo h;obtain⟨i,h⟩:=zo h;cases h;exact mF 0 [tF 6 a,tF 12 c,tF 20 b,tF 26 d,tF 32 e,tT 40 f,xC 43 g,xC 44 i]
         · obtain⟨_,i,h⟩:=qcW h;obtain⟨j,h⟩:=zo h;obtain⟨l,h⟩:=zo h;obtain⟨m,h⟩:=zo h;obtain⟨n,h⟩:=zo h;obtain⟨o,h⟩:=zo h;cases h;exact mF 0 [tF 6 a,tF 12 c,tF 20 b,tF 26 d,tF 32 e,tF 40 f,aA 49 i,xC 50 j,xC 53 l,xC 54 m,xC 57 n,xC 58 o]
theorem ev56 {k:Nat}{a:Int}{b:Rs}{c d:Int}{e f:By}{g:Int}{r:R56}(h:g56 k a b c d e f g=some r):E56 a b c d e f g r:=qup (ok56 _ _ _ h)
inductive S55 where
 |e (a:Int)
abbrev R55:=By
def qtJ:R55→ARes
 |r=>.ret (.c (sc r))
def bx55:R55→List (List Cell)
 |_=>[]
noncomputable def qsu (k:Nat)(rec:S55→Option R55):S55→Option R55
 |.e a=>
  aixS [strB [],strB [43],strB [45],strB [42],strB [47],strB [37],strB [45],strB [61],strB [33,61],strB [60],strB [60,61],strB [62],strB [62,61],strB [65,78,68],strB [79,82],strB [78,79,84,32],strB [82,69,65,76],strB [73,83,78,65,78]] a fun b=>
  some b
noncomputable def g55 (k:Nat)(a:Int):Option R55:=itS qsu k (.e a)
noncomputable def P55:S55→R55→Prop
 |.e a,r=>Fin cx55 Tryz.f55 [.code qsU] (fr0 Tryz.f55 [.c (ic a)] []) (qtJ r) (bx55 r)
abbrev E55 (a:Int)(r:R55):Prop:=Ev Tryz.prog noHand 55 [.c (ic a)] [] (qtJ r) (bx55 r)
theorem qun {a:Int}{r:R55}(h:P55 (.e a) r):E55 a r:=evF h
theorem ok55:∀ k s r,itS qsu k s=some r→P55 s r:=qF fun k rec ih s r h=>match s,h with
 |.e ..,h=>by obtain⟨_,a,h⟩:=qcW h;cases h;exact mF 0 [aA 5 a]
theorem ev55 {k:Nat}{a:Int}{r:R55}(h:g55 k a=some r):E55 a r:=qun (ok55 _ _ _ h)
inductive S27 where
 |e_27 (a:Int)(b:Rs)(c d:Int)(e f:By)(g:Int)
 |e_54 (a:Int)(b:Rs)(c d:Int)(e f:By)(g i:Int)
abbrev R27:=By×Int
def qmO:R27→ARes
 |(a,b)=>.ret ⟨.tup [false,false],[[sc a],[ic b]]⟩
def bx27:R27→List (List Cell)
 |(_,_)=>[]
def qtI:R27→ARes
 |(a,b)=>.ret ⟨.tup [false,false],[[sc a],[ic b]]⟩
def bx54:R27→List (List Cell)
 |(_,_)=>[]
noncomputable def qj8 (k:Nat)(rec:S27→Option R27):S27→Option R27
 |.e_27 a b c d e f g=>
  (g53 k a).bind fun i=>
  tup3 i fun _ j l=>
  bif (b.length:Int)==1 then
   ixR b 0 fun m=>
   qE m fun n o p q t u v=>
   (rec (.e_54 n o p q t u v j)).bind fun w=>
   tup2 w fun x y=>
   bif a==16 then
    gd (decide ((strB [40]).size+x.size≤1000000000)) <|
    gd (decide (((strB [40])++x).size+(strB [41]).size≤1000000000)) <|
    (g55 k a).bind fun z=>
    gd (decide (z.size+(((strB [40])++x)++(strB [41])).size≤1000000000)) <|
    some ((z++(((strB [40])++x)++(strB [41]))),IntKind.i64.wrap (y+1))
   else
    bif a==17 then
     gd (decide ((strB [40]).size+x.size≤1000000000)) <|
     gd (decide (((strB [40])++x).size+(strB [41]).size≤1000000000)) <|
     (g55 k a).bind fun a1=>
     gd (decide (a1.size+(((strB [40])++x)++(strB [41])).size≤1000000000)) <|
     some ((a1++(((strB [40])++x)++(strB [41]))),IntKind.i64.wrap (y+1))
    else
     (g55 k a).bind fun b1=>
     gd (decide (b1.size+x.size≤1000000000)) <|
     some ((b1++x),IntKind.i64.wrap (y+1))
  else
   bif (b.length:Int)==2 then
    ixR b 0 fun c1=>
    qE c1 fun d1 e1 f1 g1 i1 j1 l1=>
    (rec (.e_54 d1 e1 f1 g1 i1 j1 l1 j)).bind fun m1=>
    tup2 m1 fun n1 o1=>
    ixR b 1 fun p1=>
    qE p1 fun q1 t1 u1 v1 w1 x1 y1=>
    (rec (.e_54 q1 t1 u1 v1 w1 x1 y1 l)).bind fun a1=>
    tup2 a1 fun z1 a2=>
    gd (decide (n1.size+(strB [32]).size≤1000000000)) <|
    (g55 k a).bind fun b2=>
    gd (decide ((n1++(strB [32])).size+b2.size≤1000000000)) <|
    gd (decide (((n1++(strB [32]))++b2).size+(strB [32]).size≤1000000000)) <|
    gd (decide ((((n1++(strB [32]))++b2)++(strB [32])).size+z1.size≤1000000000)) <|
    some (((((n1++(strB [32]))++b2)++(strB [32]))++z1),(if (a2:Int)>o1 then a2 else o1))
   else
    (g56 k a b c d e f g).bind fun c2=>
    some (c2,0)
 |.e_54 a b c d e f g i=>
  (rec (.e_27 a b c d e f g)).bind fun j=>
  tup2 j fun l m=>
  (g53 k a).bind fun n=>
  tup3 n fun o _ _=>
  bif decide (o<i)then
   gd (decide ((strB [40]).size+l.size≤1000000000)) <|
   gd (decide (((strB [40])++l).size+(strB [41]).size≤1000000000)) <|
   some ((((strB [40])++l)++(strB [41])),IntKind.i64.wrap (m+1))
  else
   some (l,m)
noncomputable def g27 (k:Nat)(a:Int)(b:Rs)(c d:Int)(e f:By)(g:Int):Option R27:=itS qj8 k (.e_27 a b c d e f g)
noncomputable def P27:S27→R27→Prop
 |.e_27 a b c d e f g,r=>Fin cx27 Tryz.f27 [.code qmh] (fr0 Tryz.f27 [.ag [ic a,.imm b,ic c,ic d,sc e,sc f,ic g]] []) (qmO r) (bx27 r)
 |.e_54 a b c d e f g i,r=>Fin cx54 Tryz.f54 [.code qsT] (fr0 Tryz.f54 [.ag [ic a,.imm b,ic c,ic d,sc e,sc f,ic g],.c (ic i)] []) (qtI r) (bx54 r)
abbrev E27 (a:Int)(b:Rs)(c d:Int)(e f:By)(g:Int)(r:R27):Prop:=Ev Tryz.prog noHand 27 [.ag [ic a,.imm b,ic c,ic d,sc e,sc f,ic g]] [] (qmO r) (bx27 r)
theorem qom {a:Int}{b:Rs}{c d:Int}{e f:By}{g:Int}{r:R27}(h:P27 (.e_27 a b c d e f g) r):E27 a b c d e f g r:=evF h
abbrev E54 (a:Int)(b:Rs)(c d:Int)(e f:By)(g i:Int)(r:R27):Prop:=Ev Tryz.prog noHand 54 [.ag [ic a,.imm b,ic c,ic d,sc e,sc f,ic g],.c (ic i)] [] (qtI r) (bx54 r)
theorem qrn {a:Int}{b:Rs}{c d:Int}{e f:By}{g i:Int}{r:R27}(h:P27 (.e_54 a b c d e f g i) r):E54 a b c d e f g i r:=evF h
theorem ok27:∀ k s r,itS qj8 k s=some r→P27 s r:=qF fun k rec ih s r h=>match s,h with
 |.e_27 ..,h=>by
  obtain⟨_,a,h⟩:=b3 h;rcases qa h with⟨b,h⟩|⟨b,h⟩
  ·
   obtain⟨_,c,h⟩:=YJ h;replace h:=zB h;obtain⟨_,_,_,_,_,_,_,rfl,h⟩:=h;obtain⟨_,d,h⟩:=b2 h;rcases qa h with⟨e,h⟩|⟨e,h⟩
   · obtain⟨f,h⟩:=zo h;obtain⟨g,h⟩:=zo h;obtain⟨_,i,h⟩:=qh h;obtain⟨j,h⟩:=zo h;cases h;exact mF 0 [cA 16 (ev53 a),tT 24 b,rA 28 c,cA 31 (qrn (ih _ _ d)),tT 36 e,xC 43 f,xC 44 g,cA 47 (ev55 i),xC 49 j]
   · rcases qa h with⟨f,h⟩|⟨f,h⟩
     · obtain⟨g,h⟩:=zo h;obtain⟨l,h⟩:=zo h;obtain⟨_,j,h⟩:=qh h;obtain⟨m,h⟩:=zo h;cases h;exact mF 0 [cA 16 (ev53 a),tT 24 b,rA 28 c,cA 31 (qrn (ih _ _ d)),tF 36 e,tT 40 f,xC 43 g,xC 44 l,cA 47 (ev55 j),xC 49 m]
     · obtain⟨_,l,h⟩:=qh h;obtain⟨i,h⟩:=zo h;cases h;exact mF 0 [cA 16 (ev53 a),tT 24 b,rA 28 c,cA 31 (qrn (ih _ _ d)),tF 36 e,tF 40 f,cA 47 (ev55 l),xC 49 i]
  · rcases qa h with⟨n,h⟩|⟨n,h⟩
    · obtain⟨_,o,h⟩:=YJ h;replace h:=zB h;obtain⟨_,_,_,_,_,_,_,rfl,h⟩:=h;obtain⟨_,p,h⟩:=b2 h;obtain⟨_,g,h⟩:=YJ h;replace h:=zB h;obtain⟨_,_,_,_,_,_,_,rfl,h⟩:=h;obtain⟨_,j,h⟩:=b2 h;obtain⟨q,h⟩:=zo h;obtain⟨_,t,h⟩:=qh h;obtain⟨u,h⟩:=zo h;obtain⟨v,h⟩:=zo h;obtain⟨w,h⟩:=zo h;cases h;exact mF 0 [cA 16 (ev53 a),tF 24 b,tT 53 n,rA 57 o,cA 60 (qrn (ih _ _ p)),rA 66 g,cA 69 (qrn (ih _ _ j)),xC 73 q,cA 76 (ev55 t),xC 77 u,xC 78 v,xC 80 w]
    · obtain⟨_,o,h⟩:=qh h;cases h;exact mF 0 [cA 16 (ev53 a),tF 24 b,tF 53 n,cA 85 (ev56 o)]
 |.e_54 ..,h=>by
  obtain⟨_,a,h⟩:=b2 h;obtain⟨_,b,h⟩:=b3 h;rcases qa h with⟨c,h⟩|⟨c,h⟩
  · obtain⟨d,h⟩:=zo h;obtain⟨e,h⟩:=zo h;cases h;exact mF 0 [cA 13 (qom (ih _ _ a)),cA 19 (ev53 b),tT 25 c,xC 27 d,xC 28 e]
  · cases h;exact mF 0 [cA 13 (qom (ih _ _ a)),cA 19 (ev53 b),tF 25 c]
theorem ev27 {k:Nat}{a:Int}{b:Rs}{c d:Int}{e f:By}{g:Int}{r:R27}(h:g27 k a b c d e f g=some r):E27 a b c d e f g r:=qom (ok27 _ _ _ h)
inductive S15 where
 |e (a:Int)(b:Rs)(c d:Int)(e f:By)(g:Int)
abbrev R15:=By×Int
def qin:R15→ARes
 |(a,b)=>.ret ⟨.tup [false,false],[[sc a],[ic b]]⟩
def bx15:R15→List (List Cell)
 |(_,_)=>[]
noncomputable def Zu (k:Nat)(rec:S15→Option R15):S15→Option R15
 |.e a b c d e f g=>
  (g26 k a b c d e f g).bind fun i=>
  bif !i then
   some (strB [],3)
  else
   (g17 k a b c d e f g).bind fun j=>
   bif decide (j>200)then
    some (strB [],2)
   else
    (g27 k a b c d e f g).bind fun l=>
    tup2 l fun m n=>
    bif decide ((m.size:Int)>4000)then
     some (strB [],2)
    else
     bif decide (n>30)then
      some (strB [],14)
     else
      some (m,0)
noncomputable def g15 (k:Nat)(a:Int)(b:Rs)(c d:Int)(e f:By)(g:Int):Option R15:=itS Zu k (.e a b c d e f g)
noncomputable def P15:S15→R15→Prop
 |.e a b c d e f g,r=>Fin cx15 Tryz.f15 [.code qbW] (fr0 Tryz.f15 [.ag [ic a,.imm b,ic c,ic d,sc e,sc f,ic g]] []) (qin r) (bx15 r)
abbrev E15 (a:Int)(b:Rs)(c d:Int)(e f:By)(g:Int)(r:R15):Prop:=Ev Tryz.prog noHand 15 [.ag [ic a,.imm b,ic c,ic d,sc e,sc f,ic g]] [] (qin r) (bx15 r)
theorem qn0 {a:Int}{b:Rs}{c d:Int}{e f:By}{g:Int}{r:R15}(h:P15 (.e a b c d e f g) r):E15 a b c d e f g r:=evF h
theorem ok15:∀ k s r,itS Zu k s=some r→P15 s r:=qF fun k rec ih s r h=>match s,h with
 |.e ..,h=>by
  obtain⟨_,a,h⟩:=qh h;rcases qa h with⟨b,h⟩|⟨b,h⟩
  · cases h;exact mF 0 [cA 7 (ev26 a),tT 8 b]
  ·
   obtain⟨_,c,h⟩:=qh h;rcases qa h with⟨d,h⟩|⟨d,h⟩
   · cases h;exact mF 0 [cA 7 (ev26 a),tF 8 b,cA 10 (ev17 c),tT 11 d]
   ·
    obtain⟨_,e,h⟩:=b2 h;rcases qa h with⟨f,h⟩|⟨f,h⟩
    · cases h;exact mF 0 [cA 7 (ev26 a),tF 8 b,cA 10 (ev17 c),tF 11 d,cA 14 (ev27 e),tT 20 f]
    · rcases qa h with⟨g,h⟩|⟨g,h⟩
      · cases h;exact mF 0 [cA 7 (ev26 a),tF 8 b,cA 10 (ev17 c),tF 11 d,cA 14 (ev27 e),tF 20 f,tT 23 g]
      · cases h;exact mF 0 [cA 7 (ev26 a),tF 8 b,cA 10 (ev17 c),tF 11 d,cA 14 (ev27 e),tF 20 f,tF 23 g]
theorem ev15 {k:Nat}{a:Int}{b:Rs}{c d:Int}{e f:By}{g:Int}{r:R15}(h:g15 k a b c d e f g=some r):E15 a b c d e f g r:=qn0 (ok15 _ _ _ h)
inductive S8 where
 |e
abbrev R8:=Bool
def res8:R8→ARes
 |r=>.ret (.c (bc r))
def bx8:R8→List (List Cell)
 |_=>[]
noncomputable def qbD (k:Nat)(rec:S8→Option R8):S8→Option R8
 |.e=>
  (g6 k (strB [97,46,120,43,49,60,61,50,42,67,79,85,78,84,40,98,41])).bind fun a=>
  tup9 a fun b c d e f g i j l=>
  (g15 k b c d e f g i).bind fun m=>
  tup2 m fun n o=>
  bif l==0 then
   bif j==0 then
    bif o==0 then
     bif n.toList==(strB [97,46,120,32,43,32,49,32,60,61,32,50,32,42,32,67,79,85,78,84,40,98,41]).toList then
      bif b==10 then
       some (i==5)
      else
       some false
     else
      some false
    else
     some false
   else
    some false
  else
   some false
noncomputable def g8 (k:Nat):Option R8:=itS qbD k (.e)
noncomputable def P8:S8→R8→Prop
 |.e,r=>Fin cx8 Tryz.f8 [.code qk4] (fr0 Tryz.f8 [] []) (res8 r) (bx8 r)
abbrev E8 (r:R8):Prop:=Ev Tryz.prog noHand 8 [] [] (res8 r) (bx8 r)
theorem evr8 {r:R8}(h:P8 (.e) r):E8 r:=evF h
theorem ok8:∀ k s r,itS qbD k s=some r→P8 s r:=qF fun k rec ih s r h=>match s,h with
 |.e,h=>by
  obtain⟨_,a,h⟩:=b9 h;obtain⟨_,b,h⟩:=b2 h;rcases qa h with⟨c,h⟩|⟨c,h⟩
  ·
   rcases qa h with⟨d,h⟩|⟨d,h⟩
   ·
    rcases qa h with⟨e,h⟩|⟨e,h⟩
    ·
     rcases qa h with⟨f,h⟩|⟨f,h⟩
     · rcases qa h with⟨g,h⟩|⟨g,h⟩
       · cases h;exact mF 0 [cA 7 (ev6 a),cA 13 (ev15 b),tT 17 c,tT 20 d,tT 24 e,tT 28 f,tT 33 g]
       · cases h;exact mF 0 [cA 7 (ev6 a),cA 13 (ev15 b),tT 17 c,tT 20 d,tT 24 e,tT 28 f,tF 33 g]
     · cases h;exact mF 0 [cA 7 (ev6 a),cA 13 (ev15 b),tT 17 c,tT 20 d,tT 24 e,tF 28 f]
    · cases h;exact mF 0 [cA 7 (ev6 a),cA 13 (ev15 b),tT 17 c,tT 20 d,tF 24 e]
   · cases h;exact mF 0 [cA 7 (ev6 a),cA 13 (ev15 b),tT 17 c,tF 20 d]
  · cases h;exact mF 0 [cA 7 (ev6 a),cA 13 (ev15 b),tF 17 c]
theorem ev8 {k:Nat}{r:R8}(h:g8 k=some r):E8 r:=evr8 (ok8 _ _ _ h)
inductive S9 where
 |e (a:Int)(b:Rs)(c d:Int)(e f:By)(g i:Int)(j:Rs)(l m:Int)(n o:By)(p:Int)(q:Bool)
 |h0 (a b:Bool)(c:Int)(d:Rs)(e f:Int)(g i:By)(j l:Int)(m:Rs)(n o:Int)(p q:By)(t:Int)
 |h1 (a:Bool)(b c d:Int)(e:Rs)(f g:Int)(i j:By)(l m:Int)(n:Rs)(o p:Int)(q t:By)(u:Int)
abbrev R9:=Bool
def res9:R9→ARes
 |r=>.ret (.c (bc r))
def bx9:R9→List (List Cell)
 |_=>[]
noncomputable def qn6 (k:Nat)(rec:S9→Option R9):S9→Option R9
 |.e a b c d e f g i j l m n o p q=>
  bif a != i then
   rec (.h0 q true i j l m n o p a b c d e f g)
  else
   bif c != l then
    rec (.h0 q true i j l m n o p a b c d e f g)
   else
    bif d != m then
     rec (.h0 q true i j l m n o p a b c d e f g)
    else
     bif !(e.toList==n.toList)then
      rec (.h0 q true i j l m n o p a b c d e f g)
     else
      bif !(f.toList==o.toList)then
       rec (.h0 q true i j l m n o p a b c d e f g)
      else
       bif (b.length:Int)!=(j.length:Int)then
        rec (.h0 q true i j l m n o p a b c d e f g)
       else
        bif q then
         rec (.h0 q (g != p) i j l m n o p a b c d e f g)
        else
         rec (.h0 q false i j l m n o p a b c d e f g)
 |.h0 a b c d e f g i j l m n o p q t=>
  bif b then
   some false
  else
   rec (.h1 a (m.length:Int) 0 c d e f g i j l m n o p q t)
 |.h1 a b c d e f g i j l m n o p q t u=>
  bif decide (c<b)then
   ixR n c fun v=>
   qE v fun w x y z a1 b1 c1=>
   ixR e c fun d1=>
   qE d1 fun e1 f1 g1 i1 j1 l1 m1=>
   (rec (.e w x y z a1 b1 c1 e1 f1 g1 i1 j1 l1 m1 a)).bind fun n1=>
   bif !n1 then
    some false
   else
    rec (.h1 a b (IntKind.i64.wrap (c+1)) d e f g i j l m n o p q t u)
  else
   some true
noncomputable def g9 (k:Nat)(a:Int)(b:Rs)(c d:Int)(e f:By)(g i:Int)(j:Rs)(l m:Int)(n o:By)(p:Int)(q:Bool):Option R9:=itS qn6 k (.e a b c d e f g i j l m n o p q)
noncomputable def P9:S9→R9→Prop
 |.e a b c d e f g i j l m n o p q,r=>Fin cx9 Tryz.f9 [.code qmn] (fr0 Tryz.f9 [.ag [ic a,.imm b,ic c,ic d,sc e,sc f,ic g],.ag [ic i,.imm j,ic l,ic m,sc n,sc o,ic p],.c (bc q)] []) (res9 r) (bx9 r)
 |.h0 a b c d e f g i j l m n o p q t,r=>Fin cx9 Tryz.f9 (kAt qmn [1,0,1,2] []) ⟨[.deadv,.deadv,.c (bc a),pL 3,pL 4]++rep 54 .deadv++[.c (bc b)]++rep 20 .deadv,[(.loc 4,[ic c,.imm d,ic e,ic f,sc g,sc i,ic j]),(.loc 3,[ic l,.imm m,ic n,ic o,sc p,sc q,ic t])]⟩ (res9 r) (bx9 r)
 |.h1 a b c d e f g i j l m n o p q t u,r=>Fin cx9 Tryz.f9 (kAt qmn [1,1,0,1,0,4] []) ⟨[.deadv,.deadv,.c (bc a),pL 3,pL 4]++rep 57 .deadv++[.c (ic b),.c (ic c)]++rep 16 .deadv,[(.loc 4,[ic d,.imm e,ic f,ic g,sc i,sc j,ic l]),(.loc 3,[ic m,.imm n,ic o,ic p,sc q,sc t,ic u])]⟩ (res9 r) (bx9 r)
abbrev E9 (a:Int)(b:Rs)(c d:Int)(e f:By)(g i:Int)(j:Rs)(l m:Int)(n o:By)(p:Int)(q:Bool)(r:R9):Prop:=Ev Tryz.prog noHand 9 [.ag [ic a,.imm b,ic c,ic d,sc e,sc f,ic g],.ag [ic i,.imm j,ic l,ic m,sc n,sc o,ic p],.c (bc q)] [] (res9 r) (bx9 r)
theorem evr9 {a:Int}{b:Rs}{c d:Int}{e f:By}{g i:Int}{j:Rs}{l m:Int}{n o:By}{p:Int}{q:Bool}{r:R9}(h:P9 (.e a b c d e f g i j l m n o p q) r):E9 a b c d e f g i j l m n o p q r:=evF h
theorem ok9:∀ k s r,itS qn6 k s=some r→P9 s r:=qF fun k rec ih s r h=>match s,h with
 |.e ..,h=>by
  rcases qa h with⟨a,h⟩|⟨a,h⟩
  · exact mA 0 (ih _ _ h) 5 [tT 12 a] 80 1208925243153876871282659
  ·
   rcases qa h with⟨b,h⟩|⟨b,h⟩
   · exact mA 0 (ih _ _ h) 5 [tF 12 a,tT 18 b] 80 1208925243153876871282659
   ·
    rcases qa h with⟨c,h⟩|⟨c,h⟩
    · exact mA 0 (ih _ _ h) 5 [tF 12 a,tF 18 b,tT 25 c] 80 1208925243153876871282659
    ·
     rcases qa h with⟨d,h⟩|⟨d,h⟩
     · exact mA 0 (ih _ _ h) 5 [tF 12 a,tF 18 b,tF 25 c,tT 32 d] 80 1208925243153876871282659
     ·
      rcases qa h with⟨e,h⟩|⟨e,h⟩
      · exact mA 0 (ih _ _ h) 5 [tF 12 a,tF 18 b,tF 25 c,tF 32 d,tT 39 e] 80 1208925243153876871282659
      · rcases qa h with⟨f,h⟩|⟨f,h⟩
        · exact mA 0 (ih _ _ h) 5 [tF 12 a,tF 18 b,tF 25 c,tF 32 d,tF 39 e,tT 48 f] 80 1208925243153876871282659
        · replace h:=qa h;rcases h with⟨rfl,h⟩|⟨rfl,h⟩
          · exact mA 0 (ih _ _ h) 5 [tF 12 a,tF 18 b,tF 25 c,tF 32 d,tF 39 e,tF 48 f] 80 1208925243153876871282659
          · exact mA 0 (ih _ _ h) 5 [tF 12 a,tF 18 b,tF 25 c,tF 32 d,tF 39 e,tF 48 f] 80 1208925243153876871282659
 |.h0 ..,h=>by
  replace h:=qa h;rcases h with⟨rfl,h⟩|⟨rfl,h⟩
  · cases h;exact mF 0 []
  · exact mA 0 (ih _ _ h) 7 [] 80 1208911984556573892542435
 |.h1 ..,h=>by
  rcases qa h with⟨a,h⟩|⟨a,h⟩
  · obtain⟨_,b,h⟩:=YJ h;replace h:=zB h;obtain⟨_,_,_,_,_,_,_,rfl,h⟩:=h;obtain⟨_,c,h⟩:=YJ h;replace h:=zB h;obtain⟨_,_,_,_,_,_,_,rfl,h⟩:=h;obtain⟨_,d,h⟩:=qh h;rcases qa h with⟨e,h⟩|⟨e,h⟩
    · cases h;exact mF 0 [tT 64 a,rA 69 b,rA 74 c,cA 77 (evr9 (ih _ _ d)),tT 78 e]
    · exact mA 0 (ih _ _ h) 16 [tT 64 a,rA 69 b,rA 74 c,cA 77 (evr9 (ih _ _ d)),tF 78 e] 80 1208911984556573892542435
  · cases h;exact mF 0 [tF 64 a]
theorem ev9 {k:Nat}{a:Int}{b:Rs}{c d:Int}{e f:By}{g i:Int}{j:Rs}{l m:Int}{n o:By}{p:Int}{q:Bool}{r:R9}(h:g9 k a b c d e f g i j l m n o p q=some r):E9 a b c d e f g i j l m n o p q r:=evr9 (ok9 _ _ _ h)
inductive S3 where
 |e (a:By)
abbrev R3:=Bool
def res3:R3→ARes
 |r=>.ret (.c (bc r))
def bx3:R3→List (List Cell)
 |_=>[]
noncomputable def qon (k:Nat)(rec:S3→Option R3):S3→Option R3
 |.e a=>
  (g6 k a).bind fun b=>
  tup9 b fun c d e f g i j l m=>
  (g7 k a).bind fun n=>
  tup9 n fun o p q t u v w x y=>
  (g8 k).bind fun z=>
  bif z then
   (g9 k c d e f g i j o p q t u v w true).bind fun a1=>
   bif a1 then
    bif l==x then
     some (m==y)
    else
     some false
   else
    some false
  else
   some false
noncomputable def g3 (k:Nat)(a:By):Option R3:=itS qon k (.e a)
noncomputable def P3:S3→R3→Prop
 |.e a,r=>Fin cx3 Tryz.f3 [.code qmJ] (fr0 Tryz.f3 [.c (sc a)] []) (res3 r) (bx3 r)
abbrev E3 (a:By)(r:R3):Prop:=Ev Tryz.prog noHand 3 [.c (sc a)] [] (res3 r) (bx3 r)
theorem evr3 {a:By}{r:R3}(h:P3 (.e a) r):E3 a r:=evF h
theorem ok3:∀ k s r,itS qon k s=some r→P3 s r:=qF fun k rec ih s r h=>match s,h with
 |.e ..,h=>by
  obtain⟨_,a,h⟩:=b9 h;obtain⟨_,b,h⟩:=b9 h;obtain⟨_,c,h⟩:=qh h;replace h:=qa h;rcases h with⟨rfl,h⟩|⟨rfl,h⟩
  ·
   obtain⟨_,d,h⟩:=qh h;replace h:=qa h;rcases h with⟨rfl,h⟩|⟨rfl,h⟩
   · rcases qa h with⟨e,h⟩|⟨e,h⟩
     · cases h;exact mF 0 [cA 11 (ev6 a),cA 17 (ev7 b),cA 21 (ev8 c),cA 25 (ev9 d),tT 30 e]
     · cases h;exact mF 0 [cA 11 (ev6 a),cA 17 (ev7 b),cA 21 (ev8 c),cA 25 (ev9 d),tF 30 e]
   · cases h;exact mF 0 [cA 11 (ev6 a),cA 17 (ev7 b),cA 21 (ev8 c),cA 25 (ev9 d)]
  · cases h;exact mF 0 [cA 11 (ev6 a),cA 17 (ev7 b),cA 21 (ev8 c)]
theorem ev3 {k:Nat}{a:By}{r:R3}(h:g3 k a=some r):E3 a r:=evr3 (ok3 _ _ _ h)
inductive S4 where
 |e (a:By)(b:Int)
 |h0 (a:Int)(b c:Rs)(d:Bool)
abbrev R4:=Bool
noncomputable def qnB (k:Nat)(rec:S4→Option R4):S4→Option R4
 |.e a b=>
  (g10 k a).bind fun c=>
  altC c (fun d=>
    tup3 d fun e _ f=>
    (g11 k a).bind fun g=>
    tup3 g fun i _ _=>
    rec (.h0 b e i (f != 0))) (fun d=>
    tup2 d fun _ f=>
    (g11 k a).bind fun g=>
    tup3 g fun i _ _=>
    rec (.h0 b [] i (f != 0)))
 |.h0 a b c d=>
  bif d then
   (g8 k).bind fun e=>
   some e
  else
   (g12 k b a).bind fun e=>
   altC e (fun f=>
     tup9 f fun g i j l m n o p q=>
     (g13 k (qG c) a).bind fun t=>
     ql t fun u v w x y z a1 b1 c1 d1=>
     (g8 k).bind fun e1=>
     bif e1 then
      (g9 k g [] i j l m n u v w x y z a1 true).bind fun f1=>
      bif f1 then
       bif o==b1 then
        bif p==c1 then
         some (q==d1)
        else
         some false
       else
        some false
      else
       some false
     else
      some false) (fun f=>
     ql f fun g g1 i j l m n o p q=>
     (g13 k (qG c) a).bind fun t=>
     ql t fun u v w x y z a1 b1 c1 d1=>
     (g8 k).bind fun e1=>
     bif e1 then
      (g9 k g g1 i j l m n u v w x y z a1 true).bind fun f1=>
      bif f1 then
       bif o==b1 then
        bif p==c1 then
         some (q==d1)
        else
         some false
       else
        some false
      else
       some false
     else
      some false)
noncomputable def g4 (k:Nat)(a:By)(b:Int):Option R4:=itS qnB k (.e a b)
end Ab
end Go.Proofs.YtfekohpjaafnhaaGreatDoor
