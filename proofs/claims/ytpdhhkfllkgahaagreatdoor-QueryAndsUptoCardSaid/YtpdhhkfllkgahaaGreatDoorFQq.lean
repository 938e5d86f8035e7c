/-
  Functions' ways, printed by a program: what each computes, and that this is what the interpreter computes.
-/
import Derived.Test.YtpdhhkfllkgahaaGreatDoorSjq
import Derived.KernelRfl
set_option linter.all false
set_option maxRecDepth 10000
namespace Go.Proofs.YtpdhhkfllkgahaaGreatDoor
namespace Ab
variable [vo]
def qE {α:Type}(row:List Cell)(k:Int→Rs→Int→Int→ByteArray→ByteArray→Int→Option α):Option α:=match row with
  |[.val (.int .i64 x0),.imm x1,.val (.int .i64 x2),.val (.int .i64 x3),.val (.string x4),.val (.string x5),.val (.int .i64 x6)]=>k x0 x1 x2 x3 x4 x5 x6
  |_=>none
theorem zB {α:Type}{row:List Cell}{k:Int→Rs→Int→Int→ByteArray→ByteArray→Int→Option α}{r:α}(h:qE row k=some r):∃ x0 x1 x2 x3 x4 x5 x6,row=[.val (.int .i64 x0),.imm x1,.val (.int .i64 x2),.val (.int .i64 x3),.val (.string x4),.val (.string x5),.val (.int .i64 x6)]∧k x0 x1 x2 x3 x4 x5 x6=some r:=by
  unfold qE at h;split at h
  · exact⟨_,_,_,_,_,_,_,rfl,h⟩
  · cases h
def qaM {α:Type}(row:List Cell)(k:Int→ByteArray→Int→Int→Int→Option α):Option α:=match row with
  |[.val (.int .i64 x0),.val (.string x1),.val (.int .i64 x2),.val (.int .i64 x3),.val (.int .i64 x4)]=>k x0 x1 x2 x3 x4
  |_=>none
theorem qca {α:Type}{row:List Cell}{k:Int→ByteArray→Int→Int→Int→Option α}{r:α}(h:qaM row k=some r):∃ x0 x1 x2 x3 x4,row=[.val (.int .i64 x0),.val (.string x1),.val (.int .i64 x2),.val (.int .i64 x3),.val (.int .i64 x4)]∧k x0 x1 x2 x3 x4=some r:=by
  unfold qaM at h;split at h
  · exact⟨_,_,_,_,_,rfl,h⟩
  · cases h
def qu8 {α:Type}(row:List Cell)(k:Int→ByteArray→ByteArray→Int→Option α):Option α:=match row with
  |[.val (.int .i64 x0),.val (.string x1),.val (.string x2),.val (.int .i64 x3)]=>k x0 x1 x2 x3
  |_=>none
theorem qu1 {α:Type}{row:List Cell}{k:Int→ByteArray→ByteArray→Int→Option α}{r:α}(h:qu8 row k=some r):∃ x0 x1 x2 x3,row=[.val (.int .i64 x0),.val (.string x1),.val (.string x2),.val (.int .i64 x3)]∧k x0 x1 x2 x3=some r:=by
  unfold qu8 at h;split at h
  · exact⟨_,_,_,_,rfl,h⟩
  · cases h
def un_m {α:Type}(row:List Cell)(k:Rs→Option α):Option α:=match row with
  |[.imm x0]=>k x0
  |_=>none
theorem qu9 {α:Type}{row:List Cell}{k:Rs→Option α}{r:α}(h:un_m row k=some r):∃ x0,row=[.imm x0]∧k x0=some r:=by
  unfold un_m at h;split at h
  · exact⟨_,rfl,h⟩
  · cases h
def un_s {α:Type}(row:List Cell)(k:ByteArray→Option α):Option α:=match row with
  |[.val (.string x0)]=>k x0
  |_=>none
theorem qkP {α:Type}{row:List Cell}{k:ByteArray→Option α}{r:α}(h:un_s row k=some r):∃ x0,row=[.val (.string x0)]∧k x0=some r:=by
  unfold un_s at h;split at h
  · exact⟨_,rfl,h⟩
  · cases h
inductive S33 where
 |e (a:Int)
 |h0 (a:Int)(b:Bool)
 |h1 (a:Int)(b:Bool)
 |h2 (a:Bool)
abbrev R33:=Int
def qho:R33→ARes
 |r=>.ret (.c (ic r))
def bx33:R33→List (List Cell)
 |_=>[]
noncomputable def yX (k:Nat)(rec:S33→Option R33):S33→Option R33
 |.e a=>
  bif a==6 then
   rec (.h0 a true)
  else
   bif a==15 then
    rec (.h0 a true)
   else
    bif a==16 then
     rec (.h0 a true)
    else
     rec (.h0 a (a==17))
 |.h0 a b=>
  bif b then
   some 1
  else
   bif decide (a≥1)then
    rec (.h1 a (decide (a≤14)))
   else
    rec (.h1 a false)
 |.h1 a b=>
  bif b then
   some 2
  else
   bif decide (a≥20)then
    rec (.h2 (decide (a≤31)))
   else
    rec (.h2 false)
 |.h2 a=>
  bif a then
   some 0
  else
   some (-1)
noncomputable def g33 (k:Nat)(a:Int):Option R33:=itS yX k (.e a)
noncomputable def P33:S33→R33→Prop
 |.e a,r=>Fin cx33 Tryz.f33 [.code qb7] (fr0 Tryz.f33 [.c (ic a)] []) (qho r) (bx33 r)
 |.h0 a b,r=>Fin cx33 Tryz.f33 (kAt qb7 [1,0,0,1,2] []) ⟨[.c (ic a),.deadv,.deadv,.c (bc b)]++rep 28 .deadv,[]⟩ (qho r) (bx33 r)
 |.h1 a b,r=>Fin cx33 Tryz.f33 (kAt qb7 [1,0,0,1,1,1,2] []) ⟨[.c (ic a)]++rep 17 .deadv++[.c (bc b)]++rep 13 .deadv,[]⟩ (qho r) (bx33 r)
 |.h2 a,r=>Fin cx33 Tryz.f33 (kAt qb7 [1,0,0,1,1,1,1,1,2] []) ⟨rep 25 .deadv++[.c (bc a)]++rep 6 .deadv,[]⟩ (qho r) (bx33 r)
abbrev E33 (a:Int)(r:R33):Prop:=Ev Tryz.prog noHand 33 [.c (ic a)] [] (qho r) (bx33 r)
theorem qnl {a:Int}{r:R33}(h:P33 (.e a) r):E33 a r:=evF h
theorem ok33:∀ k s r,itS yX k s=some r→P33 s r:=qF fun k rec ih s r h=>match s,h with
 |.e ..,h=>by
  rcases qa h with⟨a,h⟩|⟨a,h⟩
  · exact mA 0 (ih _ _ h) 6 [tT 5 a] 32 4294967286
  ·
   rcases qa h with⟨b,h⟩|⟨b,h⟩
   · exact mA 0 (ih _ _ h) 6 [tF 5 a,tT 8 b] 32 4294967286
   · rcases qa h with⟨c,h⟩|⟨c,h⟩
     · exact mA 0 (ih _ _ h) 6 [tF 5 a,tF 8 b,tT 12 c] 32 4294967286
     · exact mA 0 (ih _ _ h) 6 [tF 5 a,tF 8 b,tF 12 c] 32 4294967286
 |.h0 ..,h=>by
  replace h:=qa h;rcases h with⟨rfl,h⟩|⟨rfl,h⟩
  · cases h;exact mF 0 []
  · rcases qa h with⟨a,h⟩|⟨a,h⟩
    · exact mA 0 (ih _ _ h) 3 [tT 20 a] 32 4294705150
    · exact mA 0 (ih _ _ h) 3 [tF 20 a] 32 4294705150
 |.h1 ..,h=>by
  replace h:=qa h;rcases h with⟨rfl,h⟩|⟨rfl,h⟩
  · cases h;exact mF 0 []
  · rcases qa h with⟨a,h⟩|⟨a,h⟩
    · exact mA 0 (ih _ _ h) 3 [tT 27 a] 32 4261412863
    · exact mA 0 (ih _ _ h) 3 [tF 27 a] 32 4261412863
 |.h2 ..,h=>by
  replace h:=qa h;rcases h with⟨rfl,h⟩|⟨rfl,h⟩
  · cases h;exact mF 0 []
  · cases h;exact mF 0 []
theorem ev33 {k:Nat}{a:Int}{r:R33}(h:g33 k a=some r):E33 a r:=qnl (ok33 _ _ _ h)
inductive S53 where
 |e (a:Int)(b:By)(c d e:Int)
 |h0 (a:By)(b:Int)(c:By)(d e f:Int)
 |h1 (a:By)(b:Bool)(c:Int)(d:By)(e f g:Int)
abbrev R53:=By
def qrz:R53→ARes
 |r=>.ret (.c (sc r))
def bx53:R53→List (List Cell)
 |_=>[]
noncomputable def qst (k:Nat)(rec:S53→Option R53):S53→Option R53
 |.e a b c d e=>
  bif a==3 then
   (fmtX c).bind fun f=>
   some f
  else
   bif a==4 then
    (fmtX c).bind fun g=>
    rec (.h0 g a b c d e)
   else
    bif a==5 then
     gd (decide ((strB [39]).size+b.size≤1000000000)) <|
     gd (decide (((strB [39])++b).size+(strB [39]).size≤1000000000)) <|
     some (((strB [39])++b)++(strB [39]))
    else
     some b
 |.h0 a b c d e f=>
  bif decide ((a.size:Int)≤e)then
   gd (decide ((strB [48]).size+a.size≤1000000000)) <|
   rec (.h0 ((strB [48])++a) b c d e f)
  else
   bif decide (e<0)then
    rec (.h1 a true b c d e f)
   else
    rec (.h1 a (decide ((a.size:Int)<e)) b c d e f)
 |.h1 a b _ _ _ c ..=>
  bif b then
   some (strB [])
  else
   gd (decide (0≤(0:Int)∧(0:Int)≤(IntKind.i64.wrap ((a.size:Int)-c))∧(IntKind.i64.wrap ((a.size:Int)-c))≤(a.size:Int))) <|
   gd (decide ((a.extract (Int.toNat (0:Int)) (Int.toNat (IntKind.i64.wrap ((a.size:Int)-c)))).size+(strB [46]).size≤1000000000)) <|
   gd (decide (0≤(IntKind.i64.wrap ((a.size:Int)-c))∧(IntKind.i64.wrap ((a.size:Int)-c))≤(a.size:Int)∧(a.size:Int)≤(a.size:Int))) <|
   gd (decide (((a.extract (Int.toNat (0:Int)) (Int.toNat (IntKind.i64.wrap ((a.size:Int)-c))))++(strB [46])).size+(a.extract (Int.toNat (IntKind.i64.wrap ((a.size:Int)-c))) (Int.toNat (a.size:Int))).size≤1000000000)) <|
   some (((a.extract (Int.toNat (0:Int)) (Int.toNat (IntKind.i64.wrap ((a.size:Int)-c))))++(strB [46]))++(a.extract (Int.toNat (IntKind.i64.wrap ((a.size:Int)-c))) (Int.toNat (a.size:Int))))
noncomputable def g53 (k:Nat)(a:Int)(b:By)(c d e:Int):Option R53:=itS qst k (.e a b c d e)
noncomputable def P53:S53→R53→Prop
 |.e a b c d e,r=>Fin cx53 Tryz.f53 [.code qkg] (fr0 Tryz.f53 [.ag [ic a,sc b,ic c,ic d,ic e]] []) (qrz r) (bx53 r)
 |.h0 a b c d e f,r=>Fin cx53 Tryz.f53 (kAt qkg [1,0,1,0,1,1,1,0,1,0,0,4] []) ⟨[.deadv,pL 1,.deadv,.c (sc a)]++rep 53 .deadv,[(.loc 1,[ic b,sc c,ic d,ic e,ic f])]⟩ (qrz r) (bx53 r)
 |.h1 a b c d e f g,r=>Fin cx53 Tryz.f53 (kAt qkg [1,0,1,0,1,1,1,0,1,1,0,1,2] []) ⟨[.deadv,pL 1,.deadv,.c (sc a)]++rep 28 .deadv++[.c (bc b)]++rep 24 .deadv,[(.loc 1,[ic c,sc d,ic e,ic f,ic g])]⟩ (qrz r) (bx53 r)
abbrev E53 (a:Int)(b:By)(c d e:Int)(r:R53):Prop:=Ev Tryz.prog noHand 53 [.ag [ic a,sc b,ic c,ic d,ic e]] [] (qrz r) (bx53 r)
theorem qum {a:Int}{b:By}{c d e:Int}{r:R53}(h:P53 (.e a b c d e) r):E53 a b c d e r:=evF h
theorem ok53:∀ k s r,itS qst k s=some r→P53 s r:=qF fun k rec ih s r h=>match s,h with
 |.e ..,h=>by
  rcases qa h with⟨a,h⟩|⟨a,h⟩
  · obtain⟨_,b,h⟩:=qh h;cases h;exact mF 0 [tT 7 a,cA 10 (qij b)]
  ·
   rcases qa h with⟨c,h⟩|⟨c,h⟩
   · obtain⟨_,d,h⟩:=qh h;exact mA 0 (ih _ _ h) 17 [tF 7 a,tT 12 c,cA 15 (qij d)] 57 144115188075855861
   · rcases qa h with⟨b,h⟩|⟨b,h⟩
     · obtain⟨d,h⟩:=zo h;obtain⟨e,h⟩:=zo h;cases h;exact mF 0 [tF 7 a,tF 12 c,tT 50 b,xC 53 d,xC 54 e]
     · cases h;exact mF 0 [tF 7 a,tF 12 c,tF 50 b]
 |.h0 ..,h=>by
  rcases qa h with⟨a,h⟩|⟨a,h⟩
  · obtain⟨b,h⟩:=zo h;exact mA 0 (ih _ _ h) 9 [tT 20 a,xC 22 b] 57 144115188075855861
  · rcases qa h with⟨b,h⟩|⟨b,h⟩
    · exact mA 0 (ih _ _ h) 9 [tF 20 a,tT 25 b] 57 144115183780888565
    · exact mA 0 (ih _ _ h) 9 [tF 20 a,tF 25 b] 57 144115183780888565
 |.h1 ..,h=>by
  replace h:=qa h;rcases h with⟨rfl,h⟩|⟨rfl,h⟩
  · cases h;exact mF 0 []
  · obtain⟨a,h⟩:=zo h;obtain⟨b,h⟩:=zo h;obtain⟨c,h⟩:=zo h;obtain⟨d,h⟩:=zo h;cases h;exact mF 0 [xS 39 a,xC 40 b,xS 47 c,xC 48 d]
theorem ev53 {k:Nat}{a:Int}{b:By}{c d e:Int}{r:R53}(h:g53 k a b c d e=some r):E53 a b c d e r:=qum (ok53 _ _ _ h)
inductive S34 where
 |e (a:Int)(b:Rs)(c d:Int)(e f:By)(g:Int)
 |h0 (a:Bool)(b:Int)(c:Rs)(d e:Int)(f g:By)(i:Int)
abbrev R34:=Bool
def qkQ:R34→ARes
 |r=>.ret (.c (bc r))
def bx34:R34→List (List Cell)
 |_=>[]
noncomputable def xY (k:Nat)(rec:S34→Option R34):S34→Option R34
 |.e a b c d e f g=>
  bif decide (a≥23)then
   bif decide (a≤31)then
    bif a != 23 then
     (YF e).bind fun i=>
     bif true != i then
      rec (.h0 true a b c d e f g)
     else
      (YF f).bind fun j=>
      bif j then
       bif (a != 25)!=true then
        rec (.h0 true a b c d e f g)
       else
        bif !(a != 25)then
         rec (.h0 (!(f.toList==(strB []).toList)) a b c d e f g)
        else
         rec (.h0 false a b c d e f g)
      else
       bif (a != 25)!=(f.toList==(strB [84,73,77,69]).toList)then
        rec (.h0 true a b c d e f g)
       else
        bif !(a != 25)then
         rec (.h0 (!(f.toList==(strB []).toList)) a b c d e f g)
        else
         rec (.h0 false a b c d e f g)
    else
     (YF e).bind fun i=>
     bif true != i then
      rec (.h0 true a b c d e f g)
     else
      (YF f).bind fun j=>
      bif j then
       rec (.h0 true a b c d e f g)
      else
       bif false != (f.toList==(strB [84,73,77,69]).toList)then
        rec (.h0 true a b c d e f g)
       else
        rec (.h0 (!(f.toList==(strB []).toList)) a b c d e f g)
   else
    (YF e).bind fun l=>
    bif false != l then
     rec (.h0 true a b c d e f g)
    else
     bif !(e.toList==(strB []).toList)then
      rec (.h0 true a b c d e f g)
     else
      (YF f).bind fun j=>
      bif j then
       rec (.h0 true a b c d e f g)
      else
       bif false != (f.toList==(strB [84,73,77,69]).toList)then
        rec (.h0 true a b c d e f g)
       else
        rec (.h0 (!(f.toList==(strB []).toList)) a b c d e f g)
  else
   (YF e).bind fun m=>
   bif false != m then
    rec (.h0 true a b c d e f g)
   else
    bif !(e.toList==(strB []).toList)then
     rec (.h0 true a b c d e f g)
    else
     (YF f).bind fun n=>
     bif n then
      rec (.h0 true a b c d e f g)
     else
      bif false != (f.toList==(strB [84,73,77,69]).toList)then
       rec (.h0 true a b c d e f g)
      else
       rec (.h0 (!(f.toList==(strB []).toList)) a b c d e f g)
 |.h0 a b _ c d ..=>
  bif a then
   some false
  else
   bif b==20 then
    bif decide (c≥0)then
     some (d==0)
    else
     some false
   else
    bif b==22 then
     bif decide (c≥0)then
      bif decide (c≤1)then
       some (d==0)
      else
       some false
     else
      some false
    else
     bif b==21 then
      bif decide (c≥0)then
       bif decide (d≥1)then
        bif decide (d≤14)then
         (g53 k 4 (strB []) c d 0).bind fun e=>
         some (decide ((e.size:Int)≤16))
        else
         some false
       else
        some false
      else
       some false
     else
      bif c==0 then
       some (d==0)
      else
       some false
noncomputable def g34 (k:Nat)(a:Int)(b:Rs)(c d:Int)(e f:By)(g:Int):Option R34:=itS xY k (.e a b c d e f g)
noncomputable def P34:S34→R34→Prop
 |.e a b c d e f g,r=>Fin cx34 Tryz.f34 [.code qkb] (fr0 Tryz.f34 [.ag [ic a,.imm b,ic c,ic d,sc e,sc f,ic g]] []) (qkQ r) (bx34 r)
 |.h0 a b c d e f g i,r=>Fin cx34 Tryz.f34 (kAt qkb [1,1,1,0,1,2] []) ⟨[.deadv,pL 1]++rep 56 .deadv++[.c (bc a)]++rep 60 .deadv,[(.loc 1,[ic b,.imm c,ic d,ic e,sc f,sc g,ic i])]⟩ (qkQ r) (bx34 r)
abbrev E34 (a:Int)(b:Rs)(c d:Int)(e f:By)(g:Int)(r:R34):Prop:=Ev Tryz.prog noHand 34 [.ag [ic a,.imm b,ic c,ic d,sc e,sc f,ic g]] [] (qkQ r) (bx34 r)
theorem qn2 {a:Int}{b:Rs}{c d:Int}{e f:By}{g:Int}{r:R34}(h:P34 (.e a b c d e f g) r):E34 a b c d e f g r:=evF h
theorem ok34:∀ k s r,itS xY k s=some r→P34 s r:=qF fun k rec ih s r h=>match s,h with
 |.e ..,h=>by
  rcases qa h with⟨a,h⟩|⟨a,h⟩
  ·
   rcases qa h with⟨b,h⟩|⟨b,h⟩
   ·
    rcases qa h with⟨c,h⟩|⟨c,h⟩
    ·
     obtain⟨_,d,h⟩:=qh h;rcases qa h with⟨e,h⟩|⟨e,h⟩
     · exact mA 0 (ih _ _ h) 9 [tT 7 a,tT 11 b,tT 17 c,cA 27 (qi d),tT 28 e] 119 664613997892457936163673153988460541
     ·
      obtain⟨_,f,h⟩:=qh h;replace h:=qa h;rcases h with⟨rfl,h⟩|⟨rfl,h⟩
      · rcases qa h with⟨g,h⟩|⟨g,h⟩
        · exact mA 0 (ih _ _ h) 9 [tT 7 a,tT 11 b,tT 17 c,cA 27 (qi d),tF 28 e,cA 42 (qi f),tT 48 g] 119 664613997892457936163673153988460541
        · rcases qa h with⟨i,h⟩|⟨i,h⟩
          · exact mA 0 (ih _ _ h) 9 [tT 7 a,tT 11 b,tT 17 c,cA 27 (qi d),tF 28 e,cA 42 (qi f),tF 48 g,tT 52 i] 119 664613997892457936163673153988460541
          · exact mA 0 (ih _ _ h) 9 [tT 7 a,tT 11 b,tT 17 c,cA 27 (qi d),tF 28 e,cA 42 (qi f),tF 48 g,tF 52 i] 119 664613997892457936163673153988460541
      · rcases qa h with⟨g,h⟩|⟨g,h⟩
        · exact mA 0 (ih _ _ h) 9 [tT 7 a,tT 11 b,tT 17 c,cA 27 (qi d),tF 28 e,cA 42 (qi f),tT 48 g] 119 664613997892457936163673153988460541
        · rcases qa h with⟨i,h⟩|⟨i,h⟩
          · exact mA 0 (ih _ _ h) 9 [tT 7 a,tT 11 b,tT 17 c,cA 27 (qi d),tF 28 e,cA 42 (qi f),tF 48 g,tT 52 i] 119 664613997892457936163673153988460541
          · exact mA 0 (ih _ _ h) 9 [tT 7 a,tT 11 b,tT 17 c,cA 27 (qi d),tF 28 e,cA 42 (qi f),tF 48 g,tF 52 i] 119 664613997892457936163673153988460541
    ·
     obtain⟨_,d,h⟩:=qh h;rcases qa h with⟨e,h⟩|⟨e,h⟩
     · exact mA 0 (ih _ _ h) 9 [tT 7 a,tT 11 b,tF 17 c,cA 27 (qi d),tT 28 e] 119 664613997892457936163673153988460541
     · obtain⟨_,f,h⟩:=qh h;replace h:=qa h;rcases h with⟨rfl,h⟩|⟨rfl,h⟩
       · exact mA 0 (ih _ _ h) 9 [tT 7 a,tT 11 b,tF 17 c,cA 27 (qi d),tF 28 e,cA 42 (qi f)] 119 664613997892457936163673153988460541
       · rcases qa h with⟨g,h⟩|⟨g,h⟩
         · exact mA 0 (ih _ _ h) 9 [tT 7 a,tT 11 b,tF 17 c,cA 27 (qi d),tF 28 e,cA 42 (qi f),tT 48 g] 119 664613997892457936163673153988460541
         · exact mA 0 (ih _ _ h) 9 [tT 7 a,tT 11 b,tF 17 c,cA 27 (qi d),tF 28 e,cA 42 (qi f),tF 48 g] 119 664613997892457936163673153988460541
   ·
    obtain⟨_,j,h⟩:=qh h;rcases qa h with⟨d,h⟩|⟨d,h⟩
    · exact mA 0 (ih _ _ h) 9 [tT 7 a,tF 11 b,cA 27 (qi j),tT 28 d] 119 664613997892457936163673153988460541
    ·
     rcases qa h with⟨e,h⟩|⟨e,h⟩
     · exact mA 0 (ih _ _ h) 9 [tT 7 a,tF 11 b,cA 27 (qi j),tF 28 d,tT 35 e] 119 664613997892457936163673153988460541
     · obtain⟨_,f,h⟩:=qh h;replace h:=qa h;rcases h with⟨rfl,h⟩|⟨rfl,h⟩
       · exact mA 0 (ih _ _ h) 9 [tT 7 a,tF 11 b,cA 27 (qi j),tF 28 d,tF 35 e,cA 42 (qi f)] 119 664613997892457936163673153988460541
       · rcases qa h with⟨g,h⟩|⟨g,h⟩
         · exact mA 0 (ih _ _ h) 9 [tT 7 a,tF 11 b,cA 27 (qi j),tF 28 d,tF 35 e,cA 42 (qi f),tT 48 g] 119 664613997892457936163673153988460541
         · exact mA 0 (ih _ _ h) 9 [tT 7 a,tF 11 b,cA 27 (qi j),tF 28 d,tF 35 e,cA 42 (qi f),tF 48 g] 119 664613997892457936163673153988460541
  ·
   obtain⟨_,c,h⟩:=qh h;rcases qa h with⟨j,h⟩|⟨j,h⟩
   · exact mA 0 (ih _ _ h) 9 [tF 7 a,cA 27 (qi c),tT 28 j] 119 664613997892457936163673153988460541
   ·
    rcases qa h with⟨d,h⟩|⟨d,h⟩
    · exact mA 0 (ih _ _ h) 9 [tF 7 a,cA 27 (qi c),tF 28 j,tT 35 d] 119 664613997892457936163673153988460541
    ·
     obtain⟨_,l,h⟩:=qh h;replace h:=qa h;rcases h with⟨rfl,h⟩|⟨rfl,h⟩
     · exact mA 0 (ih _ _ h) 9 [tF 7 a,cA 27 (qi c),tF 28 j,tF 35 d,cA 42 (qi l)] 119 664613997892457936163673153988460541
     · rcases qa h with⟨f,h⟩|⟨f,h⟩
       · exact mA 0 (ih _ _ h) 9 [tF 7 a,cA 27 (qi c),tF 28 j,tF 35 d,cA 42 (qi l),tT 48 f] 119 664613997892457936163673153988460541
       · exact mA 0 (ih _ _ h) 9 [tF 7 a,cA 27 (qi c),tF 28 j,tF 35 d,cA 42 (qi l),tF 48 f] 119 664613997892457936163673153988460541
 |.h0 ..,h=>by
  replace h:=qa h;rcases h with⟨rfl,h⟩|⟨rfl,h⟩
  · cases h;exact mF 0 []
  ·
   rcases qa h with⟨a,h⟩|⟨a,h⟩
   · rcases qa h with⟨b,h⟩|⟨b,h⟩
     · cases h;exact mF 0 [tT 62 a,tT 65 b]
     · cases h;exact mF 0 [tT 62 a,tF 65 b]
   ·
    rcases qa h with⟨b,h⟩|⟨b,h⟩
    ·
     rcases qa h with⟨c,h⟩|⟨c,h⟩
     · rcases qa h with⟨d,h⟩|⟨d,h⟩
       · cases h;exact mF 0 [tF 62 a,tT 72 b,tT 75 c,tT 79 d]
       · cases h;exact mF 0 [tF 62 a,tT 72 b,tT 75 c,tF 79 d]
     · cases h;exact mF 0 [tF 62 a,tT 72 b,tF 75 c]
    ·
     rcases qa h with⟨c,h⟩|⟨c,h⟩
     ·
      rcases qa h with⟨d,h⟩|⟨d,h⟩
      · rcases qa h with⟨e,h⟩|⟨e,h⟩
        · rcases qa h with⟨f,h⟩|⟨f,h⟩
          · obtain⟨_,g,h⟩:=qh h;cases h;exact mF 0 [tF 62 a,tF 72 b,tT 87 c,tT 90 d,tT 94 e,tT 99 f,cA 107 (ev53 g)]
          · cases h;exact mF 0 [tF 62 a,tF 72 b,tT 87 c,tT 90 d,tT 94 e,tF 99 f]
        · cases h;exact mF 0 [tF 62 a,tF 72 b,tT 87 c,tT 90 d,tF 94 e]
      · cases h;exact mF 0 [tF 62 a,tF 72 b,tT 87 c,tF 90 d]
     · rcases qa h with⟨d,h⟩|⟨d,h⟩
       · cases h;exact mF 0 [tF 62 a,tF 72 b,tF 87 c,tT 113 d]
       · cases h;exact mF 0 [tF 62 a,tF 72 b,tF 87 c,tF 113 d]
theorem ev34 {k:Nat}{a:Int}{b:Rs}{c d:Int}{e f:By}{g:Int}{r:R34}(h:g34 k a b c d e f g=some r):E34 a b c d e f g r:=qn2 (ok34 _ _ _ h)
inductive S16 where
 |e (a:Int)(b:Rs)(c d:Int)(e f:By)(g:Int)
 |h0 (a:Bool)(b:Int)(c:Rs)(d e:Int)(f g:By)(i:Int)
 |h1 (a:Rs)(b c:Int)
abbrev R16:=Bool
def qhP:R16→ARes
 |r=>.ret (.c (bc r))
def bx16:R16→List (List Cell)
 |_=>[]
noncomputable def ZT (k:Nat)(rec:S16→Option R16):S16→Option R16
 |.e a b c d e f g=>
  (g33 k a).bind fun i=>
  bif i != (b.length:Int)then
   rec (.h0 true a b c d e f g)
  else
   (g34 k a b c d e f g).bind fun j=>
   rec (.h0 (!j) a b c d e f g)
 |.h0 a _ b ..=>
  bif a then
   some false
  else
   rec (.h1 b (b.length:Int) 0)
 |.h1 a b c=>
  bif decide (c<b)then
   ixR a c fun d=>
   qE d fun e f g i j l m=>
   (rec (.e e f g i j l m)).bind fun n=>
   bif !n then
    some false
   else
    rec (.h1 a b (IntKind.i64.wrap (c+1)))
  else
   some true
noncomputable def g16 (k:Nat)(a:Int)(b:Rs)(c d:Int)(e f:By)(g:Int):Option R16:=itS ZT k (.e a b c d e f g)
noncomputable def P16:S16→R16→Prop
 |.e a b c d e f g,r=>Fin cx16 Tryz.f16 [.code QZ] (fr0 Tryz.f16 [.ag [ic a,.imm b,ic c,ic d,sc e,sc f,ic g]] []) (qhP r) (bx16 r)
 |.h0 a b c d e f g i,r=>Fin cx16 Tryz.f16 (kAt QZ [1,0,1,2] []) ⟨[.deadv,pL 1]++rep 14 .deadv++[.c (bc a)]++rep 11 .deadv,[(.loc 1,[ic b,.imm c,ic d,ic e,sc f,sc g,ic i])]⟩ (qhP r) (bx16 r)
 |.h1 a b c,r=>Fin cx16 Tryz.f16 (kAt QZ [1,1,0,1,0,4] []) ⟨rep 18 .deadv++[.c (.imm a),.c (ic b),.c (ic c)]++rep 7 .deadv,[]⟩ (qhP r) (bx16 r)
abbrev E16 (a:Int)(b:Rs)(c d:Int)(e f:By)(g:Int)(r:R16):Prop:=Ev Tryz.prog noHand 16 [.ag [ic a,.imm b,ic c,ic d,sc e,sc f,ic g]] [] (qhP r) (bx16 r)
theorem qnx {a:Int}{b:Rs}{c d:Int}{e f:By}{g:Int}{r:R16}(h:P16 (.e a b c d e f g) r):E16 a b c d e f g r:=evF h
theorem ok16:∀ k s r,itS ZT k s=some r→P16 s r:=qF fun k rec ih s r h=>match s,h with
 |.e ..,h=>by
  obtain⟨_,a,h⟩:=qh h;rcases qa h with⟨b,h⟩|⟨b,h⟩
  · exact mA 0 (ih _ _ h) 5 [cA 7 (ev33 a),tT 11 b] 28 268369917
  · obtain⟨_,c,h⟩:=qh h;exact mA 0 (ih _ _ h) 5 [cA 7 (ev33 a),tF 11 b,cA 14 (ev34 c)] 28 268369917
 |.h0 ..,h=>by
  replace h:=qa h;rcases h with⟨rfl,h⟩|⟨rfl,h⟩
  · cases h;exact mF 0 []
  · exact mG 0 (ih _ _ h) 7 [] 28 266600447 [1] []
 |.h1 ..,h=>by
  rcases qa h with⟨a,h⟩|⟨a,h⟩
  · obtain⟨_,b,h⟩:=YJ h;replace h:=zB h;obtain⟨_,_,_,_,_,_,_,rfl,h⟩:=h;obtain⟨_,c,h⟩:=qh h;rcases qa h with⟨d,h⟩|⟨d,h⟩
    · cases h;exact mF 0 [tT 21 a,rA 22 b,cA 25 (qnx (ih _ _ c)),tT 26 d]
    · exact mG 0 (ih _ _ h) 16 [tT 21 a,rA 22 b,cA 25 (qnx (ih _ _ c)),tF 26 d] 28 266600447 [4] []
  · cases h;exact mF 0 [tF 21 a]
theorem ev16 {k:Nat}{a:Int}{b:Rs}{c d:Int}{e f:By}{g:Int}{r:R16}(h:g16 k a b c d e f g=some r):E16 a b c d e f g r:=qnx (ok16 _ _ _ h)
inductive S17 where
 |e (a:Int)(b:Rs)(c d:Int)(e f:By)(g:Int)
 |h0 (a:Int)(b:Rs)(c d:Int)
abbrev R17:=Int
def qjK:R17→ARes
 |r=>.ret (.c (ic r))
def bx17:R17→List (List Cell)
 |_=>[]
noncomputable def qjR (k:Nat)(rec:S17→Option R17):S17→Option R17
 |.e _ a ..=>rec (.h0 1 a (a.length:Int) 0)
 |.h0 a b c d=>
  bif decide (d<c)then
   ixR b d fun e=>
   qE e fun f g i j l m n=>
   (rec (.e f g i j l m n)).bind fun o=>
   rec (.h0 (IntKind.i64.wrap (a+o)) b c (IntKind.i64.wrap (d+1)))
  else
   some a
noncomputable def g17 (k:Nat)(a:Int)(b:Rs)(c d:Int)(e f:By)(g:Int):Option R17:=itS qjR k (.e a b c d e f g)
noncomputable def P17:S17→R17→Prop
 |.e a b c d e f g,r=>Fin cx17 Tryz.f17 [.code qiu] (fr0 Tryz.f17 [.ag [ic a,.imm b,ic c,ic d,sc e,sc f,ic g]] []) (qjK r) (bx17 r)
 |.h0 a b c d,r=>Fin cx17 Tryz.f17 (kAt qiu [1,1,0,1,0,4] []) ⟨rep 3 .deadv++[.c (ic a)]++rep 3 .deadv++[.c (.imm b),.c (ic c),.c (ic d)]++rep 9 .deadv,[]⟩ (qjK r) (bx17 r)
abbrev E17 (a:Int)(b:Rs)(c d:Int)(e f:By)(g:Int)(r:R17):Prop:=Ev Tryz.prog noHand 17 [.ag [ic a,.imm b,ic c,ic d,sc e,sc f,ic g]] [] (qjK r) (bx17 r)
theorem qll {a:Int}{b:Rs}{c d:Int}{e f:By}{g:Int}{r:R17}(h:P17 (.e a b c d e f g) r):E17 a b c d e f g r:=evF h
theorem ok17:∀ k s r,itS qjR k s=some r→P17 s r:=qF fun k rec ih s r h=>match s,h with
 |.e ..,h=>by exact mG 0 (ih _ _ h) 9 [] 19 523383 [1] []
 |.h0 ..,h=>by
  rcases qa h with⟨a,h⟩|⟨a,h⟩
  · obtain⟨_,b,h⟩:=YJ h;replace h:=zB h;obtain⟨_,_,_,_,_,_,_,rfl,h⟩:=h;obtain⟨_,c,h⟩:=qh h;exact mG 0 (ih _ _ h) 13 [tT 10 a,rA 11 b,cA 15 (qll (ih _ _ c))] 19 523383 [5] []
  · cases h;exact mF 0 [tF 10 a]
theorem ev17 {k:Nat}{a:Int}{b:Rs}{c d:Int}{e f:By}{g:Int}{r:R17}(h:g17 k a b c d e f g=some r):E17 a b c d e f g r:=qll (ok17 _ _ _ h)
inductive S35 where
 |e (a:Int)
 |h0 (a:Int)(b:Bool)
 |h1 (a:Int)(b:Bool)
 |h2 (a:Int)(b:Bool)
abbrev R35:=Int×Int×Int
def qgg:R35→ARes
 |(a,b,c)=>.ret ⟨.tup [false,false,false],[[ic a],[ic b],[ic c]]⟩
def bx35:R35→List (List Cell)
 |(_,_,_)=>[]
noncomputable def yf (k:Nat)(rec:S35→Option R35):S35→Option R35
 |.e a=>
  bif a==14 then
   some (1,1,2)
  else
   bif a==13 then
    some (2,2,3)
   else
    bif a==15 then
     some (3,3,3)
    else
     bif decide (a≥7)then
      rec (.h0 a (decide (a≤12)))
     else
      rec (.h0 a false)
 |.h0 a b=>
  bif b then
   some (4,5,5)
  else
   bif a==1 then
    rec (.h1 a true)
   else
    rec (.h1 a (a==2))
 |.h1 a b=>
  bif b then
   some (5,5,6)
  else
   bif decide (a≥3)then
    rec (.h2 a (decide (a≤5)))
   else
    rec (.h2 a false)
 |.h2 a b=>
  bif b then
   some (6,6,7)
  else
   bif a==6 then
    some (7,7,7)
   else
    some (8,1,1)
noncomputable def g35 (k:Nat)(a:Int):Option R35:=itS yf k (.e a)
noncomputable def P35:S35→R35→Prop
 |.e a,r=>Fin cx35 Tryz.f35 [.code qdc] (fr0 Tryz.f35 [.c (ic a)] []) (qgg r) (bx35 r)
 |.h0 a b,r=>Fin cx35 Tryz.f35 (kAt qdc [1,0,0,1,1,1,1,1,1,1,2] []) ⟨[.c (ic a)]++rep 13 .deadv++[.c (bc b)]++rep 23 .deadv,[]⟩ (qgg r) (bx35 r)
 |.h1 a b,r=>Fin cx35 Tryz.f35 (kAt qdc [1,0,0,1,1,1,1,1,1,1,1,1,2] []) ⟨[.c (ic a)]++rep 20 .deadv++[.c (bc b)]++rep 16 .deadv,[]⟩ (qgg r) (bx35 r)
 |.h2 a b,r=>Fin cx35 Tryz.f35 (kAt qdc [1,0,0,1,1,1,1,1,1,1,1,1,1,1,2] []) ⟨[.c (ic a)]++rep 27 .deadv++[.c (bc b)]++rep 9 .deadv,[]⟩ (qgg r) (bx35 r)
abbrev E35 (a:Int)(r:R35):Prop:=Ev Tryz.prog noHand 35 [.c (ic a)] [] (qgg r) (bx35 r)
theorem qnO {a:Int}{r:R35}(h:P35 (.e a) r):E35 a r:=evF h
theorem ok35:∀ k s r,itS yf k s=some r→P35 s r:=qF fun k rec ih s r h=>match s,h with
 |.e ..,h=>by
  rcases qa h with⟨a,h⟩|⟨a,h⟩
  · cases h;exact mF 0 [tT 7 a]
  ·
   rcases qa h with⟨b,h⟩|⟨b,h⟩
   · cases h;exact mF 0 [tF 7 a,tT 10 b]
   ·
    rcases qa h with⟨c,h⟩|⟨c,h⟩
    · cases h;exact mF 0 [tF 7 a,tF 10 b,tT 13 c]
    · rcases qa h with⟨d,h⟩|⟨d,h⟩
      · exact mA 0 (ih _ _ h) 15 [tF 7 a,tF 10 b,tF 13 c,tT 16 d] 38 274877890558
      · exact mA 0 (ih _ _ h) 15 [tF 7 a,tF 10 b,tF 13 c,tF 16 d] 38 274877890558
 |.h0 ..,h=>by
  replace h:=qa h;rcases h with⟨rfl,h⟩|⟨rfl,h⟩
  · cases h;exact mF 0 []
  · rcases qa h with⟨a,h⟩|⟨a,h⟩
    · exact mA 0 (ih _ _ h) 3 [tT 23 a] 38 274875809790
    · exact mA 0 (ih _ _ h) 3 [tF 23 a] 38 274875809790
 |.h1 ..,h=>by
  replace h:=qa h;rcases h with⟨rfl,h⟩|⟨rfl,h⟩
  · cases h;exact mF 0 []
  · rcases qa h with⟨a,h⟩|⟨a,h⟩
    · exact mA 0 (ih _ _ h) 3 [tT 30 a] 38 274609471486
    · exact mA 0 (ih _ _ h) 3 [tF 30 a] 38 274609471486
 |.h2 ..,h=>by
  replace h:=qa h;rcases h with⟨rfl,h⟩|⟨rfl,h⟩
  · cases h;exact mF 0 []
  · rcases qa h with⟨a,h⟩|⟨a,h⟩
    · cases h;exact mF 0 [tT 37 a]
    · cases h;exact mF 0 [tF 37 a]
theorem ev35 {k:Nat}{a:Int}{r:R35}(h:g35 k a=some r):E35 a r:=qnO (ok35 _ _ _ h)
inductive S38 where
 |e (a:Int)(b:Rs)(c d:Int)(e f:By)(g:Int)
abbrev R38:=By
def qmY:R38→ARes
 |r=>.ret (.c (sc r))
def bx38:R38→List (List Cell)
 |_=>[]
noncomputable def qpb (k:Nat)(rec:S38→Option R38):S38→Option R38
 |.e a _ b c d e ..=>
  bif a==20 then
   (g53 k 3 (strB []) b 0 0).bind fun f=>
   some f
  else
   bif a==21 then
    (g53 k 4 (strB []) b c 0).bind fun g=>
    some g
   else
    bif a==22 then
     aixS [strB [70,65,76,83,69],strB [84,82,85,69]] b fun i=>
     some i
    else
     bif a==23 then
      gd (decide ((strB [39]).size+d.size≤1000000000)) <|
      gd (decide (((strB [39])++d).size+(strB [39]).size≤1000000000)) <|
      some (((strB [39])++d)++(strB [39]))
     else
      bif a==24 then
       gd (decide (d.size+(strB [46]).size≤1000000000)) <|
       gd (decide ((d++(strB [46])).size+e.size≤1000000000)) <|
       some ((d++(strB [46]))++e)
      else
       bif a==25 then
        gd (decide ((strB [67,79,85,78,84,40]).size+d.size≤1000000000)) <|
        gd (decide (((strB [67,79,85,78,84,40])++d).size+(strB [41]).size≤1000000000)) <|
        some (((strB [67,79,85,78,84,40])++d)++(strB [41]))
       else
        aixS [strB [70,73,82,83,84],strB [76,65,83,84],strB [83,85,77],strB [77,73,78],strB [77,65,88],strB [77,69,65,78]] (IntKind.i64.wrap (a-26)) fun j=>
        gd (decide (j.size+(strB [40]).size≤1000000000)) <|
        gd (decide ((j++(strB [40])).size+d.size≤1000000000)) <|
        gd (decide (((j++(strB [40]))++d).size+(strB [46]).size≤1000000000)) <|
        gd (decide ((((j++(strB [40]))++d)++(strB [46])).size+e.size≤1000000000)) <|
        gd (decide (((((j++(strB [40]))++d)++(strB [46]))++e).size+(strB [41]).size≤1000000000)) <|
        some (((((j++(strB [40]))++d)++(strB [46]))++e)++(strB [41]))
noncomputable def g38 (k:Nat)(a:Int)(b:Rs)(c d:Int)(e f:By)(g:Int):Option R38:=itS qpb k (.e a b c d e f g)
noncomputable def P38:S38→R38→Prop
 |.e a b c d e f g,r=>Fin cx38 Tryz.f38 [.code qdY] (fr0 Tryz.f38 [.ag [ic a,.imm b,ic c,ic d,sc e,sc f,ic g]] []) (qmY r) (bx38 r)
abbrev E38 (a:Int)(b:Rs)(c d:Int)(e f:By)(g:Int)(r:R38):Prop:=Ev Tryz.prog noHand 38 [.ag [ic a,.imm b,ic c,ic d,sc e,sc f,ic g]] [] (qmY r) (bx38 r)
theorem qjl {a:Int}{b:Rs}{c d:Int}{e f:By}{g:Int}{r:R38}(h:P38 (.e a b c d e f g) r):E38 a b c d e f g r:=evF h
theorem ok38:∀ k s r,itS qpb k s=some r→P38 s r:=qF fun k rec ih s r h=>match s,h with
 |.e ..,h=>by
  rcases qa h with⟨a,h⟩|⟨a,h⟩
  · obtain⟨_,b,h⟩:=qh h;cases h;exact mF 0 [tT 6 a,cA 10 (ev53 b)]
  ·
   rcases qa h with⟨c,h⟩|⟨c,h⟩
   · obtain⟨_,d,h⟩:=qh h;cases h;exact mF 0 [tF 6 a,tT 12 c,cA 18 (ev53 d)]
   ·
    rcases qa h with⟨b,h⟩|⟨b,h⟩
    · obtain⟨_,e,h⟩:=qcW h;cases h;exact mF 0 [tF 6 a,tF 12 c,tT 20 b,aA 24 e]
    ·
     rcases qa h with⟨d,h⟩|⟨d,h⟩
     · obtain⟨e,h⟩:=zo h;obtain⟨f,h⟩:=zo h;cases h;exact mF 0 [tF 6 a,tF 12 c,tF 20 b,tT 26 d,xC 29 e,xC 30 f]
     · rcases qa h with⟨e,h⟩|⟨e,h⟩
       · obtain⟨f,h⟩:=zo h;obtain⟨g,h⟩:=zo h;cases h;exact mF 0 [tF 6 a,tF 12 c,tF 20 b,tF 26 d,tT 32 e,xC 35 f,xC 38 g]
       · rcases qa h with⟨f,h⟩|⟨f,h⟩
         · obtain⟨g,h⟩:=zo h;obtain⟨i,h⟩:=zo h;cases h;exact mF 0 [tF 6 a,tF 12 c,tF 20 b,tF 26 d,tF 32 e,tT 40 f,xC 43 g,xC 44 i]
         · obtain⟨_,i,h⟩:=qcW h;obtain⟨j,h⟩:=zo h;obtain⟨l,h⟩:=zo h;obtain⟨m,h⟩:=zo h;obtain⟨n,h⟩:=zo h;obtain⟨o,h⟩:=zo h;cases h;exact mF 0 [tF 6 a,tF 12 c,tF 20 b,tF 26 d,tF 32 e,tF 40 f,aA 49 i,xC 50 j,xC 53 l,xC 54 m,xC 57 n,xC 58 o]
theorem ev38 {k:Nat}{a:Int}{b:Rs}{c d:Int}{e f:By}{g:Int}{r:R38}(h:g38 k a b c d e f g=some r):E38 a b c d e f g r:=qjl (ok38 _ _ _ h)
inductive S37 where
 |e (a:Int)
abbrev R37:=By
def qmN:R37→ARes
 |r=>.ret (.c (sc r))
def bx37:R37→List (List Cell)
 |_=>[]
noncomputable def qfl (k:Nat)(rec:S37→Option R37):S37→Option R37
 |.e a=>
  aixS [strB [],strB [43],strB [45],strB [42],strB [47],strB [37],strB [45],strB [61],strB [33,61],strB [60],strB [60,61],strB [62],strB [62,61],strB [65,78,68],strB [79,82],strB [78,79,84,32],strB [82,69,65,76],strB [73,83,78,65,78]] a fun b=>
  some b
noncomputable def g37 (k:Nat)(a:Int):Option R37:=itS qfl k (.e a)
noncomputable def P37:S37→R37→Prop
 |.e a,r=>Fin cx37 Tryz.f37 [.code qhD] (fr0 Tryz.f37 [.c (ic a)] []) (qmN r) (bx37 r)
abbrev E37 (a:Int)(r:R37):Prop:=Ev Tryz.prog noHand 37 [.c (ic a)] [] (qmN r) (bx37 r)
theorem qnv {a:Int}{r:R37}(h:P37 (.e a) r):E37 a r:=evF h
theorem ok37:∀ k s r,itS qfl k s=some r→P37 s r:=qF fun k rec ih s r h=>match s,h with
 |.e ..,h=>by obtain⟨_,a,h⟩:=qcW h;cases h;exact mF 0 [aA 5 a]
theorem ev37 {k:Nat}{a:Int}{r:R37}(h:g37 k a=some r):E37 a r:=qnv (ok37 _ _ _ h)
inductive S18 where
 |e_18 (a:Int)(b:Rs)(c d:Int)(e f:By)(g:Int)
 |e_36 (a:Int)(b:Rs)(c d:Int)(e f:By)(g i:Int)
abbrev R18:=By×Int
def qlw:R18→ARes
 |(a,b)=>.ret ⟨.tup [false,false],[[sc a],[ic b]]⟩
def bx18:R18→List (List Cell)
 |(_,_)=>[]
def qlO:R18→ARes
 |(a,b)=>.ret ⟨.tup [false,false],[[sc a],[ic b]]⟩
def bx36:R18→List (List Cell)
 |(_,_)=>[]
noncomputable def qj2 (k:Nat)(rec:S18→Option R18):S18→Option R18
 |.e_18 a b c d e f g=>
  (g35 k a).bind fun i=>
  tup3 i fun _ j l=>
  bif (b.length:Int)==1 then
   ixR b 0 fun m=>
   qE m fun n o p q t u v=>
   (rec (.e_36 n o p q t u v j)).bind fun w=>
   tup2 w fun x y=>
   bif a==16 then
    gd (decide ((strB [40]).size+x.size≤1000000000)) <|
    gd (decide (((strB [40])++x).size+(strB [41]).size≤1000000000)) <|
    (g37 k a).bind fun z=>
    gd (decide (z.size+(((strB [40])++x)++(strB [41])).size≤1000000000)) <|
    some ((z++(((strB [40])++x)++(strB [41]))),IntKind.i64.wrap (y+1))
   else
    bif a==17 then
     gd (decide ((strB [40]).size+x.size≤1000000000)) <|
     gd (decide (((strB [40])++x).size+(strB [41]).size≤1000000000)) <|
     (g37 k a).bind fun a1=>
     gd (decide (a1.size+(((strB [40])++x)++(strB [41])).size≤1000000000)) <|
     some ((a1++(((strB [40])++x)++(strB [41]))),IntKind.i64.wrap (y+1))
    else
     (g37 k a).bind fun b1=>
     gd (decide (b1.size+x.size≤1000000000)) <|
     some ((b1++x),IntKind.i64.wrap (y+1))
  else
   bif (b.length:Int)==2 then
    ixR b 0 fun c1=>
    qE c1 fun d1 e1 f1 g1 i1 j1 l1=>
    (rec (.e_36 d1 e1 f1 g1 i1 j1 l1 j)).bind fun m1=>
    tup2 m1 fun n1 o1=>
    ixR b 1 fun p1=>
    qE p1 fun q1 t1 u1 v1 w1 x1 y1=>
    (rec (.e_36 q1 t1 u1 v1 w1 x1 y1 l)).bind fun a1=>
    tup2 a1 fun z1 a2=>
    gd (decide (n1.size+(strB [32]).size≤1000000000)) <|
    (g37 k a).bind fun b2=>
    gd (decide ((n1++(strB [32])).size+b2.size≤1000000000)) <|
    gd (decide (((n1++(strB [32]))++b2).size+(strB [32]).size≤1000000000)) <|
    gd (decide ((((n1++(strB [32]))++b2)++(strB [32])).size+z1.size≤1000000000)) <|
    some (((((n1++(strB [32]))++b2)++(strB [32]))++z1),(if (a2:Int)>o1 then a2 else o1))
   else
    (g38 k a b c d e f g).bind fun c2=>
    some (c2,0)
 |.e_36 a b c d e f g i=>
  (rec (.e_18 a b c d e f g)).bind fun j=>
  tup2 j fun l m=>
  (g35 k a).bind fun n=>
  tup3 n fun o _ _=>
  bif decide (o<i)then
   gd (decide ((strB [40]).size+l.size≤1000000000)) <|
   gd (decide (((strB [40])++l).size+(strB [41]).size≤1000000000)) <|
   some ((((strB [40])++l)++(strB [41])),IntKind.i64.wrap (m+1))
  else
   some (l,m)
noncomputable def g18 (k:Nat)(a:Int)(b:Rs)(c d:Int)(e f:By)(g:Int):Option R18:=itS qj2 k (.e_18 a b c d e f g)
noncomputable def P18:S18→R18→Prop
 |.e_18 a b c d e f g,r=>Fin cx18 Tryz.f18 [.code qne] (fr0 Tryz.f18 [.ag [ic a,.imm b,ic c,ic d,sc e,sc f,ic g]] []) (qlw r) (bx18 r)
 |.e_36 a b c d e f g i,r=>Fin cx36 Tryz.f36 [.code qg4] (fr0 Tryz.f36 [.ag [ic a,.imm b,ic c,ic d,sc e,sc f,ic g],.c (ic i)] []) (qlO r) (bx36 r)
abbrev E18 (a:Int)(b:Rs)(c d:Int)(e f:By)(g:Int)(r:R18):Prop:=Ev Tryz.prog noHand 18 [.ag [ic a,.imm b,ic c,ic d,sc e,sc f,ic g]] [] (qlw r) (bx18 r)
theorem qlt {a:Int}{b:Rs}{c d:Int}{e f:By}{g:Int}{r:R18}(h:P18 (.e_18 a b c d e f g) r):E18 a b c d e f g r:=evF h
abbrev E36 (a:Int)(b:Rs)(c d:Int)(e f:By)(g i:Int)(r:R18):Prop:=Ev Tryz.prog noHand 36 [.ag [ic a,.imm b,ic c,ic d,sc e,sc f,ic g],.c (ic i)] [] (qlO r) (bx36 r)
theorem qjA {a:Int}{b:Rs}{c d:Int}{e f:By}{g i:Int}{r:R18}(h:P18 (.e_36 a b c d e f g i) r):E36 a b c d e f g i r:=evF h
theorem ok18:∀ k s r,itS qj2 k s=some r→P18 s r:=qF fun k rec ih s r h=>match s,h with
 |.e_18 ..,h=>by
  obtain⟨_,a,h⟩:=b3 h;rcases qa h with⟨b,h⟩|⟨b,h⟩
  ·
   obtain⟨_,c,h⟩:=YJ h;replace h:=zB h;obtain⟨_,_,_,_,_,_,_,rfl,h⟩:=h;obtain⟨_,d,h⟩:=b2 h;rcases qa h with⟨e,h⟩|⟨e,h⟩
   · obtain⟨f,h⟩:=zo h;obtain⟨g,h⟩:=zo h;obtain⟨_,i,h⟩:=qh h;obtain⟨j,h⟩:=zo h;cases h;exact mF 0 [cA 16 (ev35 a),tT 24 b,rA 28 c,cA 31 (qjA (ih _ _ d)),tT 36 e,xC 43 f,xC 44 g,cA 47 (ev37 i),xC 49 j]
   · rcases qa h with⟨f,h⟩|⟨f,h⟩
     · obtain⟨g,h⟩:=zo h;obtain⟨l,h⟩:=zo h;obtain⟨_,j,h⟩:=qh h;obtain⟨m,h⟩:=zo h;cases h;exact mF 0 [cA 16 (ev35 a),tT 24 b,rA 28 c,cA 31 (qjA (ih _ _ d)),tF 36 e,tT 40 f,xC 43 g,xC 44 l,cA 47 (ev37 j),xC 49 m]
     · obtain⟨_,l,h⟩:=qh h;obtain⟨i,h⟩:=zo h;cases h;exact mF 0 [cA 16 (ev35 a),tT 24 b,rA 28 c,cA 31 (qjA (ih _ _ d)),tF 36 e,tF 40 f,cA 47 (ev37 l),xC 49 i]
  · rcases qa h with⟨n,h⟩|⟨n,h⟩
    · obtain⟨_,o,h⟩:=YJ h;replace h:=zB h;obtain⟨_,_,_,_,_,_,_,rfl,h⟩:=h;obtain⟨_,p,h⟩:=b2 h;obtain⟨_,g,h⟩:=YJ h;replace h:=zB h;obtain⟨_,_,_,_,_,_,_,rfl,h⟩:=h;obtain⟨_,j,h⟩:=b2 h;obtain⟨q,h⟩:=zo h;obtain⟨_,t,h⟩:=qh h;obtain⟨u,h⟩:=zo h;obtain⟨v,h⟩:=zo h;obtain⟨w,h⟩:=zo h;cases h;exact mF 0 [cA 16 (ev35 a),tF 24 b,tT 53 n,rA 57 o,cA 60 (qjA (ih _ _ p)),rA 66 g,cA 69 (qjA (ih _ _ j)),xC 73 q,cA 76 (ev37 t),xC 77 u,xC 78 v,xC 80 w]
    · obtain⟨_,o,h⟩:=qh h;cases h;exact mF 0 [cA 16 (ev35 a),tF 24 b,tF 53 n,cA 85 (ev38 o)]
 |.e_36 ..,h=>by
  obtain⟨_,a,h⟩:=b2 h;obtain⟨_,b,h⟩:=b3 h;rcases qa h with⟨c,h⟩|⟨c,h⟩
  · obtain⟨d,h⟩:=zo h;obtain⟨e,h⟩:=zo h;cases h;exact mF 0 [cA 13 (qlt (ih _ _ a)),cA 19 (ev35 b),tT 25 c,xC 27 d,xC 28 e]
  · cases h;exact mF 0 [cA 13 (qlt (ih _ _ a)),cA 19 (ev35 b),tF 25 c]
theorem ev18 {k:Nat}{a:Int}{b:Rs}{c d:Int}{e f:By}{g:Int}{r:R18}(h:g18 k a b c d e f g=some r):E18 a b c d e f g r:=qlt (ok18 _ _ _ h)
inductive S6 where
 |e (a:Int)(b:Rs)(c d:Int)(e f:By)(g:Int)
abbrev R6:=By×Int
def res6:R6→ARes
 |(a,b)=>.ret ⟨.tup [false,false],[[sc a],[ic b]]⟩
def bx6:R6→List (List Cell)
 |(_,_)=>[]
noncomputable def qn9 (k:Nat)(rec:S6→Option R6):S6→Option R6
 |.e a b c d e f g=>
  (g16 k a b c d e f g).bind fun i=>
  bif !i then
   some (strB [],3)
  else
   (g17 k a b c d e f g).bind fun j=>
   bif decide (j>200)then
    some (strB [],2)
   else
    (g18 k a b c d e f g).bind fun l=>
    tup2 l fun m n=>
    bif decide ((m.size:Int)>4000)then
     some (strB [],2)
    else
     bif decide (n>30)then
      some (strB [],14)
     else
      some (m,0)
noncomputable def g6 (k:Nat)(a:Int)(b:Rs)(c d:Int)(e f:By)(g:Int):Option R6:=itS qn9 k (.e a b c d e f g)
noncomputable def P6:S6→R6→Prop
 |.e a b c d e f g,r=>Fin cx6 Tryz.f6 [.code ql1] (fr0 Tryz.f6 [.ag [ic a,.imm b,ic c,ic d,sc e,sc f,ic g]] []) (res6 r) (bx6 r)
abbrev E6 (a:Int)(b:Rs)(c d:Int)(e f:By)(g:Int)(r:R6):Prop:=Ev Tryz.prog noHand 6 [.ag [ic a,.imm b,ic c,ic d,sc e,sc f,ic g]] [] (res6 r) (bx6 r)
theorem evr6 {a:Int}{b:Rs}{c d:Int}{e f:By}{g:Int}{r:R6}(h:P6 (.e a b c d e f g) r):E6 a b c d e f g r:=evF h
theorem ok6:∀ k s r,itS qn9 k s=some r→P6 s r:=qF fun k rec ih s r h=>match s,h with
 |.e ..,h=>by
  obtain⟨_,a,h⟩:=qh h;rcases qa h with⟨b,h⟩|⟨b,h⟩
  · cases h;exact mF 0 [cA 7 (ev16 a),tT 8 b]
  ·
   obtain⟨_,c,h⟩:=qh h;rcases qa h with⟨d,h⟩|⟨d,h⟩
   · cases h;exact mF 0 [cA 7 (ev16 a),tF 8 b,cA 10 (ev17 c),tT 11 d]
   ·
    obtain⟨_,e,h⟩:=b2 h;rcases qa h with⟨f,h⟩|⟨f,h⟩
    · cases h;exact mF 0 [cA 7 (ev16 a),tF 8 b,cA 10 (ev17 c),tF 11 d,cA 14 (ev18 e),tT 20 f]
    · rcases qa h with⟨g,h⟩|⟨g,h⟩
      · cases h;exact mF 0 [cA 7 (ev16 a),tF 8 b,cA 10 (ev17 c),tF 11 d,cA 14 (ev18 e),tF 20 f,tT 23 g]
      · cases h;exact mF 0 [cA 7 (ev16 a),tF 8 b,cA 10 (ev17 c),tF 11 d,cA 14 (ev18 e),tF 20 f,tF 23 g]
theorem ev6 {k:Nat}{a:Int}{b:Rs}{c d:Int}{e f:By}{g:Int}{r:R6}(h:g6 k a b c d e f g=some r):E6 a b c d e f g r:=evr6 (ok6 _ _ _ h)
inductive S25 where
 |e (a b:Rs)(c d:Int)(e:By)(f:Int)
 |h0 (a:Bool)(b c:Rs)(d e:Int)(f:By)(g:Int)
 |h1 (a:Rs)(b c:Int)(d e:Rs)(f g:Int)(i:By)(j:Int)
 |h2 (a:Rs)(b c:Int)(d:Rs)(e f:Int)(g i:Rs)(j l:Int)(m:By)(n:Int)
 |h3 (a:Rs)(b c:Int)
 |h4 (a:Rs)(b c:Int)(d:Rs)(e f:Int)(g:Bool)(i j:Rs)(l m:Int)(n:By)(o:Int)
 |h5 (a:Rs)(b c:Int)(d:Bool)
abbrev R25:=Bool
def qhG:R25→ARes
 |r=>.ret (.c (bc r))
def bx25:R25→List (List Cell)
 |_=>[]
noncomputable def qjZ (k:Nat)(rec:S25→Option R25):S25→Option R25
 |.e a b c d e f=>
  bif (a.length:Int)==0 then
   rec (.h0 true a b c d e f)
  else
   bif decide (c<1)then
    rec (.h0 true a b c d e f)
   else
    bif decide (c>3)then
     rec (.h0 true a b c d e f)
    else
     bif decide (d<0)then
      rec (.h0 true a b c d e f)
     else
      bif decide (d>1152921504606846976)then
       rec (.h0 true a b c d e f)
      else
       bif !(e.toList==(strB []).toList)then
        (YF e).bind fun g=>
        rec (.h0 (!g) a b c d e f)
       else
        rec (.h0 false a b c d e f)
 |.h0 a b c d e f g=>
  bif a then
   some false
  else
   rec (.h1 b (b.length:Int) 0 b c d e f g)
 |.h1 a b c d e f g i j=>
  bif decide (c<b)then
   ixR a c fun l=>
   un_m l fun m=>
   bif (m.length:Int)==0 then
    some false
   else
    rec (.h2 a b c m (m.length:Int) 0 d e f g i j)
  else
   rec (.h3 e (e.length:Int) 0)
 |.h2 a b c d e f g i j l m n=>
  bif decide (f<e)then
   ixR d f fun o=>
   qu8 o fun p q t _=>
   bif decide (p<1)then
    rec (.h4 a b c d e f true g i j l m n)
   else
    bif decide (p>3)then
     rec (.h4 a b c d e f true g i j l m n)
    else
     (YF q).bind fun u=>
     bif !u then
      rec (.h4 a b c d e f true g i j l m n)
     else
      (YF t).bind fun v=>
      rec (.h4 a b c d e f (!v) g i j l m n)
  else
   rec (.h1 a b (IntKind.i64.wrap (c+1)) g i j l m n)
 |.h3 a b c=>
  bif decide (c<b)then
   ixR a c fun d=>
   qE d fun e f g i j l m=>
   (g6 k e f g i j l m).bind fun n=>
   tup2 n fun _ o=>
   bif o==3 then
    rec (.h5 a b c true)
   else
    rec (.h5 a b c (e==13))
  else
   some true
 |.h4 a b c d e f g i j l m n o=>
  bif g then
   some false
  else
   rec (.h2 a b c d e (IntKind.i64.wrap (f+1)) i j l m n o)
 |.h5 a b c d=>
  bif d then
   some false
  else
   rec (.h3 a b (IntKind.i64.wrap (c+1)))
noncomputable def g25 (k:Nat)(a b:Rs)(c d:Int)(e:By)(f:Int):Option R25:=itS qjZ k (.e a b c d e f)
noncomputable def P25:S25→R25→Prop
 |.e a b c d e f,r=>Fin cx25 Tryz.f25 [.code qfD] (fr0 Tryz.f25 [.ag [.imm a,.imm b,ic c,ic d,sc e,ic f]] []) (qhG r) (bx25 r)
 |.h0 a b c d e f g,r=>Fin cx25 Tryz.f25 (kAt qfD [1,0,1,2] []) ⟨[.deadv,pL 1]++rep 43 .deadv++[.c (bc a)]++rep 58 .deadv,[(.loc 1,[.imm b,.imm c,ic d,ic e,sc f,ic g])]⟩ (qhG r) (bx25 r)
 |.h1 a b c d e f g i j,r=>Fin cx25 Tryz.f25 (kAt qfD [1,1,0,1,0,4] []) ⟨[.deadv,pL 1]++rep 45 .deadv++[.c (.imm a),.c (ic b),.c (ic c)]++rep 54 .deadv,[(.loc 1,[.imm d,.imm e,ic f,ic g,sc i,ic j])]⟩ (qhG r) (bx25 r)
 |.h2 a b c d e f g i j l m n,r=>Fin cx25 Tryz.f25 (kAt qfD [1,1,0,1,0,0,1,1,0,0,1,1,1,0,4] []) ⟨[.deadv,pL 1]++rep 45 .deadv++[.c (.imm a),.c (ic b),.c (ic c)]++rep 6 .deadv++[.c (.imm d),.c (ic e),.c (ic f)]++rep 45 .deadv,[(.loc 1,[.imm g,.imm i,ic j,ic l,sc m,ic n])]⟩ (qhG r) (bx25 r)
 |.h3 a b c,r=>Fin cx25 Tryz.f25 (kAt qfD [1,1,1,0,1,0,4] []) ⟨rep 85 .deadv++[.c (.imm a),.c (ic b),.c (ic c)]++rep 16 .deadv,[]⟩ (qhG r) (bx25 r)
 |.h4 a b c d e f g i j l m n o,r=>Fin cx25 Tryz.f25 (kAt qfD [1,1,0,1,0,0,1,1,0,0,1,1,1,0,0,1,1,0,0,1,1,2] []) ⟨[.deadv,pL 1]++rep 45 .deadv++[.c (.imm a),.c (ic b),.c (ic c)]++rep 6 .deadv++[.c (.imm d),.c (ic e),.c (ic f)]++rep 22 .deadv++[.c (bc g)]++rep 22 .deadv,[(.loc 1,[.imm i,.imm j,ic l,ic m,sc n,ic o])]⟩ (qhG r) (bx25 r)
 |.h5 a b c d,r=>Fin cx25 Tryz.f25 (kAt qfD [1,1,1,0,1,0,0,1,1,0,0,1,1,1,2] []) ⟨rep 85 .deadv++[.c (.imm a),.c (ic b),.c (ic c)]++rep 14 .deadv++[.c (bc d),.deadv],[]⟩ (qhG r) (bx25 r)
abbrev E25 (a b:Rs)(c d:Int)(e:By)(f:Int)(r:R25):Prop:=Ev Tryz.prog noHand 25 [.ag [.imm a,.imm b,ic c,ic d,sc e,ic f]] [] (qhG r) (bx25 r)
theorem qni {a b:Rs}{c d:Int}{e:By}{f:Int}{r:R25}(h:P25 (.e a b c d e f) r):E25 a b c d e f r:=evF h
theorem ok25:∀ k s r,itS qjZ k s=some r→P25 s r:=qF fun k rec ih s r h=>match s,h with
 |.e ..,h=>by
  rcases qa h with⟨a,h⟩|⟨a,h⟩
  · exact mA 0 (ih _ _ h) 5 [tT 14 a] 104 20282409603651670388762879197181
  ·
   rcases qa h with⟨b,h⟩|⟨b,h⟩
   · exact mA 0 (ih _ _ h) 5 [tF 14 a,tT 18 b] 104 20282409603651670388762879197181
   ·
    rcases qa h with⟨c,h⟩|⟨c,h⟩
    · exact mA 0 (ih _ _ h) 5 [tF 14 a,tF 18 b,tT 23 c] 104 20282409603651670388762879197181
    ·
     rcases qa h with⟨d,h⟩|⟨d,h⟩
     · exact mA 0 (ih _ _ h) 5 [tF 14 a,tF 18 b,tF 23 c,tT 28 d] 104 20282409603651670388762879197181
     · rcases qa h with⟨e,h⟩|⟨e,h⟩
       · exact mA 0 (ih _ _ h) 5 [tF 14 a,tF 18 b,tF 23 c,tF 28 d,tT 33 e] 104 20282409603651670388762879197181
       · rcases qa h with⟨f,h⟩|⟨f,h⟩
         · obtain⟨_,g,h⟩:=qh h;exact mA 0 (ih _ _ h) 5 [tF 14 a,tF 18 b,tF 23 c,tF 28 d,tF 33 e,tT 38 f,cA 42 (qi g)] 104 20282409603651670388762879197181
         · exact mA 0 (ih _ _ h) 5 [tF 14 a,tF 18 b,tF 23 c,tF 28 d,tF 33 e,tF 38 f] 104 20282409603651670388762879197181
 |.h0 ..,h=>by
  replace h:=qa h;rcases h with⟨rfl,h⟩|⟨rfl,h⟩
  · cases h;exact mF 0 []
  · exact mA 0 (ih _ _ h) 7 [] 104 20282409603651669438784832798717
 |.h1 ..,h=>by
  rcases qa h with⟨a,h⟩|⟨a,h⟩
  · obtain⟨_,b,h⟩:=YJ h;replace h:=qu9 h;obtain⟨_,rfl,h⟩:=h;rcases qa h with⟨c,h⟩|⟨c,h⟩
    · cases h;exact mF 0 [tT 50 a,rA 51 b,tT 55 c]
    · exact mA 0 (ih _ _ h) 19 [tT 50 a,rA 51 b,tF 55 c] 104 20282409603651165035626567303165
  · exact mG 0 (ih _ _ h) 11 [tF 50 a] 104 20282138804268076747012117102591 [1] []
 |.h2 ..,h=>by
  rcases qa h with⟨a,h⟩|⟨a,h⟩
  ·
   obtain⟨_,b,h⟩:=YJ h;replace h:=qu1 h;obtain⟨_,_,_,_,rfl,h⟩:=h;rcases qa h with⟨c,h⟩|⟨c,h⟩
   · exact mG 0 (ih _ _ h) 12 [tT 59 a,rA 60 b,tT 64 c] 104 20282407185799525806368217890813 [6] []
   ·
    rcases qa h with⟨d,h⟩|⟨d,h⟩
    · exact mG 0 (ih _ _ h) 12 [tT 59 a,rA 60 b,tF 64 c,tT 68 d] 104 20282407185799525806368217890813 [6] []
    · obtain⟨_,e,h⟩:=qh h;rcases qa h with⟨f,h⟩|⟨f,h⟩
      · exact mG 0 (ih _ _ h) 12 [tT 59 a,rA 60 b,tF 64 c,tF 68 d,cA 73 (qi e),tT 74 f] 104 20282407185799525806368217890813 [6] []
      · obtain⟨_,g,h⟩:=qh h;exact mG 0 (ih _ _ h) 12 [tT 59 a,rA 60 b,tF 64 c,tF 68 d,cA 73 (qi e),tF 74 f,cA 79 (qi g)] 104 20282407185799525806368217890813 [6] []
  · exact mA 0 (ih _ _ h) 8 [tF 59 a] 104 20282409603651669438784832798717
 |.h3 ..,h=>by
  rcases qa h with⟨a,h⟩|⟨a,h⟩
  · obtain⟨_,b,h⟩:=YJ h;replace h:=zB h;obtain⟨_,_,_,_,_,_,_,rfl,h⟩:=h;obtain⟨_,c,h⟩:=b2 h;rcases qa h with⟨d,h⟩|⟨d,h⟩
    · exact mG 0 (ih _ _ h) 14 [tT 88 a,rA 89 b,cA 93 (ev6 c),tT 97 d] 104 15211536403355159141025304281087 [8] []
    · exact mG 0 (ih _ _ h) 14 [tT 88 a,rA 89 b,cA 93 (ev6 c),tF 97 d] 104 15211536403355159141025304281087 [8] []
  · cases h;exact mF 0 [tF 88 a]
 |.h4 ..,h=>by
  replace h:=qa h;rcases h with⟨rfl,h⟩|⟨rfl,h⟩
  · cases h;exact mF 0 []
  · exact mA 0 (ih _ _ h) 4 [] 104 20282409603651165035626567303165
 |.h5 ..,h=>by
  replace h:=qa h;rcases h with⟨rfl,h⟩|⟨rfl,h⟩
  · cases h;exact mF 0 []
  · exact mA 0 (ih _ _ h) 4 [] 104 20282138804268076747012117102591
theorem ev25 {k:Nat}{a b:Rs}{c d:Int}{e:By}{f:Int}{r:R25}(h:g25 k a b c d e f=some r):E25 a b c d e f r:=qni (ok25 _ _ _ h)
inductive S12 where
 |e (a b:Rs)(c d:Int)(e:By)(f:Int)
 |h0 (a:Int)(b:Rs)(c d:Int)
abbrev R12:=Int
def qry:R12→ARes
 |r=>.ret (.c (ic r))
def bx12:R12→List (List Cell)
 |_=>[]
noncomputable def qmH (k:Nat)(rec:S12→Option R12):S12→Option R12
 |.e _ a ..=>rec (.h0 (if (IntKind.i64.wrap ((a.length:Int)-1):Int)>0 then IntKind.i64.wrap ((a.length:Int)-1)else 0) a (a.length:Int) 0)
 |.h0 a b c d=>
  bif decide (d<c)then
   ixR b d fun e=>
   qE e fun f g i j l m n=>
   (g17 k f g i j l m n).bind fun o=>
   rec (.h0 (IntKind.i64.wrap (a+o)) b c (IntKind.i64.wrap (d+1)))
  else
   some a
noncomputable def g12 (k:Nat)(a b:Rs)(c d:Int)(e:By)(f:Int):Option R12:=itS qmH k (.e a b c d e f)
noncomputable def P12:S12→R12→Prop
 |.e a b c d e f,r=>Fin cx12 Tryz.f12 [.code qpI] (fr0 Tryz.f12 [.ag [.imm a,.imm b,ic c,ic d,sc e,ic f]] []) (qry r) (bx12 r)
 |.h0 a b c d,r=>Fin cx12 Tryz.f12 (kAt qpI [1,1,0,1,0,4] []) ⟨rep 3 .deadv++[.c (ic a)]++rep 8 .deadv++[.c (.imm b),.c (ic c),.c (ic d)]++rep 9 .deadv,[]⟩ (qry r) (bx12 r)
abbrev E12 (a b:Rs)(c d:Int)(e:By)(f:Int)(r:R12):Prop:=Ev Tryz.prog noHand 12 [.ag [.imm a,.imm b,ic c,ic d,sc e,ic f]] [] (qry r) (bx12 r)
theorem que {a b:Rs}{c d:Int}{e:By}{f:Int}{r:R12}(h:P12 (.e a b c d e f) r):E12 a b c d e f r:=evF h
theorem ok12:∀ k s r,itS qmH k s=some r→P12 s r:=qF fun k rec ih s r h=>match s,h with
 |.e ..,h=>by exact mG 0 (ih _ _ h) 9 [] 24 16748535 [1] []
 |.h0 ..,h=>by
  rcases qa h with⟨a,h⟩|⟨a,h⟩
  · obtain⟨_,b,h⟩:=YJ h;replace h:=zB h;obtain⟨_,_,_,_,_,_,_,rfl,h⟩:=h;obtain⟨_,c,h⟩:=qh h;exact mG 0 (ih _ _ h) 13 [tT 15 a,rA 16 b,cA 20 (ev17 c)] 24 16748535 [5] []
  · cases h;exact mF 0 [tF 15 a]
theorem ev12 {k:Nat}{a b:Rs}{c d:Int}{e:By}{f:Int}{r:R12}(h:g12 k a b c d e f=some r):E12 a b c d e f r:=que (ok12 _ _ _ h)
inductive S26 where
 |e (a b:Rs)(c d:Int)(e:By)(f:Int)
 |h0 (a:Bool)(b c:Rs)(d e:Int)(f:By)(g:Int)
 |h1 (a:Rs)(b c:Int)
abbrev R26:=Bool
def qlX:R26→ARes
 |r=>.ret (.c (bc r))
def bx26:R26→List (List Cell)
 |_=>[]
noncomputable def qsr (k:Nat)(rec:S26→Option R26):S26→Option R26
 |.e a b c d e f=>
  bif decide ((a.length:Int)>4)then
   rec (.h0 true a b c d e f)
  else
   (g12 k a b c d e f).bind fun g=>
   rec (.h0 (decide (g>200)) a b c d e f)
 |.h0 a b ..=>
  bif a then
   some true
  else
   rec (.h1 b (b.length:Int) 0)
 |.h1 a b c=>
  bif decide (c<b)then
   ixR a c fun d=>
   un_m d fun e=>
   bif decide ((e.length:Int)>8)then
    some true
   else
    rec (.h1 a b (IntKind.i64.wrap (c+1)))
  else
   some false
noncomputable def g26 (k:Nat)(a b:Rs)(c d:Int)(e:By)(f:Int):Option R26:=itS qsr k (.e a b c d e f)
noncomputable def P26:S26→R26→Prop
 |.e a b c d e f,r=>Fin cx26 Tryz.f26 [.code qlT] (fr0 Tryz.f26 [.ag [.imm a,.imm b,ic c,ic d,sc e,ic f]] []) (qlX r) (bx26 r)
 |.h0 a b c d e f g,r=>Fin cx26 Tryz.f26 (kAt qlT [1,0,1,2] []) ⟨[.deadv,pL 1]++rep 11 .deadv++[.c (bc a)]++rep 11 .deadv,[(.loc 1,[.imm b,.imm c,ic d,ic e,sc f,ic g])]⟩ (qlX r) (bx26 r)
 |.h1 a b c,r=>Fin cx26 Tryz.f26 (kAt qlT [1,1,0,1,0,4] []) ⟨rep 15 .deadv++[.c (.imm a),.c (ic b),.c (ic c)]++rep 7 .deadv,[]⟩ (qlX r) (bx26 r)
abbrev E26 (a b:Rs)(c d:Int)(e:By)(f:Int)(r:R26):Prop:=Ev Tryz.prog noHand 26 [.ag [.imm a,.imm b,ic c,ic d,sc e,ic f]] [] (qlX r) (bx26 r)
theorem qh0 {a b:Rs}{c d:Int}{e:By}{f:Int}{r:R26}(h:P26 (.e a b c d e f) r):E26 a b c d e f r:=evF h
theorem ok26:∀ k s r,itS qsr k s=some r→P26 s r:=qF fun k rec ih s r h=>match s,h with
 |.e ..,h=>by
  rcases qa h with⟨a,h⟩|⟨a,h⟩
  · exact mA 0 (ih _ _ h) 5 [tT 8 a] 25 33546237
  · obtain⟨_,b,h⟩:=qh h;exact mA 0 (ih _ _ h) 5 [tF 8 a,cA 11 (ev12 b)] 25 33546237
 |.h0 ..,h=>by
  replace h:=qa h;rcases h with⟨rfl,h⟩|⟨rfl,h⟩
  · cases h;exact mF 0 []
  · exact mG 0 (ih _ _ h) 7 [] 25 33325055 [1] []
 |.h1 ..,h=>by
  rcases qa h with⟨a,h⟩|⟨a,h⟩
  · obtain⟨_,b,h⟩:=YJ h;replace h:=qu9 h;obtain⟨_,rfl,h⟩:=h;rcases qa h with⟨c,h⟩|⟨c,h⟩
    · cases h;exact mF 0 [tT 18 a,rA 19 b,tT 23 c]
    · exact mA 0 (ih _ _ h) 16 [tT 18 a,rA 19 b,tF 23 c] 25 33325055
  · cases h;exact mF 0 [tF 18 a]
theorem ev26 {k:Nat}{a b:Rs}{c d:Int}{e:By}{f:Int}{r:R26}(h:g26 k a b c d e f=some r):E26 a b c d e f r:=qh0 (ok26 _ _ _ h)
inductive S28 where
 |e (a:Rs)
 |h0 (a b:Rs)(c d:Int)
abbrev R28:=By
def qlC:R28→ARes
 |r=>.ret (.c (sc r))
def bx28:R28→List (List Cell)
 |_=>[]
noncomputable def qjV (k:Nat)(rec:S28→Option R28):S28→Option R28
 |.e a=>rec (.h0 [] a (a.length:Int) 0)
 |.h0 a b c d=>
  bif decide (d<c)then
   ixR b d fun e=>
   qu8 e fun f g i _=>
   aixS [strB [],strB [],strB [],strB [33]] f fun j=>
   gd (decide (j.size+g.size≤1000000000)) <|
   aixS [strB [],strB [],strB [43],strB []] f fun l=>
   gd (decide ((j++g).size+l.size≤1000000000)) <|
   gd (decide (((j++g)++l).size+(strB [32]).size≤1000000000)) <|
   gd (decide ((((j++g)++l)++(strB [32])).size+i.size≤1000000000)) <|
   gd (apOk 16 1 a [[sc ((((j++g)++l)++(strB [32]))++i)]]) <|
   rec (.h0 (a++[[sc ((((j++g)++l)++(strB [32]))++i)]]) b c (IntKind.i64.wrap (d+1)))
  else
   (qx2 (qG a) (strB [44,32])).bind fun m=>
   gd (decide ((strB [83,69,81,40]).size+m.size≤1000000000)) <|
   gd (decide (((strB [83,69,81,40])++m).size+(strB [41]).size≤1000000000)) <|
   some (((strB [83,69,81,40])++m)++(strB [41]))
noncomputable def g28 (k:Nat)(a:Rs):Option R28:=itS qjV k (.e a)
noncomputable def P28:S28→R28→Prop
 |.e a,r=>Fin cx28 Tryz.f28 [.code qlL] (fr0 Tryz.f28 [.c (.imm a)] []) (qlC r) (bx28 r)
 |.h0 a b c d,r=>Fin cx28 Tryz.f28 (kAt qlL [1,1,0,1,0,4] []) ⟨rep 3 .deadv++[.c (.own 1 a),.deadv,.deadv,.c (.imm b),.c (ic c),.c (ic d)]++rep 27 .deadv,[]⟩ (qlC r) (bx28 r)
abbrev E28 (a:Rs)(r:R28):Prop:=Ev Tryz.prog noHand 28 [.c (.imm a)] [] (qlC r) (bx28 r)
theorem qn4 {a:Rs}{r:R28}(h:P28 (.e a) r):E28 a r:=evF h
theorem ok28:∀ k s r,itS qjV k s=some r→P28 s r:=qF fun k rec ih s r h=>match s,h with
 |.e ..,h=>by exact mG 0 (ih _ _ h) 9 [] 36 68719476279 [] [(⟨⟨.slot 3,[]⟩,0,0⟩,some 1)]
 |.h0 ..,h=>by
  rcases qa h with⟨a,h⟩|⟨a,h⟩
  · obtain⟨_,b,h⟩:=YJ h;replace h:=qu1 h;obtain⟨_,c,d,_,rfl,h⟩:=h;obtain⟨e,f,h⟩:=qcW h;obtain⟨g,h⟩:=zo h;obtain⟨i,j,h⟩:=qcW h;obtain⟨l,h⟩:=zo h;obtain⟨m,h⟩:=zo h;obtain⟨n,h⟩:=zo h;obtain⟨o,h⟩:=zo h;exact mG 0 (ih _ _ h) 13 [tT 9 a,rA 10 b,aA 16 f,xC 19 g,aA 23 j,xC 24 l,xC 25 m,xC 28 n,⟨(some 30,.okE false),[_],⟨okF [[sc ((((e++c)++i)++(strB [32]))++d)]] o,trivial⟩⟩] 36 68719476279 [5] []
  · obtain⟨_,b,h⟩:=qh h;obtain⟨p,h⟩:=zo h;obtain⟨q,h⟩:=zo h;cases h;exact mF 0 [tF 9 a,cT 33 (qxb b) (rfl:true=true),xC 34 p,xC 35 q]
theorem ev28 {k:Nat}{a:Rs}{r:R28}(h:g28 k a=some r):E28 a r:=qn4 (ok28 _ _ _ h)
inductive S29 where
 |e (a:Rs)
 |h0 (a:Rs)(b c d:Int)(e:Rs)(f g:Int)(i j:By)(l:Int)
 |h1 (a:Rs)(b c d:Int)(e:Rs)(f g:Int)(i j:By)(l:Int)
 |h2 (a:Rs)(b c d:Int)(e:Rs)(f g:Int)(i j:By)(l:Int)
abbrev R29:=By×Int
def qlZ:R29→ARes
 |(a,b)=>.ret ⟨.tup [false,false],[[sc a],[ic b]]⟩
def bx29:R29→List (List Cell)
 |(_,_)=>[]
noncomputable def qfO (k:Nat)(rec:S29→Option R29):S29→Option R29
 |.e a=>
  bif (a.length:Int)==0 then
   some (strB [],0)
  else
   ixR a 0 fun b=>
   qE b fun c d e f g i j=>
   gd (slOk 1 (a.length:Int) a 7) <|
   rec (.h0 (List.drop (Int.toNat 1) (List.take (Int.toNat (a.length:Int)) a)) ((List.drop (Int.toNat 1) (List.take (Int.toNat (a.length:Int)) a)).length:Int) 0 c d e f g i j)
 |.h0 a b c d e f g i j l=>
  bif decide (c<b)then
   ixR a c fun m=>
   qE m fun n o p q t u v=>
   rec (.h1 a b c 13 [[ic d,.imm e,ic f,ic g,sc i,sc j,ic l],[ic n,.imm o,ic p,ic q,sc t,sc u,ic v]] 0 0 (strB []) (strB []) 0)
  else
   (g6 k d e f g i j l).bind fun w=>
   tup2 w fun x y=>
   gd (decide ((strB [32,87,72,69,82,69,32]).size+x.size≤1000000000)) <|
   some (((strB [32,87,72,69,82,69,32])++x),y)
 |.h1 a b c d e f g i j l=>rec (.h2 a b (IntKind.i64.wrap (c+1)) d e f g i j l)
 |.h2 a b c d e f g i j l=>
  bif decide (c<b)then
   ixR a c fun m=>
   qE m fun n o p q t u v=>
   rec (.h1 a b c 13 [[ic d,.imm (qG e),ic f,ic g,sc i,sc j,ic l],[ic n,.imm o,ic p,ic q,sc t,sc u,ic v]] 0 0 (strB []) (strB []) 0)
  else
   (g6 k d (qG e) f g i j l).bind fun w=>
   tup2 w fun x y=>
   gd (decide ((strB [32,87,72,69,82,69,32]).size+x.size≤1000000000)) <|
   some (((strB [32,87,72,69,82,69,32])++x),y)
noncomputable def g29 (k:Nat)(a:Rs):Option R29:=itS qfO k (.e a)
noncomputable def P29:S29→R29→Prop
 |.e a,r=>Fin cx29 Tryz.f29 [.code qme] (fr0 Tryz.f29 [.c (.imm a)] []) (qlZ r) (bx29 r)
 |.h0 a b c d e f g i j l,r=>Fin cx29 Tryz.f29 (kAt qme [1,1,1,0,1,0,4] []) ⟨rep 4 .deadv++[pL 4]++rep 11 .deadv++[.c (.imm a),.c (ic b),.c (ic c)]++rep 16 .deadv,[(.loc 4,[ic d,.imm e,ic f,ic g,sc i,sc j,ic l])]⟩ (qlZ r) (bx29 r)
 |.h1 a b c d e f g i j l,r=>Fin cx29 Tryz.f29 (kAt qme [1,1,1,0,1,0,0,1,1,1,2] []) ⟨rep 4 .deadv++[pL 4]++rep 11 .deadv++[.c (.imm a),.c (ic b),.c (ic c)]++rep 16 .deadv,[(.loc 4,[ic d,.own 7 e,ic f,ic g,sc i,sc j,ic l])]⟩ (qlZ r) (bx29 r)
 |.h2 a b c d e f g i j l,r=>Fin cx29 Tryz.f29 (kAt qme [1,1,1,0,1,0,4] []) ⟨rep 4 .deadv++[pL 4]++rep 11 .deadv++[.c (.imm a),.c (ic b),.c (ic c)]++rep 16 .deadv,[(.loc 4,[ic d,.own 7 e,ic f,ic g,sc i,sc j,ic l])]⟩ (qlZ r) (bx29 r)
abbrev E29 (a:Rs)(r:R29):Prop:=Ev Tryz.prog noHand 29 [.c (.imm a)] [] (qlZ r) (bx29 r)
theorem qng {a:Rs}{r:R29}(h:P29 (.e a) r):E29 a r:=evF h
theorem ok29:∀ k s r,itS qfO k s=some r→P29 s r:=qF fun k rec ih s r h=>match s,h with
 |.e ..,h=>by
  rcases qa h with⟨a,h⟩|⟨a,h⟩
  · cases h;exact mF 0 [tT 11 a]
  · obtain⟨_,b,h⟩:=YJ h;replace h:=zB h;obtain⟨_,_,_,_,_,_,_,rfl,h⟩:=h;obtain⟨c,h⟩:=zo h;exact mA 0 (ih _ _ h) 14 [tF 11 a,rA 13 b,⟨(some 16,.ok),[_],⟨of_decide_eq_true c,trivial⟩⟩] 35 34359279599
 |.h0 ..,h=>by
  rcases qa h with⟨a,h⟩|⟨a,h⟩
  · obtain⟨_,b,h⟩:=YJ h;replace h:=zB h;obtain⟨_,_,_,_,_,_,_,rfl,h⟩:=h;exact mG 0 (ih _ _ h) 12 [tT 19 a,rA 20 b] 35 34359279599 [6] []
  · obtain⟨_,b,h⟩:=b2 h;obtain⟨c,h⟩:=zo h;cases h;exact mF 0 [tF 19 a,cA 29 (ev6 b),xC 33 c]
 |.h1 ..,h=>by exact mA 0 (ih _ _ h) 1 [] 35 34359279599
 |.h2 ..,h=>by
  rcases qa h with⟨a,h⟩|⟨a,h⟩
  · obtain⟨_,b,h⟩:=YJ h;replace h:=zB h;obtain⟨_,_,_,_,_,_,_,rfl,h⟩:=h;exact mG 0 (ih _ _ h) 12 [tT 19 a,rA 20 b] 35 34359279599 [6] []
  · obtain⟨_,b,h⟩:=b2 h;obtain⟨c,h⟩:=zo h;cases h;exact mF 0 [tF 19 a,cT 29 (ev6 b) (rfl:true=true),xC 33 c]
theorem ev29 {k:Nat}{a:Rs}{r:R29}(h:g29 k a=some r):E29 a r:=qng (ok29 _ _ _ h)
end Ab
end Go.Proofs.YtpdhhkfllkgahaaGreatDoor
