/-
  Functions' ways, printed by a program: what each computes, and that this is what the interpreter computes.
-/
import Derived.Test.YtfekohpjaafnhaaGreatDoorFEdq
import Derived.KernelRfl
set_option linter.all false
set_option maxRecDepth 10000
namespace Go.Proofs.YtfekohpjaafnhaaGreatDoor
namespace Ab
variable [vo]
inductive S15 where
 |e (a:Int)(b:Rs)(c d:Int)(e f:By)(g:Int)
abbrev R15:=By×Int
def qin:R15→ARes
 |(a,b)=>.ret ⟨.tup [false,false],[[sc a],[ic b]]⟩
def bx15:R15→List (List Cell)
 |(_,_)=>[]
noncomputable def Zu (k:Nat)(rec:S15→Option R15):S15→Option R15
 |.e a b c d e f g=>
  (g26 k a b c d e f g).bind fun i=>
  bif !i then
   some (strB [],3)
  else
   (g17 k a b c d e f g).bind fun j=>
   bif decide (j>200)then
    some (strB [],2)
   else
    (g27 k a b c d e f g).bind fun l=>
    tup2 l fun m n=>
    bif decide ((m.size:Int)>4000)then
     some (strB [],2)
    else
     bif decide (n>30)then
      some (strB [],14)
     else
      some (m,0)
noncomputable def g15 (k:Nat)(a:Int)(b:Rs)(c d:Int)(e f:By)(g:Int):Option R15:=itS Zu k (.e a b c d e f g)
noncomputable def P15:S15→R15→Prop
 |.e a b c d e f g,r=>Fin cx15 Tryz.f15 [.code qbW] (fr0 Tryz.f15 [.ag [ic a,.imm b,ic c,ic d,sc e,sc f,ic g]] []) (qin r) (bx15 r)
abbrev E15 (a:Int)(b:Rs)(c d:Int)(e f:By)(g:Int)(r:R15):Prop:=Ev Tryz.prog noHand 15 [.ag [ic a,.imm b,ic c,ic d,sc e,sc f,ic g]] [] (qin r) (bx15 r)
theorem qn0 {a:Int}{b:Rs}{c d:Int}{e f:By}{g:Int}{r:R15}(h:P15 (.e a b c d e f g) r):E15 a b c d e f g r:=evF h
theorem ok15:∀ k s r,itS Zu k s=some r→P15 s r:=qF fun k rec ih s r h=>match s,h with
 |.e ..,h=>by
  obtain⟨_,a,h⟩:=qh h;rcases qa h with⟨b,h⟩|⟨b,h⟩
  · cases h;exact mF 0 [cA 7 (ev26 a),tT 8 b]
  ·
   obtain⟨_,c,h⟩:=qh h;rcases qa h with⟨d,h⟩|⟨d,h⟩
   · cases h;exact mF 0 [cA 7 (ev26 a),tF 8 b,cA 10 (ev17 c),tT 11 d]
   ·
    obtain⟨_,e,h⟩:=b2 h;rcases qa h with⟨f,h⟩|⟨f,h⟩
    · cases h;exact mF 0 [cA 7 (ev26 a),tF 8 b,cA 10 (ev17 c),tF 11 d,cA 14 (ev27 e),tT 20 f]
    · rcases qa h with⟨g,h⟩|⟨g,h⟩
      · cases h;exact mF 0 [cA 7 (ev26 a),tF 8 b,cA 10 (ev17 c),tF 11 d,cA 14 (ev27 e),tF 20 f,tT 23 g]
      · cases h;exact mF 0 [cA 7 (ev26 a),tF 8 b,cA 10 (ev17 c),tF 11 d,cA 14 (ev27 e),tF 20 f,tF 23 g]
theorem ev15 {k:Nat}{a:Int}{b:Rs}{c d:Int}{e f:By}{g:Int}{r:R15}(h:g15 k a b c d e f g=some r):E15 a b c d e f g r:=qn0 (ok15 _ _ _ h)
inductive S8 where
 |e
abbrev R8:=Bool
def res8:R8→ARes
 |r=>.ret (.c (bc r))
def bx8:R8→List (List Cell)
 |_=>[]
noncomputable def qbD (k:Nat)(rec:S8→Option R8):S8→Option R8
 |.e=>
  (g6 k (strB [97,46,120,43,49,60,61,50,42,67,79,85,78,84,40,98,41])).bind fun a=>
  tup9 a fun b c d e f g i j l=>
  (g15 k b c d e f g i).bind fun m=>
  tup2 m fun n o=>
  bif l==0 then
   bif j==0 then
    bif o==0 then
     bif n.toList==(strB [97,46,120,32,43,32,49,32,60,61,32,50,32,42,32,67,79,85,78,84,40,98,41]).toList then
      bif b==10 then
       some (i==5)
      else
       some false
     else
      some false
    else
     some false
   else
    some false
  else
   some false
noncomputable def g8 (k:Nat):Option R8:=itS qbD k (.e)
noncomputable def P8:S8→R8→Prop
 |.e,r=>Fin cx8 Tryz.f8 [.code qk4] (fr0 Tryz.f8 [] []) (res8 r) (bx8 r)
abbrev E8 (r:R8):Prop:=Ev Tryz.prog noHand 8 [] [] (res8 r) (bx8 r)
theorem evr8 {r:R8}(h:P8 (.e) r):E8 r:=evF h
theorem ok8:∀ k s r,itS qbD k s=some r→P8 s r:=qF fun k rec ih s r h=>match s,h with
 |.e,h=>by
  obtain⟨_,a,h⟩:=b9 h;obtain⟨_,b,h⟩:=b2 h;rcases qa h with⟨c,h⟩|⟨c,h⟩
  ·
   rcases qa h with⟨d,h⟩|⟨d,h⟩
   ·
    rcases qa h with⟨e,h⟩|⟨e,h⟩
    ·
     rcases qa h with⟨f,h⟩|⟨f,h⟩
     · rcases qa h with⟨g,h⟩|⟨g,h⟩
       · cases h;exact mF 0 [cA 7 (ev6 a),cA 13 (ev15 b),tT 17 c,tT 20 d,tT 24 e,tT 28 f,tT 33 g]
       · cases h;exact mF 0 [cA 7 (ev6 a),cA 13 (ev15 b),tT 17 c,tT 20 d,tT 24 e,tT 28 f,tF 33 g]
     · cases h;exact mF 0 [cA 7 (ev6 a),cA 13 (ev15 b),tT 17 c,tT 20 d,tT 24 e,tF 28 f]
    · cases h;exact mF 0 [cA 7 (ev6 a),cA 13 (ev15 b),tT 17 c,tT 20 d,tF 24 e]
   · cases h;exact mF 0 [cA 7 (ev6 a),cA 13 (ev15 b),tT 17 c,tF 20 d]
  · cases h;exact mF 0 [cA 7 (ev6 a),cA 13 (ev15 b),tF 17 c]
theorem ev8 {k:Nat}{r:R8}(h:g8 k=some r):E8 r:=evr8 (ok8 _ _ _ h)
inductive S9 where
 |e (a:Int)(b:Rs)(c d:Int)(e f:By)(g i:Int)(j:Rs)(l m:Int)(n o:By)(p:Int)(q:Bool)
 |h0 (a b:Bool)(c:Int)(d:Rs)(e f:Int)(g i:By)(j l:Int)(m:Rs)(n o:Int)(p q:By)(t:Int)
 |h1 (a:Bool)(b c d:Int)(e:Rs)(f g:Int)(i j:By)(l m:Int)(n:Rs)(o p:Int)(q t:By)(u:Int)
abbrev R9:=Bool
def res9:R9→ARes
 |r=>.ret (.c (bc r))
def bx9:R9→List (List Cell)
 |_=>[]
noncomputable def qn6 (k:Nat)(rec:S9→Option R9):S9→Option R9
 |.e a b c d e f g i j l m n o p q=>
  bif a != i then
   rec (.h0 q true i j l m n o p a b c d e f g)
  else
   bif c != l then
    rec (.h0 q true i j l m n o p a b c d e f g)
   else
    bif d != m then
     rec (.h0 q true i j l m n o p a b c d e f g)
    else
     bif !(e.toList==n.toList)then
      rec (.h0 q true i j l m n o p a b c d e f g)
     else
      bif !(f.toList==o.toList)then
       rec (.h0 q true i j l m n o p a b c d e f g)
      else
       bif (b.length:Int)!=(j.length:Int)then
        rec (.h0 q true i j l m n o p a b c d e f g)
       else
        bif q then
         rec (.h0 q (g != p) i j l m n o p a b c d e f g)
        else
         rec (.h0 q false i j l m n o p a b c d e f g)
 |.h0 a b c d e f g i j l m n o p q t=>
  bif b then
   some false
  else
   rec (.h1 a (m.length:Int) 0 c d e f g i j l m n o p q t)
 |.h1 a b c d e f g i j l m n o p q t u=>
  bif decide (c<b)then
   ixR n c fun v=>
   qE v fun w x y z a1 b1 c1=>
   ixR e c fun d1=>
   qE d1 fun e1 f1 g1 i1 j1 l1 m1=>
   (rec (.e w x y z a1 b1 c1 e1 f1 g1 i1 j1 l1 m1 a)).bind fun n1=>
   bif !n1 then
    some false
   else
    rec (.h1 a b (IntKind.i64.wrap (c+1)) d e f g i j l m n o p q t u)
  else
   some true
noncomputable def g9 (k:Nat)(a:Int)(b:Rs)(c d:Int)(e f:By)(g i:Int)(j:Rs)(l m:Int)(n o:By)(p:Int)(q:Bool):Option R9:=itS qn6 k (.e a b c d e f g i j l m n o p q)
noncomputable def P9:S9→R9→Prop
 |.e a b c d e f g i j l m n o p q,r=>Fin cx9 Tryz.f9 [.code qmn] (fr0 Tryz.f9 [.ag [ic a,.imm b,ic c,ic d,sc e,sc f,ic g],.ag [ic i,.imm j,ic l,ic m,sc n,sc o,ic p],.c (bc q)] []) (res9 r) (bx9 r)
 |.h0 a b c d e f g i j l m n o p q t,r=>Fin cx9 Tryz.f9 (kAt qmn [1,0,1,2] []) ⟨[.deadv,.deadv,.c (bc a),pL 3,pL 4]++rep 54 .deadv++[.c (bc b)]++rep 20 .deadv,[(.loc 4,[ic c,.imm d,ic e,ic f,sc g,sc i,ic j]),(.loc 3,[ic l,.imm m,ic n,ic o,sc p,sc q,ic t])]⟩ (res9 r) (bx9 r)
 |.h1 a b c d e f g i j l m n o p q t u,r=>Fin cx9 Tryz.f9 (kAt qmn [1,1,0,1,0,4] []) ⟨[.deadv,.deadv,.c (bc a),pL 3,pL 4]++rep 57 .deadv++[.c (ic b),.c (ic c)]++rep 16 .deadv,[(.loc 4,[ic d,.imm e,ic f,ic g,sc i,sc j,ic l]),(.loc 3,[ic m,.imm n,ic o,ic p,sc q,sc t,ic u])]⟩ (res9 r) (bx9 r)
abbrev E9 (a:Int)(b:Rs)(c d:Int)(e f:By)(g i:Int)(j:Rs)(l m:Int)(n o:By)(p:Int)(q:Bool)(r:R9):Prop:=Ev Tryz.prog noHand 9 [.ag [ic a,.imm b,ic c,ic d,sc e,sc f,ic g],.ag [ic i,.imm j,ic l,ic m,sc n,sc o,ic p],.c (bc q)] [] (res9 r) (bx9 r)
theorem evr9 {a:Int}{b:Rs}{c d:Int}{e f:By}{g i:Int}{j:Rs}{l m:Int}{n o:By}{p:Int}{q:Bool}{r:R9}(h:P9 (.e a b c d e f g i j l m n o p q) r):E9 a b c d e f g i j l m n o p q r:=evF h
theorem ok9:∀ k s r,itS qn6 k s=some r→P9 s r:=qF fun k rec ih s r h=>match s,h with
 |.e ..,h=>by
  rcases qa h with⟨a,h⟩|⟨a,h⟩
  · exact mA 0 (ih _ _ h) 5 [tT 12 a] 80 1208925243153876871282659
  ·
   rcases qa h with⟨b,h⟩|⟨b,h⟩
   · exact mA 0 (ih _ _ h) 5 [tF 12 a,tT 18 b] 80 1208925243153876871282659
   ·
    rcases qa h with⟨c,h⟩|⟨c,h⟩
    · exact mA 0 (ih _ _ h) 5 [tF 12 a,tF 18 b,tT 25 c] 80 1208925243153876871282659
    ·
     rcases qa h with⟨d,h⟩|⟨d,h⟩
     · exact mA 0 (ih _ _ h) 5 [tF 12 a,tF 18 b,tF 25 c,tT 32 d] 80 1208925243153876871282659
     ·
      rcases qa h with⟨e,h⟩|⟨e,h⟩
      · exact mA 0 (ih _ _ h) 5 [tF 12 a,tF 18 b,tF 25 c,tF 32 d,tT 39 e] 80 1208925243153876871282659
      · rcases qa h with⟨f,h⟩|⟨f,h⟩
        · exact mA 0 (ih _ _ h) 5 [tF 12 a,tF 18 b,tF 25 c,tF 32 d,tF 39 e,tT 48 f] 80 1208925243153876871282659
        · replace h:=qa h;rcases h with⟨rfl,h⟩|⟨rfl,h⟩
          · exact mA 0 (ih _ _ h) 5 [tF 12 a,tF 18 b,tF 25 c,tF 32 d,tF 39 e,tF 48 f] 80 1208925243153876871282659
          · exact mA 0 (ih _ _ h) 5 [tF 12 a,tF 18 b,tF 25 c,tF 32 d,tF 39 e,tF 48 f] 80 1208925243153876871282659
 |.h0 ..,h=>by
  replace h:=qa h;rcases h with⟨rfl,h⟩|⟨rfl,h⟩
  · cases h;exact mF 0 []
  · exact mA 0 (ih _ _ h) 7 [] 80 1208911984556573892542435
 |.h1 ..,h=>by
  rcases qa h with⟨a,h⟩|⟨a,h⟩
  · obtain⟨_,b,h⟩:=YJ h;replace h:=zB h;obtain⟨_,_,_,_,_,_,_,rfl,h⟩:=h;obtain⟨_,c,h⟩:=YJ h;replace h:=zB h;obtain⟨_,_,_,_,_,_,_,rfl,h⟩:=h;obtain⟨_,d,h⟩:=qh h;rcases qa h with⟨e,h⟩|⟨e,h⟩
    · cases h;exact mF 0 [tT 64 a,rA 69 b,rA 74 c,cA 77 (evr9 (ih _ _ d)),tT 78 e]
    · exact mA 0 (ih _ _ h) 16 [tT 64 a,rA 69 b,rA 74 c,cA 77 (evr9 (ih _ _ d)),tF 78 e] 80 1208911984556573892542435
  · cases h;exact mF 0 [tF 64 a]
theorem ev9 {k:Nat}{a:Int}{b:Rs}{c d:Int}{e f:By}{g i:Int}{j:Rs}{l m:Int}{n o:By}{p:Int}{q:Bool}{r:R9}(h:g9 k a b c d e f g i j l m n o p q=some r):E9 a b c d e f g i j l m n o p q r:=evr9 (ok9 _ _ _ h)
inductive S3 where
 |e (a:By)
abbrev R3:=Bool
noncomputable def qon (k:Nat)(rec:S3→Option R3):S3→Option R3
 |.e a=>
  (g6 k a).bind fun b=>
  tup9 b fun c d e f g i j l m=>
  (g7 k a).bind fun n=>
  tup9 n fun o p q t u v w x y=>
  (g8 k).bind fun z=>
  bif z then
   (g9 k c d e f g i j o p q t u v w true).bind fun a1=>
   bif a1 then
    bif l==x then
     some (m==y)
    else
     some false
   else
    some false
  else
   some false
noncomputable def g3 (k:Nat)(a:By):Option R3:=itS qon k (.e a)
inductive S4 where
 |e (a:By)(b:Int)
 |h0 (a:Int)(b c:Rs)(d:Bool)
abbrev R4:=Bool
noncomputable def qnB (k:Nat)(rec:S4→Option R4):S4→Option R4
 |.e a b=>
  (g10 k a).bind fun c=>
  altC c (fun d=>
    tup3 d fun e _ f=>
    (g11 k a).bind fun g=>
    tup3 g fun i _ _=>
    rec (.h0 b e i (f != 0))) (fun d=>
    tup2 d fun _ f=>
    (g11 k a).bind fun g=>
    tup3 g fun i _ _=>
    rec (.h0 b [] i (f != 0)))
 |.h0 a b c d=>
  bif d then
   (g8 k).bind fun e=>
   some e
  else
   (g12 k b a).bind fun e=>
   altC e (fun f=>
     tup9 f fun g i j l m n o p q=>
     (g13 k (qG c) a).bind fun t=>
     ql t fun u v w x y z a1 b1 c1 d1=>
     (g8 k).bind fun e1=>
     bif e1 then
      (g9 k g [] i j l m n u v w x y z a1 true).bind fun f1=>
      bif f1 then
       bif o==b1 then
        bif p==c1 then
         some (q==d1)
        else
         some false
       else
        some false
      else
       some false
     else
      some false) (fun f=>
     ql f fun g g1 i j l m n o p q=>
     (g13 k (qG c) a).bind fun t=>
     ql t fun u v w x y z a1 b1 c1 d1=>
     (g8 k).bind fun e1=>
     bif e1 then
      (g9 k g g1 i j l m n u v w x y z a1 true).bind fun f1=>
      bif f1 then
       bif o==b1 then
        bif p==c1 then
         some (q==d1)
        else
         some false
       else
        some false
      else
       some false
     else
      some false)
noncomputable def g4 (k:Nat)(a:By)(b:Int):Option R4:=itS qnB k (.e a b)
inductive S14 where
 |e (a:Int)(b:Rs)(c d:Int)(e f:By)(g:Int)
 |h0 (a:Rs)(b c d e f:Int)(g i:By)(j l:Int)(m:Rs)(n o:Int)(p q:By)(t:Int)
abbrev R14:=Int×Rs×Int×Int×By×By×Int
def qmx:R14→ARes
 |(a,b,c,d,e,f,g)=>.ret (.ag [ic a,.imm b,ic c,ic d,sc e,sc f,ic g])
def bx14:R14→List (List Cell)
 |(_,_,_,_,_,_,_)=>[]
noncomputable def qkA (k:Nat)(rec:S14→Option R14):S14→Option R14
 |.e a b c d e f g=>rec (.h0 [] (b.length:Int) 0 0 0 0 (strB []) (strB []) 0 a b c d e f g)
 |.h0 a b c d e f g i j l m n o p q t=>
  bif decide (c<b)then
   ixR m c fun u=>
   qE u fun v w x y z a1 b1=>
   (rec (.e v w x y z a1 b1)).bind fun c1=>
   tup7 c1 fun d1 e1 f1 g1 i1 j1 l1=>
   gd (apOk 88 7 a [[ic d1,.imm e1,ic f1,ic g1,sc i1,sc j1,ic l1]]) <|
   rec (.h0 (a++[[ic d1,.imm e1,ic f1,ic g1,sc i1,sc j1,ic l1]]) b (IntKind.i64.wrap (c+1)) d e f g i j l m n o p q t)
  else
   some (l,qG a,n,o,p,q,t)
noncomputable def g14 (k:Nat)(a:Int)(b:Rs)(c d:Int)(e f:By)(g:Int):Option R14:=itS qkA k (.e a b c d e f g)
noncomputable def P14:S14→R14→Prop
 |.e a b c d e f g,r=>Fin cx14 Tryz.f14 [.code qmg] (fr0 Tryz.f14 [.ag [ic a,.imm b,ic c,ic d,sc e,sc f,ic g]] []) (qmx r) (bx14 r)
 |.h0 a b c d e f g i j l m n o p q t,r=>Fin cx14 Tryz.f14 (kAt qmg [1,1,0,1,0,4] []) ⟨[.deadv,pL 1,pL 2,.c (.own 7 a)]++rep 3 .deadv++[.c (ic b),.c (ic c)]++rep 15 .deadv,[(.loc 2,[ic d,.nil,ic e,ic f,sc g,sc i,ic j]),(.loc 1,[ic l,.imm m,ic n,ic o,sc p,sc q,ic t])]⟩ (qmx r) (bx14 r)
abbrev E14 (a:Int)(b:Rs)(c d:Int)(e f:By)(g:Int)(r:R14):Prop:=Ev Tryz.prog noHand 14 [.ag [ic a,.imm b,ic c,ic d,sc e,sc f,ic g]] [] (qmx r) (bx14 r)
theorem qnT {a:Int}{b:Rs}{c d:Int}{e f:By}{g:Int}{r:R14}(h:P14 (.e a b c d e f g) r):E14 a b c d e f g r:=evF h
theorem ok14:∀ k s r,itS qkA k s=some r→P14 s r:=qF fun k rec ih s r h=>match s,h with
 |.e ..,h=>by exact mG 0 (ih _ _ h) 9 [] 24 16776817 [] [(⟨⟨.slot 3,[]⟩,0,0⟩,some 7)]
 |.h0 ..,h=>by
  rcases qa h with⟨a,h⟩|⟨a,h⟩
  · obtain⟨_,b,h⟩:=YJ h;replace h:=zB h;obtain⟨_,_,_,_,_,_,_,rfl,h⟩:=h;obtain⟨_,c,h⟩:=qh h;replace h:=qym h;obtain⟨d,e,f,g,i,j,l,rfl,h⟩:=h;obtain⟨m,h⟩:=zo h;exact mA 0 (ih _ _ h) 13 [tT 9 a,rA 15 b,cA 17 (qnT (ih _ _ c)),⟨(some 19,.okE false),[_],⟨okF [[ic d,.imm e,ic f,ic g,sc i,sc j,ic l]] m,trivial⟩⟩] 24 16776817
  · cases h;exact mF 0 [tF 9 a]
theorem ev14 {k:Nat}{a:Int}{b:Rs}{c d:Int}{e f:By}{g:Int}{r:R14}(h:g14 k a b c d e f g=some r):E14 a b c d e f g r:=qnT (ok14 _ _ _ h)
inductive S57 where
 |e (a b:Int)
 |h0 (a b c d:Int)
 |h1 (a b c:Int)(d:By)
abbrev R57:=By
def qx4:R57→ARes
 |r=>.ret (.c (sc r))
def bx57:R57→List (List Cell)
 |_=>[]
noncomputable def qw6 (k:Nat)(rec:S57→Option R57):S57→Option R57
 |.e a b=>rec (.h0 a b 1 0)
 |.h0 a b c d=>
  bif decide (d<b)then
   rec (.h0 a b (IntKind.i64.wrap (c*10)) (IntKind.i64.wrap (d+1)))
  else
   gd (decide (c≠0)) <|
   (g74 k (Int.tmod a c)).bind fun e=>
   rec (.h1 a b c e)
 |.h1 a b c d=>
  bif decide ((d.size:Int)<b)then
   gd (decide ((strB [48]).size+d.size≤1000000000)) <|
   rec (.h1 a b c ((strB [48])++d))
  else
   gd (decide (c≠0)) <|
   (g74 k (IntKind.i64.wrap (Int.tdiv a c))).bind fun e=>
   gd (decide (e.size+(strB [46]).size≤1000000000)) <|
   gd (decide ((e++(strB [46])).size+d.size≤1000000000)) <|
   some ((e++(strB [46]))++d)
noncomputable def g57 (k:Nat)(a b:Int):Option R57:=itS qw6 k (.e a b)
noncomputable def P57:S57→R57→Prop
 |.e a b,r=>Fin cx57 Tryz.f57 [.code qxK] (fr0 Tryz.f57 [.c (ic a),.c (ic b)] []) (qx4 r) (bx57 r)
 |.h0 a b c d,r=>Fin cx57 Tryz.f57 (kAt qxK [1,1,0,1,0,4] []) ⟨[.c (ic a),.c (ic b)]++rep 3 .deadv++[.c (ic c),.c (ic d)]++rep 25 .deadv,[]⟩ (qx4 r) (bx57 r)
 |.h1 a b c d,r=>Fin cx57 Tryz.f57 (kAt qxK [1,1,1,1,0,0,4] []) ⟨[.c (ic a),.c (ic b)]++rep 3 .deadv++[.c (ic c),.deadv,.c (sc d)]++rep 24 .deadv,[]⟩ (qx4 r) (bx57 r)
abbrev E57 (a b:Int)(r:R57):Prop:=Ev Tryz.prog noHand 57 [.c (ic a),.c (ic b)] [] (qx4 r) (bx57 r)
theorem qyw {a b:Int}{r:R57}(h:P57 (.e a b) r):E57 a b r:=evF h
theorem ok57:∀ k s r,itS qw6 k s=some r→P57 s r:=qF fun k rec ih s r h=>match s,h with
 |.e ..,h=>by exact mA 0 (ih _ _ h) 9 [] 32 4294967196
 |.h0 ..,h=>by
  rcases qa h with⟨a,h⟩|⟨a,h⟩
  · exact mA 0 (ih _ _ h) 11 [tT 10 a] 32 4294967196
  · obtain⟨b,h⟩:=zo h;obtain⟨_,c,h⟩:=qh h;exact mA 0 (ih _ _ h) 11 [tF 10 a,xQ 17 b,cA 18 (ev74 c)] 32 4294967132
 |.h1 ..,h=>by
  rcases qa h with⟨a,h⟩|⟨a,h⟩
  · obtain⟨b,h⟩:=zo h;exact mA 0 (ih _ _ h) 9 [tT 22 a,xC 24 b] 32 4294967132
  · obtain⟨b,h⟩:=zo h;obtain⟨_,c,h⟩:=qh h;obtain⟨d,h⟩:=zo h;obtain⟨e,h⟩:=zo h;cases h;exact mF 0 [tF 22 a,xQ 27 b,cA 28 (ev74 c),xC 29 d,xC 31 e]
theorem ev57 {k:Nat}{a b:Int}{r:R57}(h:g57 k a b=some r):E57 a b r:=qyw (ok57 _ _ _ h)
inductive S28 where
 |e (a:Int)(b:Rs)(c d:Int)(e f:By)(g:Int)
 |h0 (a:Int)(b c d e:Bool)(f:Int)(g:Rs)(i j:Int)(l m:By)(n:Int)
 |h1 (a:Int)(b c d:Bool)(e:Int)(f:Rs)(g i:Int)(j l:By)(m:Int)
 |h2 (a:Int)(b c d e:Bool)(f:Int)(g:Rs)(i j:Int)(l m:By)(n:Int)
 |h3 (a:Bool)(b:Int)(c:Rs)(d e:Int)(f g:By)(i:Int)
 |h4 (a:Int)(b c d:Bool)(e:Int)(f:Rs)(g i:Int)(j l:By)(m:Int)
 |h5 (a b c:Int)(d:Rs)(e f:Int)(g i:By)(j:Int)
 |h6 (a:Int)(b c:Bool)(d:Int)(e:Rs)(f g:Int)(i j:By)(l:Int)
abbrev R28:=Bool
def qlC:R28→ARes
 |r=>.ret (.c (bc r))
def bx28:R28→List (List Cell)
 |_=>[]
noncomputable def qjV (k:Nat)(rec:S28→Option R28):S28→Option R28
 |.e a b c d e f g=>
  bif c==0 then
   bif a==6 then
    rec (.h0 0 (e.toList==(strB []).toList) (f.toList==(strB []).toList) (d==0) true a b c d e f g)
   else
    bif decide (a≥15)then
     rec (.h0 0 (e.toList==(strB []).toList) (f.toList==(strB []).toList) (d==0) (decide (a≤17)) a b c d e f g)
    else
     rec (.h0 0 (e.toList==(strB []).toList) (f.toList==(strB []).toList) (d==0) false a b c d e f g)
  else
   bif a==6 then
    rec (.h0 0 (e.toList==(strB []).toList) (f.toList==(strB []).toList) false true a b c d e f g)
   else
    bif decide (a≥15)then
     rec (.h0 0 (e.toList==(strB []).toList) (f.toList==(strB []).toList) false (decide (a≤17)) a b c d e f g)
    else
     rec (.h0 0 (e.toList==(strB []).toList) (f.toList==(strB []).toList) false false a b c d e f g)
 |.h0 a b c d e f g i j l m n=>
  bif e then
   rec (.h1 1 b c d f g i j l m n)
  else
   bif decide (f≥1)then
    rec (.h2 a b c d (decide (f≤14)) f g i j l m n)
   else
    rec (.h2 a b c d false f g i j l m n)
 |.h1 a b c d e f g i j l m=>
  bif !b then
   rec (.h3 true e f g i j l m)
  else
   bif !c then
    rec (.h3 true e f g i j l m)
   else
    bif !d then
     rec (.h3 true e f g i j l m)
    else
     rec (.h3 ((f.length:Int)!=a) e f g i j l m)
 |.h2 a b c d e f g i j l m n=>
  bif e then
   rec (.h1 2 b c d f g i j l m n)
  else
   bif f==20 then
    bif decide (i≥0)then
     rec (.h1 a b c (j==0) f g i j l m n)
    else
     rec (.h1 a b c false f g i j l m n)
   else
    bif f==21 then
     bif decide (i≥0)then
      bif decide (j≥1)then
       bif decide (j≤14)then
        (g57 k i j).bind fun o=>
        rec (.h1 a b c (decide ((o.size:Int)≤16)) f g i j l m n)
       else
        rec (.h1 a b c false f g i j l m n)
      else
       rec (.h1 a b c false f g i j l m n)
     else
      rec (.h1 a b c false f g i j l m n)
    else
     bif f==22 then
      bif i==0 then
       rec (.h1 a b c (j==0) f g i j l m n)
      else
       bif i==1 then
        rec (.h1 a b c (j==0) f g i j l m n)
       else
        rec (.h1 a b c false f g i j l m n)
     else
      bif f==23 then
       rec (.h4 a c d true f g i j l m n)
      else
       rec (.h4 a c d (f==25) f g i j l m n)
 |.h3 a b c d e f g i=>
  bif a then
   some false
  else
   rec (.h5 (c.length:Int) 0 b c d e f g i)
 |.h4 a b c d e f g i j l m=>
  bif d then
   (g40 k j).bind fun n=>
   rec (.h1 a n b c e f g i j l m)
  else
   bif e==24 then
    rec (.h6 a c true e f g i j l m)
   else
    bif decide (e≥26)then
     rec (.h6 a c (decide (e≤31)) e f g i j l m)
    else
     rec (.h6 a c false e f g i j l m)
 |.h5 a b c d e f g i j=>
  bif decide (b<a)then
   ixR d b fun l=>
   qE l fun m n o p q t u=>
   (rec (.e m n o p q t u)).bind fun v=>
   bif !v then
    some false
   else
    rec (.h5 a (IntKind.i64.wrap (b+1)) c d e f g i j)
  else
   some true
 |.h6 a b c d e f g i j l=>
  bif c then
   (g40 k i).bind fun m=>
   (g40 k j).bind fun n=>
   bif n then
    rec (.h1 a m true b d e f g i j l)
   else
    rec (.h1 a m (j.toList==(strB [84,73,77,69]).toList) b d e f g i j l)
  else
   some false
noncomputable def g28 (k:Nat)(a:Int)(b:Rs)(c d:Int)(e f:By)(g:Int):Option R28:=itS qjV k (.e a b c d e f g)
noncomputable def P28:S28→R28→Prop
 |.e a b c d e f g,r=>Fin cx28 Tryz.f28 [.code qlL] (fr0 Tryz.f28 [.ag [ic a,.imm b,ic c,ic d,sc e,sc f,ic g]] []) (qlC r) (bx28 r)
 |.h0 a b c d e f g i j l m n,r=>Fin cx28 Tryz.f28 (kAt qlL [1,1,1,1,0,0,1,2] []) ⟨[.deadv,pL 1,.deadv,.c (ic a),.c (bc b),.c (bc c),.c (bc d)]++rep 15 .deadv++[.c (bc e)]++rep 145 .deadv,[(.loc 1,[ic f,.imm g,ic i,ic j,sc l,sc m,ic n])]⟩ (qlC r) (bx28 r)
 |.h1 a b c d e f g i j l m,r=>Fin cx28 Tryz.f28 (kAt qlL [1,1,1,1,1,2] []) ⟨[.deadv,pL 1,.deadv,.c (ic a),.c (bc b),.c (bc c),.c (bc d)]++rep 161 .deadv,[(.loc 1,[ic e,.imm f,ic g,ic i,sc j,sc l,ic m])]⟩ (qlC r) (bx28 r)
 |.h2 a b c d e f g i j l m n,r=>Fin cx28 Tryz.f28 (kAt qlL [1,1,1,1,0,0,1,1,1,2] []) ⟨[.deadv,pL 1,.deadv,.c (ic a),.c (bc b),.c (bc c),.c (bc d)]++rep 29 .deadv++[.c (bc e)]++rep 131 .deadv,[(.loc 1,[ic f,.imm g,ic i,ic j,sc l,sc m,ic n])]⟩ (qlC r) (bx28 r)
 |.h3 a b c d e f g i,r=>Fin cx28 Tryz.f28 (kAt qlL [1,1,1,1,1,0,1,2] []) ⟨[.deadv,pL 1]++rep 151 .deadv++[.c (bc a)]++rep 14 .deadv,[(.loc 1,[ic b,.imm c,ic d,ic e,sc f,sc g,ic i])]⟩ (qlC r) (bx28 r)
 |.h4 a b c d e f g i j l m,r=>Fin cx28 Tryz.f28 (kAt qlL [1,1,1,1,0,0,1,1,1,1,1,1,1,1,1,1,1,2] []) ⟨[.deadv,pL 1,.deadv,.c (ic a),.deadv,.c (bc b),.c (bc c)]++rep 93 .deadv++[.c (bc d)]++rep 67 .deadv,[(.loc 1,[ic e,.imm f,ic g,ic i,sc j,sc l,ic m])]⟩ (qlC r) (bx28 r)
 |.h5 a b c d e f g i j,r=>Fin cx28 Tryz.f28 (kAt qlL [1,1,1,1,1,1,0,1,0,4] []) ⟨[.deadv,pL 1]++rep 154 .deadv++[.c (ic a),.c (ic b)]++rep 10 .deadv,[(.loc 1,[ic c,.imm d,ic e,ic f,sc g,sc i,ic j])]⟩ (qlC r) (bx28 r)
 |.h6 a b c d e f g i j l,r=>Fin cx28 Tryz.f28 (kAt qlL [1,1,1,1,0,0,1,1,1,1,1,1,1,1,1,1,1,1,1,2] []) ⟨[.deadv,pL 1,.deadv,.c (ic a),.deadv,.deadv,.c (bc b)]++rep 105 .deadv++[.c (bc c)]++rep 55 .deadv,[(.loc 1,[ic d,.imm e,ic f,ic g,sc i,sc j,ic l])]⟩ (qlC r) (bx28 r)
abbrev E28 (a:Int)(b:Rs)(c d:Int)(e f:By)(g:Int)(r:R28):Prop:=Ev Tryz.prog noHand 28 [.ag [ic a,.imm b,ic c,ic d,sc e,sc f,ic g]] [] (qlC r) (bx28 r)
theorem qn4 {a:Int}{b:Rs}{c d:Int}{e f:By}{g:Int}{r:R28}(h:P28 (.e a b c d e f g) r):E28 a b c d e f g r:=evF h
theorem ok28:∀ k s r,itS qjV k s=some r→P28 s r:=qF fun k rec ih s r h=>match s,h with
 |.e ..,h=>by
  rcases qa h with⟨a,h⟩|⟨a,h⟩
  ·
   rcases qa h with⟨b,h⟩|⟨b,h⟩
   · exact mA 0 (ih _ _ h) 12 [tT 16 a,tT 25 b] 168 374144419156711147060143317175368453031918726807429
   · rcases qa h with⟨c,h⟩|⟨c,h⟩
     · exact mA 0 (ih _ _ h) 12 [tT 16 a,tF 25 b,tT 29 c] 168 374144419156711147060143317175368453031918726807429
     · exact mA 0 (ih _ _ h) 12 [tT 16 a,tF 25 b,tF 29 c] 168 374144419156711147060143317175368453031918726807429
  ·
   rcases qa h with⟨b,h⟩|⟨b,h⟩
   · exact mA 0 (ih _ _ h) 12 [tF 16 a,tT 25 b] 168 374144419156711147060143317175368453031918726807429
   · rcases qa h with⟨c,h⟩|⟨c,h⟩
     · exact mA 0 (ih _ _ h) 12 [tF 16 a,tF 25 b,tT 29 c] 168 374144419156711147060143317175368453031918726807429
     · exact mA 0 (ih _ _ h) 12 [tF 16 a,tF 25 b,tF 29 c] 168 374144419156711147060143317175368453031918726807429
 |.h0 ..,h=>by
  replace h:=qa h;rcases h with⟨rfl,h⟩|⟨rfl,h⟩
  · exact mA 0 (ih _ _ h) 3 [] 168 374144419156711147060143317175368453031918731001733
  · rcases qa h with⟨a,h⟩|⟨a,h⟩
    · exact mA 0 (ih _ _ h) 3 [tT 39 a] 168 374144419156711147060143317175368453031850011524997
    · exact mA 0 (ih _ _ h) 3 [tF 39 a] 168 374144419156711147060143317175368453031850011524997
 |.h1 ..,h=>by
  rcases qa h with⟨a,h⟩|⟨a,h⟩
  · exact mA 0 (ih _ _ h) 3 [tT 138 a] 168 374133001175169499381094850887612857070827669028861
  ·
   rcases qa h with⟨b,h⟩|⟨b,h⟩
   · exact mA 0 (ih _ _ h) 3 [tF 138 a,tT 141 b] 168 374133001175169499381094850887612857070827669028861
   · rcases qa h with⟨c,h⟩|⟨c,h⟩
     · exact mA 0 (ih _ _ h) 3 [tF 138 a,tF 141 b,tT 145 c] 168 374133001175169499381094850887612857070827669028861
     · exact mA 0 (ih _ _ h) 3 [tF 138 a,tF 141 b,tF 145 c] 168 374133001175169499381094850887612857070827669028861
 |.h2 ..,h=>by
  replace h:=qa h;rcases h with⟨rfl,h⟩|⟨rfl,h⟩
  · exact mA 0 (ih _ _ h) 3 [] 168 374144419156711147060143317175368453031918731001733
  ·
   rcases qa h with⟨a,h⟩|⟨a,h⟩
   · rcases qa h with⟨b,h⟩|⟨b,h⟩
     · exact mA 0 (ih _ _ h) 6 [tT 48 a,tT 51 b] 168 374144419156711147060143317175368453031918731001733
     · exact mA 0 (ih _ _ h) 6 [tT 48 a,tF 51 b] 168 374144419156711147060143317175368453031918731001733
   ·
    rcases qa h with⟨b,h⟩|⟨b,h⟩
    ·
     rcases qa h with⟨c,h⟩|⟨c,h⟩
     · rcases qa h with⟨d,h⟩|⟨d,h⟩
       · rcases qa h with⟨e,h⟩|⟨e,h⟩
         · obtain⟨_,f,h⟩:=qh h;exact mA 0 (ih _ _ h) 9 [tF 48 a,tT 60 b,tT 63 c,tT 67 d,tT 72 e,cA 79 (ev57 f)] 168 374144419156711147060143317175368453031918731001733
         · exact mA 0 (ih _ _ h) 9 [tF 48 a,tT 60 b,tT 63 c,tT 67 d,tF 72 e] 168 374144419156711147060143317175368453031918731001733
       · exact mA 0 (ih _ _ h) 9 [tF 48 a,tT 60 b,tT 63 c,tF 67 d] 168 374144419156711147060143317175368453031918731001733
     · exact mA 0 (ih _ _ h) 9 [tF 48 a,tT 60 b,tF 63 c] 168 374144419156711147060143317175368453031918731001733
    ·
     rcases qa h with⟨c,h⟩|⟨c,h⟩
     · rcases qa h with⟨d,h⟩|⟨d,h⟩
       · exact mA 0 (ih _ _ h) 12 [tF 48 a,tF 60 b,tT 86 c,tT 89 d] 168 374144419156711147060143317175368453031918731001733
       · rcases qa h with⟨e,h⟩|⟨e,h⟩
         · exact mA 0 (ih _ _ h) 12 [tF 48 a,tF 60 b,tT 86 c,tF 89 d,tT 93 e] 168 374144419156711147060143317175368453031918731001733
         · exact mA 0 (ih _ _ h) 12 [tF 48 a,tF 60 b,tT 86 c,tF 89 d,tF 93 e] 168 374144419156711147060143317175368453031918731001733
     · rcases qa h with⟨d,h⟩|⟨d,h⟩
       · exact mA 0 (ih _ _ h) 12 [tF 48 a,tF 60 b,tF 86 c,tT 103 d] 168 374144419156711147058875666575140223630422027796373
       · exact mA 0 (ih _ _ h) 12 [tF 48 a,tF 60 b,tF 86 c,tF 103 d] 168 374144419156711147058875666575140223630422027796373
 |.h3 ..,h=>by
  replace h:=qa h;rcases h with⟨rfl,h⟩|⟨rfl,h⟩
  · cases h;exact mF 0 []
  · exact mA 0 (ih _ _ h) 7 [] 168 373870387599711602762980126269234149965733243650045
 |.h4 ..,h=>by
  replace h:=qa h;rcases h with⟨rfl,h⟩|⟨rfl,h⟩
  · obtain⟨_,a,h⟩:=qh h;exact mA 0 (ih _ _ h) 3 [cA 111 (ev40 a)] 168 374144419156711147060143317175368453031918731001733
  ·
   rcases qa h with⟨b,h⟩|⟨b,h⟩
   · exact mA 0 (ih _ _ h) 3 [tT 115 b] 168 374144419156711141867846458640540824501422401781685
   · rcases qa h with⟨a,h⟩|⟨a,h⟩
     · exact mA 0 (ih _ _ h) 3 [tF 115 b,tT 119 a] 168 374144419156711141867846458640540824501422401781685
     · exact mA 0 (ih _ _ h) 3 [tF 115 b,tF 119 a] 168 374144419156711141867846458640540824501422401781685
 |.h5 ..,h=>by
  rcases qa h with⟨a,h⟩|⟨a,h⟩
  · obtain⟨_,b,h⟩:=YJ h;replace h:=zB h;obtain⟨_,_,_,_,_,_,_,rfl,h⟩:=h;obtain⟨_,c,h⟩:=qh h;rcases qa h with⟨d,h⟩|⟨d,h⟩
    · cases h;exact mF 0 [tT 158 a,rA 163 b,cA 165 (qn4 (ih _ _ c)),tT 166 d]
    · exact mA 0 (ih _ _ h) 16 [tT 158 a,rA 163 b,cA 165 (qn4 (ih _ _ c)),tF 166 d] 168 373870387599711602762980126269234149965733243650045
  · cases h;exact mF 0 [tF 158 a]
 |.h6 ..,h=>by
  replace h:=qa h;rcases h with⟨rfl,h⟩|⟨rfl,h⟩
  · obtain⟨_,a,h⟩:=qh h;obtain⟨_,b,h⟩:=qh h;replace h:=qa h;rcases h with⟨rfl,h⟩|⟨rfl,h⟩
    · exact mA 0 (ih _ _ h) 3 [cA 128 (ev40 a),cA 131 (ev40 b)] 168 374144419156711147060143317175368453031918731001733
    · exact mA 0 (ih _ _ h) 3 [cA 128 (ev40 a),cA 131 (ev40 b)] 168 374144419156711147060143317175368453031918731001733
  · cases h;exact mF 0 []
theorem ev28 {k:Nat}{a:Int}{b:Rs}{c d:Int}{e f:By}{g:Int}{r:R28}(h:g28 k a b c d e f g=some r):E28 a b c d e f g r:=qn4 (ok28 _ _ _ h)
inductive S58 where
 |e (a:Int)
 |h0 (a:Int)(b:Bool)
 |h1 (a:Int)(b:Bool)
 |h2 (a:Int)(b:Bool)
abbrev R58:=Int
def qxT:R58→ARes
 |r=>.ret (.c (ic r))
def bx58:R58→List (List Cell)
 |_=>[]
noncomputable def qyg (k:Nat)(rec:S58→Option R58):S58→Option R58
 |.e a=>
  bif a==14 then
   some 1
  else
   bif a==13 then
    some 2
   else
    bif a==15 then
     some 3
    else
     bif decide (a≥7)then
      rec (.h0 a (decide (a≤12)))
     else
      rec (.h0 a false)
 |.h0 a b=>
  bif b then
   some 4
  else
   bif a==1 then
    rec (.h1 a true)
   else
    rec (.h1 a (a==2))
 |.h1 a b=>
  bif b then
   some 5
  else
   bif decide (a≥3)then
    rec (.h2 a (decide (a≤5)))
   else
    rec (.h2 a false)
 |.h2 a b=>
  bif b then
   some 6
  else
   bif a==6 then
    some 7
   else
    some 8
noncomputable def g58 (k:Nat)(a:Int):Option R58:=itS qyg k (.e a)
noncomputable def P58:S58→R58→Prop
 |.e a,r=>Fin cx58 Tryz.f58 [.code qxy] (fr0 Tryz.f58 [.c (ic a)] []) (qxT r) (bx58 r)
 |.h0 a b,r=>Fin cx58 Tryz.f58 (kAt qxy [1,0,0,1,1,1,1,1,1,1,2] []) ⟨[.c (ic a)]++rep 11 .deadv++[.c (bc b)]++rep 23 .deadv,[]⟩ (qxT r) (bx58 r)
 |.h1 a b,r=>Fin cx58 Tryz.f58 (kAt qxy [1,0,0,1,1,1,1,1,1,1,1,1,2] []) ⟨[.c (ic a)]++rep 18 .deadv++[.c (bc b)]++rep 16 .deadv,[]⟩ (qxT r) (bx58 r)
 |.h2 a b,r=>Fin cx58 Tryz.f58 (kAt qxy [1,0,0,1,1,1,1,1,1,1,1,1,1,1,2] []) ⟨[.c (ic a)]++rep 25 .deadv++[.c (bc b)]++rep 9 .deadv,[]⟩ (qxT r) (bx58 r)
abbrev E58 (a:Int)(r:R58):Prop:=Ev Tryz.prog noHand 58 [.c (ic a)] [] (qxT r) (bx58 r)
theorem qyx {a:Int}{r:R58}(h:P58 (.e a) r):E58 a r:=evF h
theorem ok58:∀ k s r,itS qyg k s=some r→P58 s r:=qF fun k rec ih s r h=>match s,h with
 |.e ..,h=>by
  rcases qa h with⟨a,h⟩|⟨a,h⟩
  · cases h;exact mF 0 [tT 5 a]
  ·
   rcases qa h with⟨b,h⟩|⟨b,h⟩
   · cases h;exact mF 0 [tF 5 a,tT 8 b]
   ·
    rcases qa h with⟨c,h⟩|⟨c,h⟩
    · cases h;exact mF 0 [tF 5 a,tF 8 b,tT 11 c]
    · rcases qa h with⟨d,h⟩|⟨d,h⟩
      · exact mA 0 (ih _ _ h) 15 [tF 5 a,tF 8 b,tF 11 c,tT 14 d] 36 68719472638
      · exact mA 0 (ih _ _ h) 15 [tF 5 a,tF 8 b,tF 11 c,tF 14 d] 36 68719472638
 |.h0 ..,h=>by
  replace h:=qa h;rcases h with⟨rfl,h⟩|⟨rfl,h⟩
  · cases h;exact mF 0 []
  · rcases qa h with⟨a,h⟩|⟨a,h⟩
    · exact mA 0 (ih _ _ h) 3 [tT 21 a] 36 68718952446
    · exact mA 0 (ih _ _ h) 3 [tF 21 a] 36 68718952446
 |.h1 ..,h=>by
  replace h:=qa h;rcases h with⟨rfl,h⟩|⟨rfl,h⟩
  · cases h;exact mF 0 []
  · rcases qa h with⟨a,h⟩|⟨a,h⟩
    · exact mA 0 (ih _ _ h) 3 [tT 28 a] 36 68652367870
    · exact mA 0 (ih _ _ h) 3 [tF 28 a] 36 68652367870
 |.h2 ..,h=>by
  replace h:=qa h;rcases h with⟨rfl,h⟩|⟨rfl,h⟩
  · cases h;exact mF 0 []
  · rcases qa h with⟨a,h⟩|⟨a,h⟩
    · cases h;exact mF 0 [tT 35 a]
    · cases h;exact mF 0 [tF 35 a]
theorem ev58 {k:Nat}{a:Int}{r:R58}(h:g58 k a=some r):E58 a r:=qyx (ok58 _ _ _ h)
inductive S59 where
 |e (a:Int)(b:Rs)(c d:Int)(e f:By)(g:Int)
abbrev R59:=By
def qmp:R59→ARes
 |r=>.ret (.c (sc r))
def bx59:R59→List (List Cell)
 |_=>[]
noncomputable def qxb (k:Nat)(rec:S59→Option R59):S59→Option R59
 |.e a _ b c d e ..=>
  bif a==20 then
   (g74 k b).bind fun f=>
   some f
  else
   bif a==21 then
    (g57 k b c).bind fun g=>
    some g
   else
    bif a==22 then
     bif b==1 then
      some (strB [84,82,85,69])
     else
      some (strB [70,65,76,83,69])
    else
     bif a==23 then
      gd (decide ((strB [39]).size+d.size≤1000000000)) <|
      gd (decide (((strB [39])++d).size+(strB [39]).size≤1000000000)) <|
      some (((strB [39])++d)++(strB [39]))
     else
      bif a==24 then
       gd (decide (d.size+(strB [46]).size≤1000000000)) <|
       gd (decide ((d++(strB [46])).size+e.size≤1000000000)) <|
       some ((d++(strB [46]))++e)
      else
       bif a==25 then
        gd (decide ((strB [67,79,85,78,84,40]).size+d.size≤1000000000)) <|
        gd (decide (((strB [67,79,85,78,84,40])++d).size+(strB [41]).size≤1000000000)) <|
        some (((strB [67,79,85,78,84,40])++d)++(strB [41]))
       else
        (g75 k).bind fun i=>
        ixR i (IntKind.i64.wrap (a-25)) fun j=>
        un_s j fun l=>
        gd (decide (l.size+(strB [40]).size≤1000000000)) <|
        gd (decide ((l++(strB [40])).size+d.size≤1000000000)) <|
        gd (decide (((l++(strB [40]))++d).size+(strB [46]).size≤1000000000)) <|
        gd (decide ((((l++(strB [40]))++d)++(strB [46])).size+e.size≤1000000000)) <|
        gd (decide (((((l++(strB [40]))++d)++(strB [46]))++e).size+(strB [41]).size≤1000000000)) <|
        some (((((l++(strB [40]))++d)++(strB [46]))++e)++(strB [41]))
noncomputable def g59 (k:Nat)(a:Int)(b:Rs)(c d:Int)(e f:By)(g:Int):Option R59:=itS qxb k (.e a b c d e f g)
noncomputable def P59:S59→R59→Prop
 |.e a b c d e f g,r=>Fin cx59 Tryz.f59 [.code qgO] (fr0 Tryz.f59 [.ag [ic a,.imm b,ic c,ic d,sc e,sc f,ic g]] []) (qmp r) (bx59 r)
abbrev E59 (a:Int)(b:Rs)(c d:Int)(e f:By)(g:Int)(r:R59):Prop:=Ev Tryz.prog noHand 59 [.ag [ic a,.imm b,ic c,ic d,sc e,sc f,ic g]] [] (qmp r) (bx59 r)
theorem qgv {a:Int}{b:Rs}{c d:Int}{e f:By}{g:Int}{r:R59}(h:P59 (.e a b c d e f g) r):E59 a b c d e f g r:=evF h
theorem ok59:∀ k s r,itS qxb k s=some r→P59 s r:=qF fun k rec ih s r h=>match s,h with
 |.e ..,h=>by
  rcases qa h with⟨a,h⟩|⟨a,h⟩
  · obtain⟨_,b,h⟩:=qh h;cases h;exact mF 0 [tT 6 a,cA 9 (ev74 b)]
  ·
   rcases qa h with⟨c,h⟩|⟨c,h⟩
   · obtain⟨_,d,h⟩:=qh h;cases h;exact mF 0 [tF 6 a,tT 11 c,cA 16 (ev57 d)]
   ·
    rcases qa h with⟨b,h⟩|⟨b,h⟩
    · rcases qa h with⟨d,h⟩|⟨d,h⟩
      · cases h;exact mF 0 [tF 6 a,tF 11 c,tT 18 b,tT 21 d]
      · cases h;exact mF 0 [tF 6 a,tF 11 c,tT 18 b,tF 21 d]
    ·
     rcases qa h with⟨d,h⟩|⟨d,h⟩
     · obtain⟨e,h⟩:=zo h;obtain⟨f,h⟩:=zo h;cases h;exact mF 0 [tF 6 a,tF 11 c,tF 18 b,tT 23 d,xC 26 e,xC 27 f]
     · rcases qa h with⟨e,h⟩|⟨e,h⟩
       · obtain⟨f,h⟩:=zo h;obtain⟨g,h⟩:=zo h;cases h;exact mF 0 [tF 6 a,tF 11 c,tF 18 b,tF 23 d,tT 29 e,xC 32 f,xC 35 g]
       · rcases qa h with⟨f,h⟩|⟨f,h⟩
         · obtain⟨g,h⟩:=zo h;obtain⟨i,h⟩:=zo h;cases h;exact mF 0 [tF 6 a,tF 11 c,tF 18 b,tF 23 d,tF 29 e,tT 37 f,xC 40 g,xC 41 i]
         · obtain⟨_,i,h⟩:=qh h;obtain⟨_,j,h⟩:=YJ h;replace h:=qkP h;obtain⟨l,rfl,h⟩:=h;obtain⟨m,h⟩:=zo h;obtain⟨n,h⟩:=zo h;obtain⟨o,h⟩:=zo h;obtain⟨p,h⟩:=zo h;obtain⟨q,h⟩:=zo h;cases h;exact mF 0 [tF 6 a,tF 11 c,tF 18 b,tF 23 d,tF 29 e,tF 37 f,cA 42 (ev75 i),⟨(some 46,.bnd),[_],⟨qot j,trivial⟩⟩,⟨(some 47,.ld [sc l]),[_],⟨j.2,trivial⟩⟩,xC 48 m,xC 51 n,xC 52 o,xC 55 p,xC 56 q]
theorem ev59 {k:Nat}{a:Int}{b:Rs}{c d:Int}{e f:By}{g:Int}{r:R59}(h:g59 k a b c d e f g=some r):E59 a b c d e f g r:=qgv (ok59 _ _ _ h)
inductive S29 where
 |e (a:Int)(b:Rs)(c d:Int)(e f:By)(g:Int)
 |h0 (a:Int)(b:Rs)(c d e f:Int)(g:Rs)(i j:Int)(l m:By)(n:Int)
 |h1 (a:Int)(b:Rs)(c d:Int)(e:By)(f g i j l:Int)(m:Rs)(n o:Int)(p q:By)(t:Int)
 |h2 (a:Int)(b:Rs)(c d:Int)(e:By)(f g i j:Int)(l:Bool)(m:Int)(n:Rs)(o p:Int)(q t:By)(u:Int)
 |h3 (a:Int)(b:Rs)(c d:Int)(e:By)(f g i j l:Int)(m:Rs)(n o:Int)(p q:By)(t:Int)
 |h4 (a:Int)(b:Rs)(c:Int)(d:By)(e f g i:Int)(j:Rs)(l m:Int)(n o:By)(p:Int)
abbrev R29:=By×Int
def qlZ:R29→ARes
 |(a,b)=>.ret ⟨.tup [false,false],[[sc a],[ic b]]⟩
def bx29:R29→List (List Cell)
 |(_,_)=>[]
noncomputable def qfO (k:Nat)(rec:S29→Option R29):S29→Option R29
 |.e a b c d e f g=>
  (g58 k a).bind fun i=>
  rec (.h0 i [] 0 (b.length:Int) 0 a b c d e f g)
 |.h0 a b c d e f g i j l m n=>
  bif decide (e<d)then
   ixR g e fun o=>
   qE o fun p q t u v w x=>
   (rec (.e p q t u v w x)).bind fun y=>
   tup2 y fun z a1=>
   bif a==8 then
    rec (.h1 a b c e z a1 1 d e f g i j l m n)
   else
    rec (.h1 a b c e z a1 a d e f g i j l m n)
  else
   bif (b.length:Int)==2 then
    (g48 k a).bind fun b1=>
    tup2 b1 fun c1 d1=>
    ixR b 0 fun e1=>
    un_s e1 fun f1=>
    gd (decide (f1.size+(strB [32]).size≤1000000000)) <|
    ixR c1 (IntKind.i64.wrap (f-d1)) fun g1=>
    un_s g1 fun i1=>
    gd (decide ((f1++(strB [32])).size+i1.size≤1000000000)) <|
    gd (decide (((f1++(strB [32]))++i1).size+(strB [32]).size≤1000000000)) <|
    ixR b 1 fun j1=>
    un_s j1 fun l1=>
    gd (decide ((((f1++(strB [32]))++i1)++(strB [32])).size+l1.size≤1000000000)) <|
    some (((((f1++(strB [32]))++i1)++(strB [32]))++l1),c)
   else
    bif f==6 then
     ixR b 0 fun m1=>
     un_s m1 fun n1=>
     gd (decide ((strB [45]).size+n1.size≤1000000000)) <|
     some (((strB [45])++n1),IntKind.i64.wrap (c+1))
    else
     bif f==15 then
      ixR b 0 fun o1=>
      un_s o1 fun p1=>
      gd (decide ((strB [78,79,84,32]).size+p1.size≤1000000000)) <|
      some (((strB [78,79,84,32])++p1),IntKind.i64.wrap (c+1))
     else
      bif f==16 then
       ixR b 0 fun e1=>
       un_s e1 fun f1=>
       gd (decide ((strB [82,69,65,76,40]).size+f1.size≤1000000000)) <|
       gd (decide (((strB [82,69,65,76,40])++f1).size+(strB [41]).size≤1000000000)) <|
       some ((((strB [82,69,65,76,40])++f1)++(strB [41])),IntKind.i64.wrap (c+1))
      else
       bif f==17 then
        ixR b 0 fun q1=>
        un_s q1 fun t1=>
        gd (decide ((strB [73,83,78,65,78,40]).size+t1.size≤1000000000)) <|
        gd (decide (((strB [73,83,78,65,78,40])++t1).size+(strB [41]).size≤1000000000)) <|
        some ((((strB [73,83,78,65,78,40])++t1)++(strB [41])),IntKind.i64.wrap (c+1))
       else
        (g59 k f g i j l m n).bind fun u1=>
        some (u1,0)
 |.h1 a b c d e f g i j l m n o p q t=>
  bif a==4 then
   rec (.h2 a b c d e f g i j true l m n o p q t)
  else
   rec (.h2 a b c d e f g i j (d==1) l m n o p q t)
 |.h2 a b c d e f g i j l m n o p q t u=>
  bif l then
   rec (.h3 a b c d e f (IntKind.i64.wrap (a+1)) i j m n o p q t u)
  else
   rec (.h3 a b c d e f g i j m n o p q t u)
 |.h3 a b c d e f g i j l m n o p q t=>
  ixR m d fun u=>
  qE u fun v _ _ _ _ _ _=>
  (g58 k v).bind fun w=>
  bif decide (w<g)then
   gd (decide ((strB [40]).size+e.size≤1000000000)) <|
   gd (decide (((strB [40])++e).size+(strB [41]).size≤1000000000)) <|
   rec (.h4 a b c (((strB [40])++e)++(strB [41])) (IntKind.i64.wrap (f+1)) i j l m n o p q t)
  else
   rec (.h4 a b c e f i j l m n o p q t)
 |.h4 a b c d e f g i j l m n o p=>
  gd (apOk 16 1 b [[sc d]]) <|
  rec (.h0 a (b++[[sc d]]) (if (e:Int)>c then e else c) f (IntKind.i64.wrap (g+1)) i j l m n o p)
noncomputable def g29 (k:Nat)(a:Int)(b:Rs)(c d:Int)(e f:By)(g:Int):Option R29:=itS qfO k (.e a b c d e f g)
noncomputable def P29:S29→R29→Prop
 |.e a b c d e f g,r=>Fin cx29 Tryz.f29 [.code qme] (fr0 Tryz.f29 [.ag [ic a,.imm b,ic c,ic d,sc e,sc f,ic g]] []) (qlZ r) (bx29 r)
 |.h0 a b c d e f g i j l m n,r=>Fin cx29 Tryz.f29 (kAt qme [1,1,1,1,0,1,0,4] []) ⟨[.deadv,pL 1,.deadv,.deadv,.c (ic a),.c (.own 1 b),.c (ic c)]++rep 11 .deadv++[.c (ic d),.c (ic e)]++rep 115 .deadv,[(.loc 1,[ic f,.imm g,ic i,ic j,sc l,sc m,ic n])]⟩ (qlZ r) (bx29 r)
 |.h1 a b c d e f g i j l m n o p q t,r=>Fin cx29 Tryz.f29 (kAt qme [1,1,1,1,0,1,0,0,1,1,0,0,1,1,1,1,2] []) ⟨[.deadv,pL 1,.deadv,.deadv,.c (ic a),.c (.own 1 b),.c (ic c),.c (ic d),.c (sc e),.c (ic f),.c (ic g)]++rep 7 .deadv++[.c (ic i),.c (ic j)]++rep 115 .deadv,[(.loc 1,[ic l,.imm m,ic n,ic o,sc p,sc q,ic t])]⟩ (qlZ r) (bx29 r)
 |.h2 a b c d e f g i j l m n o p q t u,r=>Fin cx29 Tryz.f29 (kAt qme [1,1,1,1,0,1,0,0,1,1,0,0,1,1,1,1,0,1,2] []) ⟨[.deadv,pL 1,.deadv,.deadv,.c (ic a),.c (.own 1 b),.c (ic c),.c (ic d),.c (sc e),.c (ic f),.c (ic g)]++rep 7 .deadv++[.c (ic i),.c (ic j)]++rep 19 .deadv++[.c (bc l)]++rep 95 .deadv,[(.loc 1,[ic m,.imm n,ic o,ic p,sc q,sc t,ic u])]⟩ (qlZ r) (bx29 r)
 |.h3 a b c d e f g i j l m n o p q t,r=>Fin cx29 Tryz.f29 (kAt qme [1,1,1,1,0,1,0,0,1,1,0,0,1,1,1,1,1,2] []) ⟨[.deadv,pL 1,.deadv,.deadv,.c (ic a),.c (.own 1 b),.c (ic c),.c (ic d),.c (sc e),.c (ic f),.c (ic g)]++rep 7 .deadv++[.c (ic i),.c (ic j)]++rep 115 .deadv,[(.loc 1,[ic l,.imm m,ic n,ic o,sc p,sc q,ic t])]⟩ (qlZ r) (bx29 r)
 |.h4 a b c d e f g i j l m n o p,r=>Fin cx29 Tryz.f29 (kAt qme [1,1,1,1,0,1,0,0,1,1,0,0,1,1,1,1,1,1,2] []) ⟨[.deadv,pL 1,.deadv,.deadv,.c (ic a),.c (.own 1 b),.c (ic c),.deadv,.c (sc d),.c (ic e)]++rep 8 .deadv++[.c (ic f),.c (ic g)]++rep 115 .deadv,[(.loc 1,[ic i,.imm j,ic l,ic m,sc n,sc o,ic p])]⟩ (qlZ r) (bx29 r)
abbrev E29 (a:Int)(b:Rs)(c d:Int)(e f:By)(g:Int)(r:R29):Prop:=Ev Tryz.prog noHand 29 [.ag [ic a,.imm b,ic c,ic d,sc e,sc f,ic g]] [] (qlZ r) (bx29 r)
theorem qng {a:Int}{b:Rs}{c d:Int}{e f:By}{g:Int}{r:R29}(h:P29 (.e a b c d e f g) r):E29 a b c d e f g r:=evF h
theorem ok29:∀ k s r,itS qfO k s=some r→P29 s r:=qF fun k rec ih s r h=>match s,h with
 |.e ..,h=>by obtain⟨_,a,h⟩:=qh h;exact mG 0 (ih _ _ h) 13 [cA 15 (ev58 a)] 135 43556142965880123323311949751266330279821 [] [(⟨⟨.slot 5,[]⟩,0,0⟩,some 1)]
 |.h0 ..,h=>by
  rcases qa h with⟨a,h⟩|⟨a,h⟩
  · obtain⟨_,b,h⟩:=YJ h;replace h:=zB h;obtain⟨_,_,_,_,_,_,_,rfl,h⟩:=h;obtain⟨_,c,h⟩:=b2 h;rcases qa h with⟨d,h⟩|⟨d,h⟩
    · exact mA 0 (ih _ _ h) 19 [tT 20 a,rA 26 b,cA 28 (qng (ih _ _ c)),tT 33 d] 135 43556142965880123323311949751266330277901
    · exact mA 0 (ih _ _ h) 19 [tT 20 a,rA 26 b,cA 28 (qng (ih _ _ c)),tF 33 d] 135 43556142965880123323311949751266330277901
  ·
   rcases qa h with⟨e,h⟩|⟨e,h⟩
   · obtain⟨_,f,h⟩:=b2 h;obtain⟨_,g,h⟩:=YJ h;replace h:=qkP h;obtain⟨i,rfl,h⟩:=h;obtain⟨j,h⟩:=zo h;obtain⟨_,l,h⟩:=YJ h;replace h:=qkP h;obtain⟨m,rfl,h⟩:=h;obtain⟨n,h⟩:=zo h;obtain⟨o,h⟩:=zo h;obtain⟨_,p,h⟩:=YJ h;replace h:=qkP h;obtain⟨q,rfl,h⟩:=h;obtain⟨t,h⟩:=zo h;cases h;exact mF 0 [tF 20 a,tT 67 e,cA 70 (ev48 f),⟨(some 74,.bnd),[_],⟨qot g,trivial⟩⟩,⟨(some 75,.ld [sc i]),[_],⟨g.2,trivial⟩⟩,xC 76 j,⟨(some 82,.bnd),[_],⟨qot l,trivial⟩⟩,⟨(some 83,.ld [sc m]),[_],⟨l.2,trivial⟩⟩,xC 84 n,xC 85 o,⟨(some 87,.bnd),[_],⟨qot p,trivial⟩⟩,⟨(some 88,.ld [sc q]),[_],⟨p.2,trivial⟩⟩,xC 89 t]
   ·
    rcases qa h with⟨b,h⟩|⟨b,h⟩
    · obtain⟨_,u,h⟩:=YJ h;replace h:=qkP h;obtain⟨v,rfl,h⟩:=h;obtain⟨g,h⟩:=zo h;cases h;exact mF 0 [tF 20 a,tF 67 e,tT 94 b,⟨(some 96,.bnd),[_],⟨qot u,trivial⟩⟩,⟨(some 97,.ld [sc v]),[_],⟨u.2,trivial⟩⟩,xC 98 g]
    ·
     rcases qa h with⟨f,h⟩|⟨f,h⟩
     · obtain⟨_,c,h⟩:=YJ h;replace h:=qkP h;obtain⟨w,rfl,h⟩:=h;obtain⟨d,h⟩:=zo h;cases h;exact mF 0 [tF 20 a,tF 67 e,tF 94 b,tT 104 f,⟨(some 106,.bnd),[_],⟨qot c,trivial⟩⟩,⟨(some 107,.ld [sc w]),[_],⟨c.2,trivial⟩⟩,xC 108 d]
     · rcases qa h with⟨u,h⟩|⟨u,h⟩
       · obtain⟨_,g,h⟩:=YJ h;replace h:=qkP h;obtain⟨i,rfl,h⟩:=h;obtain⟨j,h⟩:=zo h;obtain⟨x,h⟩:=zo h;cases h;exact mF 0 [tF 20 a,tF 67 e,tF 94 b,tF 104 f,tT 114 u,⟨(some 116,.bnd),[_],⟨qot g,trivial⟩⟩,⟨(some 117,.ld [sc i]),[_],⟨g.2,trivial⟩⟩,xC 118 j,xC 119 x]
       · rcases qa h with⟨c,h⟩|⟨c,h⟩
         · obtain⟨_,d,h⟩:=YJ h;replace h:=qkP h;obtain⟨y,rfl,h⟩:=h;obtain⟨x,h⟩:=zo h;obtain⟨l,h⟩:=zo h;cases h;exact mF 0 [tF 20 a,tF 67 e,tF 94 b,tF 104 f,tF 114 u,tT 125 c,⟨(some 127,.bnd),[_],⟨qot d,trivial⟩⟩,⟨(some 128,.ld [sc y]),[_],⟨d.2,trivial⟩⟩,xC 129 x,xC 130 l]
         · obtain⟨_,d,h⟩:=qh h;cases h;exact mF 0 [tF 20 a,tF 67 e,tF 94 b,tF 104 f,tF 114 u,tF 125 c,cA 134 (ev59 d)]
 |.h1 ..,h=>by
  rcases qa h with⟨a,h⟩|⟨a,h⟩
  · exact mA 0 (ih _ _ h) 3 [tT 35 a] 135 43556142965880123323311949750716574464013
  · exact mA 0 (ih _ _ h) 3 [tF 35 a] 135 43556142965880123323311949750716574464013
 |.h2 ..,h=>by
  replace h:=qa h;rcases h with⟨rfl,h⟩|⟨rfl,h⟩
  · exact mA 0 (ih _ _ h) 2 [] 135 43556142965880123323311949751266330277901
  · exact mA 0 (ih _ _ h) 2 [] 135 43556142965880123323311949751266330277901
 |.h3 ..,h=>by
  obtain⟨_,a,h⟩:=YJ h;replace h:=zB h;obtain⟨_,_,_,_,_,_,_,rfl,h⟩:=h;obtain⟨_,b,h⟩:=qh h;rcases qa h with⟨c,h⟩|⟨c,h⟩
  · obtain⟨d,h⟩:=zo h;obtain⟨e,h⟩:=zo h;exact mA 0 (ih _ _ h) 5 [rA 45 a,cA 48 (ev58 b),tT 50 c,xC 52 d,xC 53 e] 135 43556142965880123323311949751266330279053
  · exact mA 0 (ih _ _ h) 5 [rA 45 a,cA 48 (ev58 b),tF 50 c] 135 43556142965880123323311949751266330279053
 |.h4 _ _ _ a ..,h=>by obtain⟨b,h⟩:=zo h;exact mA 0 (ih _ _ h) 5 [⟨(some 59,.okE false),[_],⟨okF [[sc a]] b,trivial⟩⟩] 135 43556142965880123323311949751266330279821
theorem ev29 {k:Nat}{a:Int}{b:Rs}{c d:Int}{e f:By}{g:Int}{r:R29}(h:g29 k a b c d e f g=some r):E29 a b c d e f g r:=qng (ok29 _ _ _ h)
inductive S16 where
 |e (a:Int)(b:Rs)(c d:Int)(e f:By)(g:Int)
abbrev R16:=By×Int
def qhP:R16→ARes
 |(a,b)=>.ret ⟨.tup [false,false],[[sc a],[ic b]]⟩
def bx16:R16→List (List Cell)
 |(_,_)=>[]
noncomputable def ZT (k:Nat)(rec:S16→Option R16):S16→Option R16
 |.e a b c d e f g=>
  (g28 k a b c d e f g).bind fun i=>
  bif !i then
   some (strB [],3)
  else
   (g18 k a b c d e f g).bind fun j=>
   bif decide (j>200)then
    some (strB [],2)
   else
    (g29 k a b c d e f g).bind fun l=>
    tup2 l fun m n=>
    bif decide ((m.size:Int)>4000)then
     some (strB [],2)
    else
     bif decide (n>30)then
      some (strB [],14)
     else
      some (m,0)
noncomputable def g16 (k:Nat)(a:Int)(b:Rs)(c d:Int)(e f:By)(g:Int):Option R16:=itS ZT k (.e a b c d e f g)
noncomputable def P16:S16→R16→Prop
 |.e a b c d e f g,r=>Fin cx16 Tryz.f16 [.code QZ] (fr0 Tryz.f16 [.ag [ic a,.imm b,ic c,ic d,sc e,sc f,ic g]] []) (qhP r) (bx16 r)
abbrev E16 (a:Int)(b:Rs)(c d:Int)(e f:By)(g:Int)(r:R16):Prop:=Ev Tryz.prog noHand 16 [.ag [ic a,.imm b,ic c,ic d,sc e,sc f,ic g]] [] (qhP r) (bx16 r)
theorem qnx {a:Int}{b:Rs}{c d:Int}{e f:By}{g:Int}{r:R16}(h:P16 (.e a b c d e f g) r):E16 a b c d e f g r:=evF h
theorem ok16:∀ k s r,itS ZT k s=some r→P16 s r:=qF fun k rec ih s r h=>match s,h with
 |.e ..,h=>by
  obtain⟨_,a,h⟩:=qh h;rcases qa h with⟨b,h⟩|⟨b,h⟩
  · cases h;exact mF 0 [cA 7 (ev28 a),tT 8 b]
  ·
   obtain⟨_,c,h⟩:=qh h;rcases qa h with⟨d,h⟩|⟨d,h⟩
   · cases h;exact mF 0 [cA 7 (ev28 a),tF 8 b,cA 10 (ev18 c),tT 11 d]
   ·
    obtain⟨_,e,h⟩:=b2 h;rcases qa h with⟨f,h⟩|⟨f,h⟩
    · cases h;exact mF 0 [cA 7 (ev28 a),tF 8 b,cA 10 (ev18 c),tF 11 d,cA 14 (ev29 e),tT 19 f]
    · rcases qa h with⟨g,h⟩|⟨g,h⟩
      · cases h;exact mF 0 [cA 7 (ev28 a),tF 8 b,cA 10 (ev18 c),tF 11 d,cA 14 (ev29 e),tF 19 f,tT 21 g]
      · cases h;exact mF 0 [cA 7 (ev28 a),tF 8 b,cA 10 (ev18 c),tF 11 d,cA 14 (ev29 e),tF 19 f,tF 21 g]
theorem ev16 {k:Nat}{a:Int}{b:Rs}{c d:Int}{e f:By}{g:Int}{r:R16}(h:g16 k a b c d e f g=some r):E16 a b c d e f g r:=qnx (ok16 _ _ _ h)
inductive S5 where
 |e (a:Int)(b:Rs)(c d:Int)(e f:By)(g:Int)
 |h0 (a:By)(b:Int)(c:Bool)(d:Int)(e:Rs)(f g:Int)(i j:By)(l:Int)
abbrev R5:=Bool
def res5:R5→ARes
 |r=>.ret (.c (bc r))
def bx5:R5→List (List Cell)
 |_=>[]
noncomputable def Qq (k:Nat)(rec:S5→Option R5):S5→Option R5
 |.e a b c d e f g=>
  (g14 k a b c d e f g).bind fun i=>
  tup7 i fun j l m n o p q=>
  (g15 k j l m n o p q).bind fun t=>
  tup2 t fun u v=>
  (g16 k a b c d e f g).bind fun w=>
  tup2 w fun x y=>
  (g8 k).bind fun z=>
  bif !z then
   rec (.h0 u y true a b c d e f g)
  else
   bif !(u.toList==x.toList)then
    rec (.h0 u y true a b c d e f g)
   else
    bif v != y then
     rec (.h0 u y true a b c d e f g)
    else
     (g9 k j l m n o p q a b c d e f g true).bind fun a1=>
     rec (.h0 u y (!a1) a b c d e f g)
 |.h0 a b c d e f g i j l=>
  bif c then
   some false
  else
   bif b != 0 then
    some true
   else
    (g6 k a).bind fun m=>
    tup9 m fun n o p q t u v _ w=>
    bif w==0 then
     (g9 k n o p q t u v d e f g i j l false).bind fun x=>
     some x
    else
     some false
noncomputable def g5 (k:Nat)(a:Int)(b:Rs)(c d:Int)(e f:By)(g:Int):Option R5:=itS Qq k (.e a b c d e f g)
noncomputable def P5:S5→R5→Prop
 |.e a b c d e f g,r=>Fin cx5 Tryz.f5 [.code qiS] (fr0 Tryz.f5 [.ag [ic a,.imm b,ic c,ic d,sc e,sc f,ic g]] []) (res5 r) (bx5 r)
 |.h0 a b c d e f g i j l,r=>Fin cx5 Tryz.f5 (kAt qiS [1,1,1,1,0,1,2] []) ⟨[.deadv,pL 1,.deadv,.deadv,.c (sc a),.deadv,.deadv,.c (ic b)]++rep 32 .deadv++[.c (bc c)]++rep 15 .deadv,[(.loc 1,[ic d,.imm e,ic f,ic g,sc i,sc j,ic l])]⟩ (res5 r) (bx5 r)
abbrev E5 (a:Int)(b:Rs)(c d:Int)(e f:By)(g:Int)(r:R5):Prop:=Ev Tryz.prog noHand 5 [.ag [ic a,.imm b,ic c,ic d,sc e,sc f,ic g]] [] (res5 r) (bx5 r)
theorem evr5 {a:Int}{b:Rs}{c d:Int}{e f:By}{g:Int}{r:R5}(h:P5 (.e a b c d e f g) r):E5 a b c d e f g r:=evF h
theorem ok5:∀ k s r,itS Qq k s=some r→P5 s r:=qF fun k rec ih s r h=>match s,h with
 |.e ..,h=>by
  obtain⟨_,a,h⟩:=b7 h;obtain⟨_,b,h⟩:=b2 h;obtain⟨_,c,h⟩:=b2 h;obtain⟨_,d,h⟩:=qh h;rcases qa h with⟨e,h⟩|⟨e,h⟩
  · exact mG 0 (ih _ _ h) 11 [cA 12 (ev14 a),cA 15 (ev15 b),cA 20 (ev16 c),cA 23 (ev8 d),tT 24 e] 56 72056494526300013 [3] []
  ·
   rcases qa h with⟨f,h⟩|⟨f,h⟩
   · exact mG 0 (ih _ _ h) 11 [cA 12 (ev14 a),cA 15 (ev15 b),cA 20 (ev16 c),cA 23 (ev8 d),tF 24 e,tT 28 f] 56 72056494526300013 [3] []
   · rcases qa h with⟨g,h⟩|⟨g,h⟩
     · exact mG 0 (ih _ _ h) 11 [cA 12 (ev14 a),cA 15 (ev15 b),cA 20 (ev16 c),cA 23 (ev8 d),tF 24 e,tF 28 f,tT 33 g] 56 72056494526300013 [3] []
     · obtain⟨_,i,h⟩:=qh h;exact mG 0 (ih _ _ h) 11 [cA 12 (ev14 a),cA 15 (ev15 b),cA 20 (ev16 c),cA 23 (ev8 d),tF 24 e,tF 28 f,tF 33 g,cA 38 (ev9 i)] 56 72056494526300013 [3] []
 |.h0 ..,h=>by
  replace h:=qa h;rcases h with⟨rfl,h⟩|⟨rfl,h⟩
  · cases h;exact mF 0 []
  ·
   rcases qa h with⟨a,h⟩|⟨a,h⟩
   · cases h;exact mF 0 [tT 42 a]
   · obtain⟨_,b,h⟩:=b9 h;rcases qa h with⟨c,h⟩|⟨c,h⟩
     · obtain⟨_,d,h⟩:=qh h;cases h;exact mF 0 [tF 42 a,cA 45 (ev6 b),tT 50 c,cA 54 (ev9 d)]
     · cases h;exact mF 0 [tF 42 a,cA 45 (ev6 b),tF 50 c]
theorem ev5 {k:Nat}{a:Int}{b:Rs}{c d:Int}{e f:By}{g:Int}{r:R5}(h:g5 k a b c d e f g=some r):E5 a b c d e f g r:=evr5 (ok5 _ _ _ h)
end Ab
end Go.Proofs.YtfekohpjaafnhaaGreatDoor
