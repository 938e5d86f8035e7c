import Derived.Test.YtpdhhkfllkgahaaGreatDoorFQdq
import Derived.KernelRfl
set_option linter.all false
set_option maxRecDepth 10000
namespace Go.Proofs.YtpdhhkfllkgahaaGreatDoor
namespace Ab
variable [vo]
inductive S5 where
 |e (a:By)
 |h0 (a:Bool)(b c:Rs)(d e:Int)(f:By)(g:Int)
abbrev R5:=Bool
noncomputable def Qq (k:Nat)(rec:S5→Option R5):S5→Option R5
 |.e a=>
  (g8 k a).bind fun b=>
  altC b (fun c=>
    tup8 c fun d e f g i j _ l=>
    (g7 k).bind fun m=>
    bif !m then
     rec (.h0 true d e f g i j)
    else
     rec (.h0 (l != 0) d e f g i j)) (fun c=>
    tup6 c fun f g i j _ l=>
    (g7 k).bind fun m=>
    bif !m then
     rec (.h0 true [] [] f g i j)
    else
     rec (.h0 (l != 0) [] [] f g i j))
 |.h0 a b c d e f g=>
  bif a then
   (g7 k).bind fun i=>
   some i
  else
   (qvw k b c d e f g).bind fun i=>
   tup2 i fun j l=>
   bif l != 0 then
    some (l==2)
   else
    (g8 k j).bind fun m=>
    altC m (fun n=>
      tup8 n fun o p q t u v _ w=>
      (qvw k o p q t u v).bind fun x=>
      tup2 x fun y z=>
      bif w==0 then
       bif z==0 then
        bif y.toList==j.toList then
         (g10 k o p q t u v b c d e f g).bind fun a1=>
         some a1
        else
         some false
       else
        some false
      else
       some false) (fun n=>
      tup6 n fun q t u v _ w=>
      (qvw k [] [] q t u v).bind fun x=>
      tup2 x fun y z=>
      bif w==0 then
       bif z==0 then
        bif y.toList==j.toList then
         (g10 k [] [] q t u v b c d e f g).bind fun a1=>
         some a1
        else
         some false
       else
        some false
      else
       some false)
noncomputable def g5 (k:Nat)(a:By):Option R5:=itS Qq k (.e a)
inductive S3 where
 |e (a:Int)(b:Rs)(c d:Int)(e f:By)(g:Int)(i:Bool)
 |h0 (a:Bool)(b:By)(c:Bool)
 |h1 (a:Bool)(b c d e:By)
 |h2 (a:Bool)(b c:Int)(d:Bool)(e f:Rs)(g i:Int)(j:By)(l:Int)(m n:Rs)(o p:Int)(q:By)(t:Int)
 |h3 (a b:Bool)(c d:Rs)(e f:Int)(g:By)(i:Int)(j l:Rs)(m n:Int)(o:By)(p:Int)
 |h4 (a b c:Rs)(d e:Int)(f:By)(g:Int)
 |h5 (a:Rs)(b c:Int)(d e:Rs)(f g:Int)(i:By)(j:Int)
 |h6 (a:Rs)(b c:Int)(d:Bool)(e f:Rs)(g i:Int)(j:By)(l:Int)
abbrev R3:=Bool
def res3:R3→ARes
 |r=>.ret (.c (bc r))
def bx3:R3→List (List Cell)
 |_=>[]
noncomputable def qon (k:Nat)(rec:S3→Option R3):S3→Option R3
 |.e a b c d e f g i=>
  (g6 k a b c d e f g).bind fun j=>
  tup2 j fun l m=>
  (g7 k).bind fun n=>
  bif !n then
   rec (.h0 i l true)
  else
   bif m != 0 then
    rec (.h0 i l true)
   else
    rec (.h0 i l (decide ((l.size:Int)>3000)))
 |.h0 a b c=>
  bif c then
   (g7 k).bind fun d=>
   some d
  else
   gd (decide ((strB [40]).size+b.size≤1000000000)) <|
   gd (decide (((strB [40])++b).size+(strB [41,32,65,78,68,32,97,46,120]).size≤1000000000)) <|
   bif a then
    gd (decide ((strB [97,46,120,32,65,78,68,32,40]).size+b.size≤1000000000)) <|
    gd (decide (((strB [97,46,120,32,65,78,68,32,40])++b).size+(strB [41]).size≤1000000000)) <|
    rec (.h1 a b (strB [80,65,84,84,69,82,78,32,83,69,81,40,65,32,97,41,32,87,72,69,82,69,32]) (strB [32,83,84,82,65,84,69,71,89,32,65,78,89,32,87,73,84,72,73,78,32,48]) (((strB [97,46,120,32,65,78,68,32,40])++b)++(strB [41])))
   else
    rec (.h1 a b (strB [80,65,84,84,69,82,78,32,83,69,81,40,65,32,97,41,32,87,72,69,82,69,32]) (strB [32,83,84,82,65,84,69,71,89,32,65,78,89,32,87,73,84,72,73,78,32,48]) (((strB [40])++b)++(strB [41,32,65,78,68,32,97,46,120])))
 |.h1 a b c d e=>
  gd (decide (c.size+b.size≤1000000000)) <|
  gd (decide ((c++b).size+d.size≤1000000000)) <|
  (g8 k ((c++b)++d)).bind fun f=>
  altC f (fun g=>
    tup8 g fun i j l m n o _ p=>
    gd (decide (c.size+e.size≤1000000000)) <|
    gd (decide ((c++e).size+d.size≤1000000000)) <|
    (g8 k ((c++e)++d)).bind fun q=>
    altC q (fun t=>
      tup8 t fun u v w x y z _ a1=>
      bif a1==14 then
       rec (.h2 a p a1 true u v w x y z i j l m n o)
      else
       rec (.h2 a p a1 (a1==2) u v w x y z i j l m n o)) (fun t=>
      tup6 t fun w x y z _ a1=>
      bif a1==14 then
       rec (.h2 a p a1 true [] [] w x y z i j l m n o)
      else
       rec (.h2 a p a1 (a1==2) [] [] w x y z i j l m n o))) (fun g=>
    tup6 g fun l m n o _ p=>
    gd (decide (c.size+e.size≤1000000000)) <|
    gd (decide ((c++e).size+d.size≤1000000000)) <|
    (g8 k ((c++e)++d)).bind fun q=>
    altC q (fun t=>
      tup8 t fun u v w x y z _ a1=>
      bif a1==14 then
       rec (.h2 a p a1 true u v w x y z [] [] l m n o)
      else
       rec (.h2 a p a1 (a1==2) u v w x y z [] [] l m n o)) (fun t=>
      tup6 t fun w x y z _ a1=>
      bif a1==14 then
       rec (.h2 a p a1 true [] [] w x y z [] [] l m n o)
      else
       rec (.h2 a p a1 (a1==2) [] [] w x y z [] [] l m n o)))
 |.h2 a b c d e f g i j l m n o p q t=>
  bif d then
   some (b==0)
  else
   bif b != 0 then
    rec (.h3 a true e f g i j l m n o p q t)
   else
    bif c != 0 then
     rec (.h3 a true e f g i j l m n o p q t)
    else
     rec (.h3 a ((f.length:Int)!=(IntKind.i64.wrap ((n.length:Int)+1))) e f g i j l m n o p q t)
 |.h3 a b _ c _ _ _ _ d e f g i j=>
  bif b then
   some false
  else
   gd (slOk 0 (e.length:Int) c 7) <|
   bif a then
    gd (slOk 1 (c.length:Int) c 7) <|
    rec (.h4 (List.drop (Int.toNat 1) (List.take (Int.toNat (c.length:Int)) c)) d e f g i j)
   else
    rec (.h4 (List.drop (Int.toNat 0) (List.take (Int.toNat (e.length:Int)) c)) d e f g i j)
 |.h4 a b c d e f g=>rec (.h5 a (a.length:Int) 0 b c d e f g)
 |.h5 a b c d e f g i j=>
  bif decide (c<b)then
   ixR a c fun l=>
   qE l fun m n o p q t u=>
   ixR e c fun v=>
   qE v fun w x y z a1 b1 c1=>
   (g9 k m n o p q t u w x y z a1 b1 c1 false).bind fun d1=>
   bif !d1 then
    rec (.h6 a b c true d e f g i j)
   else
    rec (.h6 a b c (m==13) d e f g i j)
  else
   some true
 |.h6 a b c d e f g i j l=>
  bif d then
   some false
  else
   rec (.h5 a b (IntKind.i64.wrap (c+1)) e f g i j l)
noncomputable def g3 (k:Nat)(a:Int)(b:Rs)(c d:Int)(e f:By)(g:Int)(i:Bool):Option R3:=itS qon k (.e a b c d e f g i)
noncomputable def P3:S3→R3→Prop
 |.e a b c d e f g i,r=>Fin cx3 Tryz.f3 [.code qmJ] (fr0 Tryz.f3 [.ag [ic a,.imm b,ic c,ic d,sc e,sc f,ic g],.c (bc i)] []) (res3 r) (bx3 r)
 |.h0 a b c,r=>Fin cx3 Tryz.f3 (kAt qmJ [1,1,0,1,2] []) ⟨[.deadv,.c (bc a)]++rep 3 .deadv++[.c (sc b)]++rep 27 .deadv++[.c (bc c)]++rep 87 .deadv,[]⟩ (res3 r) (bx3 r)
 |.h1 a b c d e,r=>Fin cx3 Tryz.f3 (kAt qmJ [1,1,1,1,1,1,2] []) ⟨[.deadv,.c (bc a)]++rep 3 .deadv++[.c (sc b),.deadv,.c (sc c),.c (sc d),.c (sc e)]++rep 111 .deadv,[]⟩ (res3 r) (bx3 r)
 |.h2 a b c d e f g i j l m n o p q t,r=>Fin cx3 Tryz.f3 (kAt qmJ [1,1,1,1,1,1,1,1,0,1,2] []) ⟨[.deadv,.c (bc a)]++rep 8 .deadv++[pL 10,.deadv,.c (ic b),pL 13,.deadv,.c (ic c)]++rep 51 .deadv++[.c (bc d)]++rep 53 .deadv,[(.loc 13,[.imm e,.imm f,ic g,ic i,sc j,ic l]),(.loc 10,[.imm m,.imm n,ic o,ic p,sc q,ic t])]⟩ (res3 r) (bx3 r)
 |.h3 a b c d e f g i j l m n o p,r=>Fin cx3 Tryz.f3 (kAt qmJ [1,1,1,1,1,1,1,1,1,0,1,2] []) ⟨[.deadv,.c (bc a)]++rep 8 .deadv++[pL 10,.deadv,.deadv,pL 13]++rep 71 .deadv++[.c (bc b)]++rep 35 .deadv,[(.loc 13,[.imm c,.imm d,ic e,ic f,sc g,ic i]),(.loc 10,[.imm j,.imm l,ic m,ic n,sc o,ic p])]⟩ (res3 r) (bx3 r)
 |.h4 a b c d e f g,r=>Fin cx3 Tryz.f3 (kAt qmJ [1,1,1,1,1,1,1,1,1,1,1,1,2] []) ⟨rep 10 .deadv++[pL 10]++rep 5 .deadv++[.c (.imm a)]++rep 104 .deadv,[(.loc 10,[.imm b,.imm c,ic d,ic e,sc f,ic g])]⟩ (res3 r) (bx3 r)
 |.h5 a b c d e f g i j,r=>Fin cx3 Tryz.f3 (kAt qmJ [1,1,1,1,1,1,1,1,1,1,1,1,0,1,0,4] []) ⟨rep 10 .deadv++[pL 10]++rep 5 .deadv++[.c (.imm a)]++rep 80 .deadv++[.c (ic b),.c (ic c)]++rep 22 .deadv,[(.loc 10,[.imm d,.imm e,ic f,ic g,sc i,ic j])]⟩ (res3 r) (bx3 r)
 |.h6 a b c d e f g i j l,r=>Fin cx3 Tryz.f3 (kAt qmJ [1,1,1,1,1,1,1,1,1,1,1,1,0,1,0,0,1,1,0,0,1,1,2] []) ⟨rep 10 .deadv++[pL 10]++rep 5 .deadv++[.c (.imm a)]++rep 80 .deadv++[.c (ic b),.c (ic c)]++rep 20 .deadv++[.c (bc d),.deadv],[(.loc 10,[.imm e,.imm f,ic g,ic i,sc j,ic l])]⟩ (res3 r) (bx3 r)
abbrev E3 (a:Int)(b:Rs)(c d:Int)(e f:By)(g:Int)(i:Bool)(r:R3):Prop:=Ev Tryz.prog noHand 3 [.ag [ic a,.imm b,ic c,ic d,sc e,sc f,ic g],.c (bc i)] [] (res3 r) (bx3 r)
theorem evr3 {a:Int}{b:Rs}{c d:Int}{e f:By}{g:Int}{i:Bool}{r:R3}(h:P3 (.e a b c d e f g i) r):E3 a b c d e f g i r:=evF h
theorem ok3:∀ k s r,itS qon k s=some r→P3 s r:=qF fun k rec ih s r h=>match s,h with
 |.e ..,h=>by
  obtain⟨_,a,h⟩:=b2 h;obtain⟨_,b,h⟩:=qh h;rcases qa h with⟨c,h⟩|⟨c,h⟩
  · exact mG 0 (ih _ _ h) 7 [cA 20 (ev6 a),cA 23 (ev7 b),tT 24 c] 121 2658455991569831745807614111970754525 [2] []
  · rcases qa h with⟨d,h⟩|⟨d,h⟩
    · exact mG 0 (ih _ _ h) 7 [cA 20 (ev6 a),cA 23 (ev7 b),tF 24 c,tT 27 d] 121 2658455991569831745807614111970754525 [2] []
    · exact mG 0 (ih _ _ h) 7 [cA 20 (ev6 a),cA 23 (ev7 b),tF 24 c,tF 27 d] 121 2658455991569831745807614111970754525 [2] []
 |.h0 ..,h=>by
  replace h:=qa h;rcases h with⟨rfl,h⟩|⟨rfl,h⟩
  · obtain⟨_,a,h⟩:=qh h;cases h;exact mF 0 [cA 34 (ev7 a)]
  · replace h:=zo h;obtain⟨b,h⟩:=h;replace h:=zo h;obtain⟨a,h⟩:=h;replace h:=qa h;rcases h with⟨rfl,h⟩|⟨rfl,h⟩
    · replace h:=zo h;obtain⟨c,h⟩:=h;replace h:=zo h;obtain⟨d,h⟩:=h;exact mA 0 (ih _ _ h) 11 [xC 36 b,xC 37 a,xC 40 c,xC 41 d] 121 2658455991569831745807614120560688221
    · exact mA 0 (ih _ _ h) 11 [xC 36 b,xC 37 a] 121 2658455991569831745807614120560688221
 |.h1 ..,h=>by
  replace h:=zo h;obtain⟨a,h⟩:=h;replace h:=zo h;obtain⟨b,h⟩:=h;obtain⟨_,c,h⟩:=qh h;replace h:=qf h;rcases h with⟨_,rfl,h⟩|⟨_,rfl,h⟩
  ·
   replace h:=t8 h;replace h:=zo h;obtain⟨d,h⟩:=h;replace h:=zo h;obtain⟨e,h⟩:=h;obtain⟨_,f,h⟩:=qh h;replace h:=qf h;rcases h with⟨_,rfl,h⟩|⟨_,rfl,h⟩
   · replace h:=t8 h;rcases qa h with⟨g,h⟩|⟨g,h⟩
     · exact mA 0 (ih _ _ h) 7 [xC 45 a,xC 47 b,cA 48 (ev8 c),xC 55 d,xC 57 e,cA 58 (ev8 f),tT 63 g] 121 2658455991569831598233661530884230141
     · exact mA 0 (ih _ _ h) 7 [xC 45 a,xC 47 b,cA 48 (ev8 c),xC 55 d,xC 57 e,cA 58 (ev8 f),tF 63 g] 121 2658455991569831598233661530884230141
   · replace h:=t6 h;rcases qa h with⟨g,h⟩|⟨g,h⟩
     · exact mG 0 (ih _ _ h) 7 [xC 45 a,xC 47 b,cA 48 (ev8 c),xC 55 d,xC 57 e,cA 58 (ev8 f),tT 63 g] 121 2658455991569831598233661530884230141 [] [(⟨⟨.loc 13,[]⟩,0,0⟩,none),(⟨⟨.loc 13,[]⟩,0,1⟩,none)]
     · exact mG 0 (ih _ _ h) 7 [xC 45 a,xC 47 b,cA 48 (ev8 c),xC 55 d,xC 57 e,cA 58 (ev8 f),tF 63 g] 121 2658455991569831598233661530884230141 [] [(⟨⟨.loc 13,[]⟩,0,0⟩,none),(⟨⟨.loc 13,[]⟩,0,1⟩,none)]
  ·
   replace h:=t6 h;replace h:=zo h;obtain⟨d,h⟩:=h;replace h:=zo h;obtain⟨e,h⟩:=h;obtain⟨_,f,h⟩:=qh h;replace h:=qf h;rcases h with⟨_,rfl,h⟩|⟨_,rfl,h⟩
   · replace h:=t8 h;rcases qa h with⟨g,h⟩|⟨g,h⟩
     · exact mG 0 (ih _ _ h) 7 [xC 45 a,xC 47 b,cA 48 (ev8 c),xC 55 d,xC 57 e,cA 58 (ev8 f),tT 63 g] 121 2658455991569831598233661530884230141 [] [(⟨⟨.loc 10,[]⟩,0,0⟩,none),(⟨⟨.loc 10,[]⟩,0,1⟩,none)]
     · exact mG 0 (ih _ _ h) 7 [xC 45 a,xC 47 b,cA 48 (ev8 c),xC 55 d,xC 57 e,cA 58 (ev8 f),tF 63 g] 121 2658455991569831598233661530884230141 [] [(⟨⟨.loc 10,[]⟩,0,0⟩,none),(⟨⟨.loc 10,[]⟩,0,1⟩,none)]
   · replace h:=t6 h;rcases qa h with⟨g,h⟩|⟨g,h⟩
     · exact mG 0 (ih _ _ h) 7 [xC 45 a,xC 47 b,cA 48 (ev8 c),xC 55 d,xC 57 e,cA 58 (ev8 f),tT 63 g] 121 2658455991569831598233661530884230141 [] [(⟨⟨.loc 13,[]⟩,0,0⟩,none),(⟨⟨.loc 13,[]⟩,0,1⟩,none),(⟨⟨.loc 10,[]⟩,0,0⟩,none),(⟨⟨.loc 10,[]⟩,0,1⟩,none)]
     · exact mG 0 (ih _ _ h) 7 [xC 45 a,xC 47 b,cA 48 (ev8 c),xC 55 d,xC 57 e,cA 58 (ev8 f),tF 63 g] 121 2658455991569831598233661530884230141 [] [(⟨⟨.loc 13,[]⟩,0,0⟩,none),(⟨⟨.loc 13,[]⟩,0,1⟩,none),(⟨⟨.loc 10,[]⟩,0,0⟩,none),(⟨⟨.loc 10,[]⟩,0,1⟩,none)]
 |.h2 ..,h=>by
  replace h:=qa h;rcases h with⟨rfl,h⟩|⟨rfl,h⟩
  · cases h;exact mF 0 []
  ·
   rcases qa h with⟨a,h⟩|⟨a,h⟩
   · exact mA 0 (ih _ _ h) 5 [tT 71 a] 121 2658455991531146119579945986970082301
   · rcases qa h with⟨b,h⟩|⟨b,h⟩
     · exact mA 0 (ih _ _ h) 5 [tF 71 a,tT 74 b] 121 2658455991531146119579945986970082301
     · exact mA 0 (ih _ _ h) 5 [tF 71 a,tF 74 b] 121 2658455991531146119579945986970082301
 |.h3 ..,h=>by
  replace h:=qa h;rcases h with⟨rfl,h⟩|⟨rfl,h⟩
  · cases h;exact mF 0 []
  · replace h:=zo h;obtain⟨a,h⟩:=h;replace h:=qa h;rcases h with⟨rfl,h⟩|⟨rfl,h⟩
    · replace h:=zo h;obtain⟨b,h⟩:=h;exact mG 0 (ih _ _ h) 9 [⟨(some 91,.ok),[_],⟨of_decide_eq_true a,trivial⟩⟩,⟨(some 95,.ok),[_],⟨of_decide_eq_true b,trivial⟩⟩] 121 2658455991569831745807614120560622591 [13] []
    · exact mG 0 (ih _ _ h) 9 [⟨(some 91,.ok),[_],⟨of_decide_eq_true a,trivial⟩⟩] 121 2658455991569831745807614120560622591 [13] []
 |.h4 ..,h=>by exact mA 0 (ih _ _ h) 5 [] 121 2658455516200856660221588559296920575
 |.h5 ..,h=>by
  rcases qa h with⟨a,h⟩|⟨a,h⟩
  · obtain⟨_,b,h⟩:=YJ h;replace h:=zB h;obtain⟨_,_,_,_,_,_,_,rfl,h⟩:=h;obtain⟨_,c,h⟩:=YJ h;replace h:=zB h;obtain⟨_,_,_,_,_,_,_,rfl,h⟩:=h;obtain⟨_,d,h⟩:=qh h;rcases qa h with⟨e,h⟩|⟨e,h⟩
    · exact mA 0 (ih _ _ h) 12 [tT 99 a,rA 103 b,rA 108 c,cA 110 (ev9 d),tT 111 e] 121 1993841518308398723769685029156748287
    · exact mA 0 (ih _ _ h) 12 [tT 99 a,rA 103 b,rA 108 c,cA 110 (ev9 d),tF 111 e,rA 115 b] 121 1993841518308398723769685029156748287
  · cases h;exact mF 0 [tF 99 a]
 |.h6 ..,h=>by
  replace h:=qa h;rcases h with⟨rfl,h⟩|⟨rfl,h⟩
  · cases h;exact mF 0 []
  · exact mA 0 (ih _ _ h) 4 [] 121 2658455516200856660221588559296920575
theorem ev3 {k:Nat}{a:Int}{b:Rs}{c d:Int}{e f:By}{g:Int}{i:Bool}{r:R3}(h:g3 k a b c d e f g i=some r):E3 a b c d e f g i r:=evr3 (ok3 _ _ _ h)
section
variable [vo]
theorem awk (k:Nat):g7 (k+200)=some true:=by kernel_rfl
end
end Ab
end Go.Proofs.YtpdhhkfllkgahaaGreatDoor
