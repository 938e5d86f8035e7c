import Derived.Test.YtpdhhkfllkgahaaGreatDoorFQdq
import Derived.KernelRfl
set_option linter.all false
set_option maxRecDepth 10000
namespace Go.Proofs.YtpdhhkfllkgahaaGreatDoor
namespace Ab
variable [vo]
inductive S5 where
 |e (a:By)
 |h0 (a:Bool)(b c:Rs)(d e:Int)(f:By)(g:Int)
abbrev R5:=Bool
def res5:R5→ARes
 |r=>.ret (.c (bc r))
def bx5:R5→List (List Cell)
 |_=>[]
noncomputable def Qq (k:Nat)(rec:S5→Option R5):S5→Option R5
 |.e a=>
  (g8 k a).bind fun b=>
  altC b (fun c=>
    tup8 c fun d e f g i j _ l=>
    (g7 k).bind fun m=>
    bif !m then
     rec (.h0 true d e f g i j)
    else
     rec (.h0 (l != 0) d e f g i j)) (fun c=>
    tup6 c fun f g i j _ l=>
    (g7 k).bind fun m=>
    bif !m then
     rec (.h0 true [] [] f g i j)
    else
     rec (.h0 (l != 0) [] [] f g i j))
 |.h0 a b c d e f g=>
  bif a then
   (g7 k).bind fun i=>
   some i
  else
   (qvw k b c d e f g).bind fun i=>
   tup2 i fun j l=>
   bif l != 0 then
    some (l==2)
   else
    (g8 k j).bind fun m=>
    altC m (fun n=>
      tup8 n fun o p q t u v _ w=>
      (qvw k o p q t u v).bind fun x=>
      tup2 x fun y z=>
      bif w==0 then
       bif z==0 then
        bif y.toList==j.toList then
         (g10 k o p q t u v b c d e f g).bind fun a1=>
         some a1
        else
         some false
       else
        some false
      else
       some false) (fun n=>
      tup6 n fun q t u v _ w=>
      (qvw k [] [] q t u v).bind fun x=>
      tup2 x fun y z=>
      bif w==0 then
       bif z==0 then
        bif y.toList==j.toList then
         (g10 k [] [] q t u v b c d e f g).bind fun a1=>
         some a1
        else
         some false
       else
        some false
      else
       some false)
noncomputable def g5 (k:Nat)(a:By):Option R5:=itS Qq k (.e a)
noncomputable def P5:S5→R5→Prop
 |.e a,r=>Fin cx5 Tryz.f5 [.code qiS] (fr0 Tryz.f5 [.c (sc a)] []) (res5 r) (bx5 r)
 |.h0 a b c d e f g,r=>Fin cx5 Tryz.f5 (kAt qiS [1,1,0,1,2] []) ⟨rep 3 .deadv++[pL 3]++rep 20 .deadv++[.c (bc a)]++rep 37 .deadv,[(.loc 3,[.imm b,.imm c,ic d,ic e,sc f,ic g])]⟩ (res5 r) (bx5 r)
abbrev E5 (a:By)(r:R5):Prop:=Ev Tryz.prog noHand 5 [.c (sc a)] [] (res5 r) (bx5 r)
theorem evr5 {a:By}{r:R5}(h:P5 (.e a) r):E5 a r:=evF h
theorem ok5:∀ k s r,itS Qq k s=some r→P5 s r:=qF fun k rec ih s r h=>match s,h with
 |.e ..,h=>by
  obtain⟨_,a,h⟩:=qh h;replace h:=qf h;rcases h with⟨_,rfl,h⟩|⟨_,rfl,h⟩
  · replace h:=t8 h;obtain⟨_,b,h⟩:=qh h;rcases qa h with⟨c,h⟩|⟨c,h⟩
    · exact mA 0 (ih _ _ h) 7 [cA 15 (ev8 a),cA 19 (ev7 b),tT 20 c] 62 4611686018410610679
    · exact mA 0 (ih _ _ h) 7 [cA 15 (ev8 a),cA 19 (ev7 b),tF 20 c] 62 4611686018410610679
  · replace h:=t6 h;obtain⟨_,b,h⟩:=qh h;rcases qa h with⟨c,h⟩|⟨c,h⟩
    · exact mG 0 (ih _ _ h) 7 [cA 15 (ev8 a),cA 19 (ev7 b),tT 20 c] 62 4611686018410610679 [] [(⟨⟨.loc 3,[]⟩,0,0⟩,none),(⟨⟨.loc 3,[]⟩,0,1⟩,none)]
    · exact mG 0 (ih _ _ h) 7 [cA 15 (ev8 a),cA 19 (ev7 b),tF 20 c] 62 4611686018410610679 [] [(⟨⟨.loc 3,[]⟩,0,0⟩,none),(⟨⟨.loc 3,[]⟩,0,1⟩,none)]
 |.h0 ..,h=>by
  replace h:=qa h;rcases h with⟨rfl,h⟩|⟨rfl,h⟩
  · obtain⟨_,a,h⟩:=qh h;cases h;exact mF 0 [cA 25 (ev7 a)]
  ·
   obtain⟨_,a,h⟩:=b2 h;rcases qa h with⟨b,h⟩|⟨b,h⟩
   · cases h;exact mF 0 [cA 28 (xw a),tT 32 b]
   ·
    obtain⟨_,c,h⟩:=qh h;replace h:=qf h;rcases h with⟨_,rfl,h⟩|⟨_,rfl,h⟩
    ·
     replace h:=t8 h;obtain⟨_,d,h⟩:=b2 h;rcases qa h with⟨e,h⟩|⟨e,h⟩
     · rcases qa h with⟨f,h⟩|⟨f,h⟩
       · rcases qa h with⟨g,h⟩|⟨g,h⟩
         · obtain⟨_,i,h⟩:=qh h;cases h;exact mF 0 [cA 28 (xw a),tF 32 b,cA 37 (ev8 c),cA 43 (xw d),tT 47 e,tT 50 f,tT 55 g,cA 60 (ev10 i)]
         · cases h;exact mF 0 [cA 28 (xw a),tF 32 b,cA 37 (ev8 c),cA 43 (xw d),tT 47 e,tT 50 f,tF 55 g]
       · cases h;exact mF 0 [cA 28 (xw a),tF 32 b,cA 37 (ev8 c),cA 43 (xw d),tT 47 e,tF 50 f]
     · cases h;exact mF 0 [cA 28 (xw a),tF 32 b,cA 37 (ev8 c),cA 43 (xw d),tF 47 e]
    ·
     replace h:=t6 h;obtain⟨_,d,h⟩:=b2 h;rcases qa h with⟨e,h⟩|⟨e,h⟩
     · rcases qa h with⟨f,h⟩|⟨f,h⟩
       · rcases qa h with⟨g,h⟩|⟨g,h⟩
         · obtain⟨_,i,h⟩:=qh h;cases h;exact mF 0 [cA 28 (xw a),tF 32 b,cA 37 (ev8 c),cA 43 (xw d),tT 47 e,tT 50 f,tT 55 g,cA 60 (ev10 i)]
         · cases h;exact mF 0 [cA 28 (xw a),tF 32 b,cA 37 (ev8 c),cA 43 (xw d),tT 47 e,tT 50 f,tF 55 g]
       · cases h;exact mF 0 [cA 28 (xw a),tF 32 b,cA 37 (ev8 c),cA 43 (xw d),tT 47 e,tF 50 f]
     · cases h;exact mF 0 [cA 28 (xw a),tF 32 b,cA 37 (ev8 c),cA 43 (xw d),tF 47 e]
theorem ev5 {k:Nat}{a:By}{r:R5}(h:g5 k a=some r):E5 a r:=evr5 (ok5 _ _ _ h)
inductive S3 where
 |e (a:Int)(b:Rs)(c d:Int)(e f:By)(g:Int)(i:Bool)
 |h0 (a:Bool)(b:By)(c:Bool)
 |h1 (a:Bool)(b c d e:By)
 |h2 (a:Bool)(b c:Int)(d:Bool)(e f:Rs)(g i:Int)(j:By)(l:Int)(m n:Rs)(o p:Int)(q:By)(t:Int)
 |h3 (a b:Bool)(c d:Rs)(e f:Int)(g:By)(i:Int)(j l:Rs)(m n:Int)(o:By)(p:Int)
 |h4 (a b c:Rs)(d e:Int)(f:By)(g:Int)
 |h5 (a:Rs)(b c:Int)(d e:Rs)(f g:Int)(i:By)(j:Int)
 |h6 (a:Rs)(b c:Int)(d:Bool)(e f:Rs)(g i:Int)(j:By)(l:Int)
abbrev R3:=Bool
noncomputable def qon (k:Nat)(rec:S3→Option R3):S3→Option R3
 |.e a b c d e f g i=>
  (g6 k a b c d e f g).bind fun j=>
  tup2 j fun l m=>
  (g7 k).bind fun n=>
  bif !n then
   rec (.h0 i l true)
  else
   bif m != 0 then
    rec (.h0 i l true)
   else
    rec (.h0 i l (decide ((l.size:Int)>3000)))
 |.h0 a b c=>
  bif c then
   (g7 k).bind fun d=>
   some d
  else
   gd (decide ((strB [40]).size+b.size≤1000000000)) <|
   gd (decide (((strB [40])++b).size+(strB [41,32,65,78,68,32,97,46,120]).size≤1000000000)) <|
   bif a then
    gd (decide ((strB [97,46,120,32,65,78,68,32,40]).size+b.size≤1000000000)) <|
    gd (decide (((strB [97,46,120,32,65,78,68,32,40])++b).size+(strB [41]).size≤1000000000)) <|
    rec (.h1 a b (strB [80,65,84,84,69,82,78,32,83,69,81,40,65,32,97,41,32,87,72,69,82,69,32]) (strB [32,83,84,82,65,84,69,71,89,32,65,78,89,32,87,73,84,72,73,78,32,48]) (((strB [97,46,120,32,65,78,68,32,40])++b)++(strB [41])))
   else
    rec (.h1 a b (strB [80,65,84,84,69,82,78,32,83,69,81,40,65,32,97,41,32,87,72,69,82,69,32]) (strB [32,83,84,82,65,84,69,71,89,32,65,78,89,32,87,73,84,72,73,78,32,48]) (((strB [40])++b)++(strB [41,32,65,78,68,32,97,46,120])))
 |.h1 a b c d e=>
  gd (decide (c.size+b.size≤1000000000)) <|
  gd (decide ((c++b).size+d.size≤1000000000)) <|
  (g8 k ((c++b)++d)).bind fun f=>
  altC f (fun g=>
    tup8 g fun i j l m n o _ p=>
    gd (decide (c.size+e.size≤1000000000)) <|
    gd (decide ((c++e).size+d.size≤1000000000)) <|
    (g8 k ((c++e)++d)).bind fun q=>
    altC q (fun t=>
      tup8 t fun u v w x y z _ a1=>
      bif a1==14 then
       rec (.h2 a p a1 true u v w x y z i j l m n o)
      else
       rec (.h2 a p a1 (a1==2) u v w x y z i j l m n o)) (fun t=>
      tup6 t fun w x y z _ a1=>
      bif a1==14 then
       rec (.h2 a p a1 true [] [] w x y z i j l m n o)
      else
       rec (.h2 a p a1 (a1==2) [] [] w x y z i j l m n o))) (fun g=>
    tup6 g fun l m n o _ p=>
    gd (decide (c.size+e.size≤1000000000)) <|
    gd (decide ((c++e).size+d.size≤1000000000)) <|
    (g8 k ((c++e)++d)).bind fun q=>
    altC q (fun t=>
      tup8 t fun u v w x y z _ a1=>
      bif a1==14 then
       rec (.h2 a p a1 true u v w x y z [] [] l m n o)
      else
       rec (.h2 a p a1 (a1==2) u v w x y z [] [] l m n o)) (fun t=>
      tup6 t fun w x y z _ a1=>
      bif a1==14 then
       rec (.h2 a p a1 true [] [] w x y z [] [] l m n o)
      else
       rec (.h2 a p a1 (a1==2) [] [] w x y z [] [] l m n o)))
 |.h2 a b c d e f g i j l m n o p q t=>
  bif d then
   some (b==0)
  else
   bif b != 0 then
    rec (.h3 a true e f g i j l m n o p q t)
   else
    bif c != 0 then
     rec (.h3 a true e f g i j l m n o p q t)
    else
     rec (.h3 a ((f.length:Int)!=(IntKind.i64.wrap ((n.length:Int)+1))) e f g i j l m n o p q t)
 |.h3 a b _ c _ _ _ _ d e f g i j=>
  bif b then
   some false
  else
   gd (slOk 0 (e.length:Int) c 7) <|
   bif a then
    gd (slOk 1 (c.length:Int) c 7) <|
    rec (.h4 (List.drop (Int.toNat 1) (List.take (Int.toNat (c.length:Int)) c)) d e f g i j)
   else
    rec (.h4 (List.drop (Int.toNat 0) (List.take (Int.toNat (e.length:Int)) c)) d e f g i j)
 |.h4 a b c d e f g=>rec (.h5 a (a.length:Int) 0 b c d e f g)
 |.h5 a b c d e f g i j=>
  bif decide (c<b)then
   ixR a c fun l=>
   qE l fun m n o p q t u=>
   ixR e c fun v=>
   qE v fun w x y z a1 b1 c1=>
   (g9 k m n o p q t u w x y z a1 b1 c1 false).bind fun d1=>
   bif !d1 then
    rec (.h6 a b c true d e f g i j)
   else
    rec (.h6 a b c (m==13) d e f g i j)
  else
   some true
 |.h6 a b c d e f g i j l=>
  bif d then
   some false
  else
   rec (.h5 a b (IntKind.i64.wrap (c+1)) e f g i j l)
noncomputable def g3 (k:Nat)(a:Int)(b:Rs)(c d:Int)(e f:By)(g:Int)(i:Bool):Option R3:=itS qon k (.e a b c d e f g i)
section
variable [vo]
theorem awk (k:Nat):g7 (k+200)=some true:=by kernel_rfl
end
end Ab
end Go.Proofs.YtpdhhkfllkgahaaGreatDoor
