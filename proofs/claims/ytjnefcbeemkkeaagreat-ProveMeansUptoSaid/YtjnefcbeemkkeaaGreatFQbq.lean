/-
  Functions' ways, printed by a program: what each computes, and that this is what the interpreter computes.
-/
import Derived.Test.YtjnefcbeemkkeaaGreatFQq
import Derived.Test.YtjnefcbeemkkeaaGreatBrq
import Derived.KernelRfl
set_option linter.all false
set_option maxRecDepth 10000
set_option maxHeartbeats 8000000
namespace Go.Proofs.YtjnefcbeemkkeaaGreat
namespace Ab
variable [Glob]
inductive S22 where
 |e (a b:Int)(c d e:Rs)
 |h0 (a:Int)(b:Bool)(c:Rs)(d e f g:Int)(i j l:Rs)
 |h1 (a:Int)(b:Bool)(c:Rs)(d e f g:Int)(i j l:Rs)
 |h2 (a:Int)(b:Bool)(c:Rs)(d e f g:Int)(i j l:Rs)
 |h3 (a:Int)(b:Bool)(c:Rs)(d e f g:Int)(i j l:Rs)
 |h4 (a:Int)(b:Bool)(c d:Es)(e f g:Int)(i j l:Rs)
 |h5 (a:Int)(b:Bool)(c d:Es)(e:Int)(f:Bool)(g i:Int)(j l m:Rs)
 |h6 (a:Int)(b:Bool)(c d:Es)(e f:Int)(g:Rs)(i j l m n o p q:Int)(t u v:Rs)
 |h7 (a:Int)(b:Bool)(c d:Es)(e f:Int)(g:Rs)(i j l m n o p q:Int)(t u v:Rs)
 |h8 (a:Int)(b:Bool)(c d:Es)(e f:Int)(g:Rs)(i j l m n o p q:Int)(t u v:Rs)
 |h9 (a:Int)(b:Bool)(c d:Es)(e f g i j l m n:Int)(o p q:Rs)
 |h10 (a:Int)(b:Bool)(c d:Es)(e f:Int)(g:Rs)(i j l m n o p q:Int)(t u v:Rs)
 |h11 (a:Int)(b:Bool)(c d:Es)(e f:Int)(g:Bool)(i j l m n o:Int)(p q t:Rs)
 |h12 (a:Int)(b:Bool)(c d:Es)(e f g:Int)(i j l:Rs)
 |h13 (a:Int)(b:Bool)(c d:Es)(e f g i j l m:Int)(n o p:Rs)
abbrev R22:=Bool
inductive S23 where
 |e (a:Bool)(b c d e:Int)(f g i:Rs)(j:Es)
 |h0 (a:Bool)(b c d e:Int)(f g i:Rs)(j:Es)
 |h1 (a:Bool)(b c:Int)(d:Bool)(e f:Int)(g i j:Rs)(l:Es)
abbrev R23:=Int×Rs×Rs×Rs×Es
inductive S24 where
 |e (a b c:Int)(d e f:Rs)(g:Es)
 |h0 (a b:Int)(c:Bool)(d e:Int)(f g i:Rs)(j:Es)
 |h1 (a b c d:Int)(e f g:Rs)(i:Es)
 |h2 (a b:Int)(c:Rs)(d e f g:Int)(i j l:Rs)(m:Es)
 |h3 (a b:Int)(c:Rs)(d e f g:Int)(i j l:Rs)(m:Es)
abbrev R24:=Int×Rs×Rs×Rs×Es
inductive S61 where
 |e (a:Int)(b:Rs)
 |h0 (a b:Int)(c:Bool)
 |h1 (a:Int)(b:Rs)(c:Bool)
 |h2 (a b:Int)(c:Bool)
 |h3 (a b:Int)(c:Bool)
 |h4 (a:Bool)
 |h5 (a:Bool)
abbrev R61:=Int
inductive S25 where
 |e (a b c:Int)(d e f:Rs)(g:Es)
 |h0 (a b:Int)(c:Rs)(d e f g i j:Int)(l m n:Rs)(o:Es)
 |h1 (a b:Int)(c:Rs)(d e f g i j:Int)(l m n:Rs)(o:Es)
 |h2 (a b:Int)(c:Rs)(d e f g i j:Int)(l m n:Rs)(o:Es)
 |h3 (a b:Int)(c:Rs)(d e f g i j:Int)(l m n:Rs)(o:Es)
 |h4 (a:Int)(b c:Rs)(d e f g:Int)(i:Rs)(j l m n o p q t u v w x y z a1 b1:Int)(c1 d1 e1:Rs)(f1:Es)
 |h5 (a:Int)(b c:Rs)(d e f g:Int)(i:Rs)(j l m n o p q t u v w x y z a1 b1:Int)(c1 d1 e1:Rs)(f1:Es)
 |h6 (a:Rs)(b c:Int)(d:Rs)(e f g i j l m n o p q t u v w x:Int)(y z a1:Rs)(b1:Es)
 |h7 (a b:Int)(c:Rs)(d e f g i j:Int)(l m n:Rs)(o:Es)
abbrev R25:=Int×Int×Rs×Int×Int×Int×Int×Rs×Rs×Rs×Es
inductive S8 where
 |e (a b:Int)(c d e:Rs)
 |h0 (a:Bool)(b c:Int)(d:Rs)(e f g i:Int)
 |h1 (a:Bool)(b c:Int)(d:Rs)(e f g i:Int)
 |h2 (a:Bool)(b c:Int)(d:Rs)(e f g i:Int)
abbrev R8:=Int×Int×Rs×Int×Int×Int×Int×Bool
inductive S26 where
 |e (a b:Rs)
 |h0 (a b:Rs)(c d:Int)
 |h1 (a b:Rs)(c d:Int)(e:Bool)
abbrev R26:=Bool
inductive S9 where
 |e (a b:Int)(c:Rs)(d e f g i j:Int)(l:Rs)(m n o p:Int)
abbrev R9:=Bool
inductive S3 where
 |e (a b:Int)(c d e:Rs)
abbrev R3:=Bool
attribute [local irreducible] cond gd ixR sxI aixS Option.bind
noncomputable section
noncomputable def qb (k:Nat)(rec:S22->Option R22):S22->Option R22
 |.e a b c d e=>
  bif decide (a>=1)then
   bif decide (a<=1024)then
    bif decide (b>=0)then
     bif decide (b<=256)then
      bif decide ((e.length:Int)>=1)then
       rec (.h0 (e.length:Int) (decide ((e.length:Int)<=1024)) c (c.length:Int) 0 a b c d e)
      else
       rec (.h0 (e.length:Int) false c (c.length:Int) 0 a b c d e)
     else
      rec (.h0 (e.length:Int) false c (c.length:Int) 0 a b c d e)
    else
     rec (.h0 (e.length:Int) false c (c.length:Int) 0 a b c d e)
   else
    rec (.h0 (e.length:Int) false c (c.length:Int) 0 a b c d e)
  else
   rec (.h0 (e.length:Int) false c (c.length:Int) 0 a b c d e)
 |.h0 a b c d e f g i j l=>
  bif decide (e<d)then
   ixR c e fun m=>
   qvU m fun n o p q=>
   bif b then
    (g59 k n o p q).bind fun t=>
    rec (.h1 a t c d e f g i j l)
   else
    rec (.h1 a false c d e f g i j l)
  else
   rec (.h2 a b j (j.length:Int) 0 f g i j l)
 |.h1 a b c d e f g i j l=>rec (.h0 a b c d (IntKind.i64.wrap (e+1)) f g i j l)
 |.h2 a b c d e f g i j l=>
  bif decide (e<d)then
   ixR c e fun m=>
   qx5 m fun n o=>
   bif b then
    (g46 k n o).bind fun p=>
    tup2 p fun q t=>
    rec (.h3 a (q==n&&(t==o&&true)) c d e f g i j l)
   else
    rec (.h3 a false c d e f g i j l)
  else
   rec (.h4 a b [] [] 0 f g i j l)
 |.h3 a b c d e f g i j l=>rec (.h2 a b c d (IntKind.i64.wrap (e+1)) f g i j l)
 |.h4 a b c d e f g i j l=>
  bif b then
   rec (.h5 a b c d e (decide (e<a)) f g i j l)
  else
   rec (.h5 a b c d e false f g i j l)
 |.h5 a b c d e f g i j l m=>
  bif f then
   ixR m e fun n=>
   qvU n fun o p q t=>
   (g42 k o).bind fun u=>
   (g60 k o p q t).bind fun v=>
   altC v (fun w=>
     rec (.h6 a b c d e u w (w.length:Int) 0 o p q t g i j l m)) (fun w=>
     rec (.h7 a b c d e u w (w.length:Int) 0 o p q t g i j l m))
  else
   some b
 |.h6 a b c d e f g i j l m n o p q t u v=>
  bif decide (j<i)then
   ixR g j fun w=>
   un_i w fun x=>
   bif b then
    (yU Tryz.prog 3 (.int .i64 x) c).bind fun y=>
    optC y (
      rec (.h8 a false c d e f g i j l m n o p q t u v)) fun z=>
     un_b z fun a1=>
     rec (.h8 a a1 c d e f g i j l m n o p q t u v)
   else
    rec (.h8 a false c d e f g i j l m n o p q t u v)
  else
   rec (.h9 a b c d e f l m n o p q t u v)
 |.h7 a b c d e f g i j l m n o p q t u v=>
  bif decide (j<i)then
   ixR g j fun w=>
   un_i w fun x=>
   bif b then
    (yU Tryz.prog 3 (.int .i64 x) c).bind fun y=>
    optC y (
      rec (.h10 a false c d e f g i j l m n o p q t u v)) fun z=>
     un_b z fun a1=>
     rec (.h10 a a1 c d e f g i j l m n o p q t u v)
   else
    rec (.h10 a false c d e f g i j l m n o p q t u v)
  else
   rec (.h9 a b c d e f l m n o p q t u v)
 |.h8 a b c d e f g i j l m n o p q t u v=>rec (.h6 a b c d e f g i (IntKind.i64.wrap (j+1)) l m n o p q t u v)
 |.h9 a b c d e f g i j l m n o p q=>
  bif decide (f<2)then
   bif g != 53 then
    bif l != 0 then
     rec (.h11 a b c d e f true g i j l m n o p q)
    else
     rec (.h11 a b c d e f ((g==52)!=(e==(IntKind.i64.wrap (a-1)))) g i j l m n o p q)
   else
    rec (.h11 a b c d e f (false != (e==(IntKind.i64.wrap (a-1)))) g i j l m n o p q)
  else
   rec (.h11 a b c d e f ((g==52)!=(e==(IntKind.i64.wrap (a-1)))) g i j l m n o p q)
 |.h10 a b c d e f g i j l m n o p q t u v=>rec (.h7 a b c d e f g i (IntKind.i64.wrap (j+1)) l m n o p q t u v)
 |.h11 a b c d e f g i j l m n o p q t=>
  bif g then
   some false
  else
   bif i==52 then
    bif b then
     some (j==0)
    else
     some false
   else
    bif i==53 then
     bif b then
      bif j==0 then
       bif decide (l>=0)then
        bif decide (l<o)then
         (yU Tryz.prog 3 (.int .i64 m) c).bind fun u=>
         optC u (
           (xL Tryz.prog 3 (.int .i64 l) [bc true] d).bind fun v=>
           rec (.h12 a false c v e n o p q t)) fun w=>
          un_b w fun x=>
          (xL Tryz.prog 3 (.int .i64 l) [bc true] d).bind fun y=>
          rec (.h12 a x c y e n o p q t)
        else
         (xL Tryz.prog 3 (.int .i64 l) [bc true] d).bind fun z=>
         rec (.h12 a false c z e n o p q t)
       else
        (xL Tryz.prog 3 (.int .i64 l) [bc true] d).bind fun a1=>
        rec (.h12 a false c a1 e n o p q t)
      else
       (xL Tryz.prog 3 (.int .i64 l) [bc true] d).bind fun b1=>
       rec (.h12 a false c b1 e n o p q t)
     else
      (xL Tryz.prog 3 (.int .i64 l) [bc true] d).bind fun c1=>
      rec (.h12 a false c c1 e n o p q t)
    else
     bif i==50 then
      bif b then
       bif decide (l>=0)then
        rec (.h13 a (decide (l<(p.length:Int))) c d e i j l m n o p q t)
       else
        rec (.h13 a false c d e i j l m n o p q t)
      else
       rec (.h13 a false c d e i j l m n o p q t)
     else
      bif i==51 then
       bif b then
        bif decide (l>=0)then
         rec (.h13 a (decide (l<(q.length:Int))) c d e i j l m n o p q t)
        else
         rec (.h13 a false c d e i j l m n o p q t)
       else
        rec (.h13 a false c d e i j l m n o p q t)
      else
       bif i==54 then
        bif b then
         (yU Tryz.prog 3 (.int .i64 l) d).bind fun u=>
         optC u (
           rec (.h13 a false c d e i j l m n o p q t)) fun w=>
          un_b w fun x=>
          rec (.h13 a x c d e i j l m n o p q t)
        else
         rec (.h13 a false c d e i j l m n o p q t)
       else
        bif b then
         rec (.h13 a (decide (f>0)) c d e i j l m n o p q t)
        else
         rec (.h13 a false c d e i j l m n o p q t)
 |.h12 a b c d e f g i j l=>rec (.h4 a b c d (IntKind.i64.wrap (e+1)) f g i j l)
 |.h13 a b c d e _ f _ _ g i j l m=>
  bif b then
   bif decide (f>=0)then
    (xL Tryz.prog 3 (.int .i64 f) [bc true] c).bind fun n=>
    rec (.h12 a (decide (f<g)) n d e g i j l m)
   else
    (xL Tryz.prog 3 (.int .i64 f) [bc true] c).bind fun n=>
    rec (.h12 a false n d e g i j l m)
  else
   (xL Tryz.prog 3 (.int .i64 f) [bc true] c).bind fun o=>
   rec (.h12 a false o d e g i j l m)
noncomputable def g22 (k:Nat)(a b:Int)(c d e:Rs):Option R22:=itS qb k (.e a b c d e)
def P22:S22->R22->Prop
 |.e a b c d e=>Fe Y22 qtJ nB [.ag [ic a,ic b,.imm c,.imm d,.imm e]] []
 |.h0 a b c d e f g i j l=>Fk Y22 qtJ nB [1,1,1,0,1,0,4] ([.deadv,pL 1,.deadv,cic a,cbc b]++rd 41++[cm c,cic d,cic e]++rd 188) [(.loc 1,[ic f,ic g,.imm i,.imm j,.imm l])]
 |.h1 a b c d e f g i j l=>Fk Y22 qtJ nB [1,1,1,0,1,0,0,1,1,1,2] ([.deadv,pL 1,.deadv,cic a,cbc b]++rd 41++[cm c,cic d,cic e]++rd 188) [(.loc 1,[ic f,ic g,.imm i,.imm j,.imm l])]
 |.h2 a b c d e f g i j l=>Fk Y22 qtJ nB [1,1,1,1,0,1,0,4] ([.deadv,pL 1,.deadv,cic a,cbc b]++rd 54++[cm c,cic d,cic e]++rd 175) [(.loc 1,[ic f,ic g,.imm i,.imm j,.imm l])]
 |.h3 a b c d e f g i j l=>Fk Y22 qtJ nB [1,1,1,1,0,1,0,0,1,1,1,2] ([.deadv,pL 1,.deadv,cic a,cbc b]++rd 54++[cm c,cic d,cic e]++rd 175) [(.loc 1,[ic f,ic g,.imm i,.imm j,.imm l])]
 |.h4 a b c d e f g i j l=>Fk Y22 qtJ nB [1,1,1,1,1,1,0,1,0,4] ([.deadv,pL 1,.deadv,cic a,cbc b]++rd 4++[.c (.mp c),.c (.mp d),cic e]++rd 225) [(.loc 1,[ic f,ic g,.imm i,.imm j,.imm l])]
 |.h5 a b c d e f g i j l m=>Fk Y22 qtJ nB [1,1,1,1,1,1,0,1,0,0,0,1,2] ([.deadv,pL 1,.deadv,cic a,cbc b]++rd 4++[.c (.mp c),.c (.mp d),cic e]++rd 68++[cbc f]++rd 156) [(.loc 1,[ic g,ic i,.imm j,.imm l,.imm m])]
 |.h6 a b c d e f g i j l m n o p q t u v=>Fk Y22 qtJ nB [1,1,1,1,1,1,0,1,0,0,1,0,0,1,1,0,1,0,4] ([.deadv,pL 1,.deadv,cic a,cbc b]++rd 4++[.c (.mp c),.c (.mp d),cic e,pL 12,cic f]++rd 78++[.c (.own 1 g),cic i,cic j]++rd 142) [(.loc 12,[ic l,ic m,ic n,ic o]),(.loc 1,[ic p,ic q,.imm t,.imm u,.imm v])]
 |.h7 a b c d e f g i j l m n o p q t u v=>Fk Y22 qtJ nB [1,1,1,1,1,1,0,1,0,0,1,0,0,1,1,0,1,0,4] ([.deadv,pL 1,.deadv,cic a,cbc b]++rd 4++[.c (.mp c),.c (.mp d),cic e,pL 12,cic f]++rd 78++[cm g,cic i,cic j]++rd 142) [(.loc 12,[ic l,ic m,ic n,ic o]),(.loc 1,[ic p,ic q,.imm t,.imm u,.imm v])]
 |.h8 a b c d e f g i j l m n o p q t u v=>Fk Y22 qtJ nB [1,1,1,1,1,1,0,1,0,0,1,0,0,1,1,0,1,0,0,1,1,1,2] ([.deadv,pL 1,.deadv,cic a,cbc b]++rd 4++[.c (.mp c),.c (.mp d),cic e,pL 12,cic f]++rd 78++[.c (.own 1 g),cic i,cic j]++rd 142) [(.loc 12,[ic l,ic m,ic n,ic o]),(.loc 1,[ic p,ic q,.imm t,.imm u,.imm v])]
 |.h9 a b c d e f g i j l m n o p q=>Fk Y22 qtJ nB [1,1,1,1,1,1,0,1,0,0,1,0,0,1,1,1,2] ([.deadv,pL 1,.deadv,cic a,cbc b]++rd 4++[.c (.mp c),.c (.mp d),cic e,pL 12,cic f]++rd 223) [(.loc 12,[ic g,ic i,ic j,ic l]),(.loc 1,[ic m,ic n,.imm o,.imm p,.imm q])]
 |.h10 a b c d e f g i j l m n o p q t u v=>Fk Y22 qtJ nB [1,1,1,1,1,1,0,1,0,0,1,0,0,1,1,0,1,0,0,1,1,1,2] ([.deadv,pL 1,.deadv,cic a,cbc b]++rd 4++[.c (.mp c),.c (.mp d),cic e,pL 12,cic f]++rd 78++[cm g,cic i,cic j]++rd 142) [(.loc 12,[ic l,ic m,ic n,ic o]),(.loc 1,[ic p,ic q,.imm t,.imm u,.imm v])]
 |.h11 a b c d e f g i j l m n o p q t=>Fk Y22 qtJ nB [1,1,1,1,1,1,0,1,0,0,1,0,0,1,1,1,0,1,2] ([.deadv,pL 1,.deadv,cic a,cbc b]++rd 4++[.c (.mp c),.c (.mp d),cic e,pL 12,cic f]++rd 112++[cbc g]++rd 110) [(.loc 12,[ic i,ic j,ic l,ic m]),(.loc 1,[ic n,ic o,.imm p,.imm q,.imm t])]
 |.h12 a b c d e f g i j l=>Fk Y22 qtJ nB [1,1,1,1,1,1,0,1,0,0,1,1,2] ([.deadv,pL 1,.deadv,cic a,cbc b]++rd 4++[.c (.mp c),.c (.mp d),cic e]++rd 225) [(.loc 1,[ic f,ic g,.imm i,.imm j,.imm l])]
 |.h13 a b c d e f g i j l m n o p=>Fk Y22 qtJ nB [1,1,1,1,1,1,0,1,0,0,1,0,0,1,1,1,1,1,2] ([.deadv,pL 1,.deadv,cic a,cbc b]++rd 4++[.c (.mp c),.c (.mp d),cic e,pL 12]++rd 224) [(.loc 12,[ic f,ic g,ic i,ic j]),(.loc 1,[ic l,ic m,.imm n,.imm o,.imm p])]
abbrev E22 (a b:Int)(c d e:Rs)(r:R22):Prop:=Ev Tryz.prog noHand 22 [.ag [ic a,ic b,.imm c,.imm d,.imm e]] [] (qtJ r) (nB r)
theorem qdN {a b:Int}{c d e:Rs}{r:R22}(h:P22 (.e a b c d e) r):E22 a b c d e r:=evF h
theorem ok22:∀ k s r,itS qb k s=some r->P22 s r:=qF fun k rec ih s r h=>match s,h with
 |.e ..,h=>by
  replace h:=qa h;rcases h with⟨a,h⟩|⟨a,h⟩
  .
   replace h:=qa h;rcases h with⟨b,h⟩|⟨b,h⟩
   .
    replace h:=qa h;rcases h with⟨c,h⟩|⟨c,h⟩
    .
     replace h:=qa h;rcases h with⟨d,h⟩|⟨d,h⟩
     . replace h:=qa h;rcases h with⟨e,h⟩|⟨e,h⟩
       . exact mA 0 (ih _ _ h) 11 [tT 21 a,tT 25 b,tT 30 c,tT 35 d,tT 39 e] 237 220855883097298041197912187592864814478435487109452369764708193952333797
       . exact mA 0 (ih _ _ h) 11 [tT 21 a,tT 25 b,tT 30 c,tT 35 d,tF 39 e] 237 220855883097298041197912187592864814478435487109452369764708193952333797
     . exact mA 0 (ih _ _ h) 11 [tT 21 a,tT 25 b,tT 30 c,tF 35 d] 237 220855883097298041197912187592864814478435487109452369764708193952333797
    . exact mA 0 (ih _ _ h) 11 [tT 21 a,tT 25 b,tF 30 c] 237 220855883097298041197912187592864814478435487109452369764708193952333797
   . exact mA 0 (ih _ _ h) 11 [tT 21 a,tF 25 b] 237 220855883097298041197912187592864814478435487109452369764708193952333797
  . exact mA 0 (ih _ _ h) 11 [tF 21 a] 237 220855883097298041197912187592864814478435487109452369764708193952333797
 |.h0 ..,h=>by
  replace h:=qa h;rcases h with⟨a,h⟩|⟨a,h⟩
  . replace h:=YJ h;obtain⟨_,b,h⟩:=h;replace h:=qvD h;obtain⟨_,_,_,_,rfl,h⟩:=h;replace h:=qa h;rcases h with⟨rfl,h⟩|⟨rfl,h⟩
    . replace h:=qh h;obtain⟨_,c,h⟩:=h;exact mG 0 (ih _ _ h) 12 [tT 49 a,rA 50 b,cA 55 (evI c)] 237 220855883097298041197912187592864814478435487109452369764708193952333797 [6] []
    . exact mG 0 (ih _ _ h) 12 [tT 49 a,rA 50 b] 237 220855883097298041197912187592864814478435487109452369764708193952333797 [6] []
  . exact mA 0 (ih _ _ h) 11 [tF 49 a] 237 220855883097298041197912187592864814478435487109452365729975509037613029
 |.h1 ..,h=>by exact mA 0 (ih _ _ h) 1 [] 237 220855883097298041197912187592864814478435487109452369764708193952333797
 |.h2 ..,h=>by
  replace h:=qa h;rcases h with⟨a,h⟩|⟨a,h⟩
  . replace h:=YJ h;obtain⟨_,b,h⟩:=h;replace h:=qx6 h;obtain⟨_,_,rfl,h⟩:=h;replace h:=qa h;rcases h with⟨rfl,h⟩|⟨rfl,h⟩
    . obtain⟨_,c,h⟩:=b2 h;exact mG 0 (ih _ _ h) 12 [tT 62 a,rA 63 b,cA 68 (evI c)] 237 220855883097298041197912187592864814478435487109452365729975509037613029 [8] []
    . exact mG 0 (ih _ _ h) 12 [tT 62 a,rA 63 b] 237 220855883097298041197912187592864814478435487109452365729975509037613029 [8] []
  . exact mA 0 (ih _ _ h) 13 [tF 62 a] 237 220855883097298041197912187592864814478435487109452369765200775161573861
 |.h3 ..,h=>by exact mA 0 (ih _ _ h) 1 [] 237 220855883097298041197912187592864814478435487109452365729975509037613029
 |.h4 ..,h=>by
  replace h:=qa h;rcases h with⟨rfl,h⟩|⟨rfl,h⟩
  . exact mA 0 (ih _ _ h) 4 [] 237 220855883097298041197912187592864814478435487108243443945586145986867685
  . exact mA 0 (ih _ _ h) 4 [] 237 220855883097298041197912187592864814478435487108243443945586145986867685
 |.h5 ..,h=>by
  replace h:=qa h;rcases h with⟨rfl,h⟩|⟨rfl,h⟩
  . replace h:=YJ h;obtain⟨_,a,h⟩:=h;replace h:=qvD h;obtain⟨_,_,_,_,rfl,h⟩:=h;replace h:=qh h;obtain⟨_,b,h⟩:=h;replace h:=qh h;obtain⟨_,c,h⟩:=h;replace h:=qf h;rcases h with⟨_,rfl,h⟩|⟨_,rfl,h⟩
    . exact mA 0 (ih _ _ h) 13 [rA 86 a,cA 90 (evI b),cA 92 (evI c)] 237 220855883097298041197912187592864814478435452447131269774553077986083301
    . exact mA 0 (ih _ _ h) 13 [rA 86 a,cA 90 (evI b),cA 92 (evI c)] 237 220855883097298041197912187592864814478435452447131269774553077986083301
  . cases h;exact mF 0 []
 |.h6 ..,h=>by
  replace h:=qa h;rcases h with⟨a,h⟩|⟨a,h⟩
  .
   replace h:=YJ h;obtain⟨_,b,h⟩:=h;replace h:=qoC h;obtain⟨c,rfl,h⟩:=h;replace h:=qa h;rcases h with⟨rfl,h⟩|⟨rfl,h⟩
   . replace h:=qh h;obtain⟨_,d,h⟩:=h;replace h:=qgU h;rcases h with⟨_,rfl,h⟩|⟨rfl,h⟩
     . replace h:=qvF h;obtain⟨e,rfl,h⟩:=h;exact mA 0 (ih _ _ h) 12 [tT 95 a,⟨(some 96,.bnd),[_],⟨qot b,trivial⟩⟩,⟨(some 97,.ld [ic c]),[_],⟨b.2,trivial⟩⟩,⟨(some 102,.look (some [bc e])),[_],⟨d,trivial⟩⟩] 237 220855883097298041197912187592864814478435452447131269774553077986083301
     . exact mA 0 (ih _ _ h) 12 [tT 95 a,⟨(some 96,.bnd),[_],⟨qot b,trivial⟩⟩,⟨(some 97,.ld [ic c]),[_],⟨b.2,trivial⟩⟩,⟨(some 102,.look none),[_],⟨d,trivial⟩⟩] 237 220855883097298041197912187592864814478435452447131269774553077986083301
   . exact mA 0 (ih _ _ h) 12 [tT 95 a,⟨(some 96,.bnd),[_],⟨qot b,trivial⟩⟩,⟨(some 97,.ld [ic c]),[_],⟨b.2,trivial⟩⟩] 237 220855883097298041197912187592864814478435452447131269774553077986083301
  . exact mA 0 (ih _ _ h) 6 [tF 95 a] 237 220855883097298041197912187592864814478435487109452369765200775161561573
 |.h7 ..,h=>by
  replace h:=qa h;rcases h with⟨a,h⟩|⟨a,h⟩
  .
   replace h:=YJ h;obtain⟨_,b,h⟩:=h;replace h:=qoC h;obtain⟨_,rfl,h⟩:=h;replace h:=qa h;rcases h with⟨rfl,h⟩|⟨rfl,h⟩
   . replace h:=qh h;obtain⟨_,c,h⟩:=h;replace h:=qgU h;rcases h with⟨_,rfl,h⟩|⟨rfl,h⟩
     . replace h:=qvF h;obtain⟨d,rfl,h⟩:=h;exact mA 0 (ih _ _ h) 12 [tT 95 a,rA 96 b,⟨(some 102,.look (some [bc d])),[_],⟨c,trivial⟩⟩] 237 220855883097298041197912187592864814478435452447131269774553077986083301
     . exact mA 0 (ih _ _ h) 12 [tT 95 a,rA 96 b,⟨(some 102,.look none),[_],⟨c,trivial⟩⟩] 237 220855883097298041197912187592864814478435452447131269774553077986083301
   . exact mA 0 (ih _ _ h) 12 [tT 95 a,rA 96 b] 237 220855883097298041197912187592864814478435452447131269774553077986083301
  . exact mA 0 (ih _ _ h) 6 [tF 95 a] 237 220855883097298041197912187592864814478435487109452369765200775161561573
 |.h8 ..,h=>by exact mA 0 (ih _ _ h) 1 [] 237 220855883097298041197912187592864814478435452447131269774553077986083301
 |.h9 _ _ _ _ _ _ a ..,h=>by
  replace h:=qa h;rcases h with⟨b,h⟩|⟨b,h⟩
  .
   replace h:=qa h;rcases h with⟨c,h⟩|⟨c,h⟩
   . replace h:=qa h;rcases h with⟨d,h⟩|⟨d,h⟩
     . exact mA 0 (ih _ _ h) 3 [tT 106 b,tT 110 c,tT 115 d] 237 220855883097298041197912187592864729407843756874836503921548917219508709
     . exact mA 0 (ih _ _ h) 3 [tT 106 b,tT 110 c,tF 115 d] 237 220855883097298041197912187592864729407843756874836503921548917219508709
   . exact mA 0 (ih _ _ h) 3 [tT 106 b,tF 110 c,tF 120 (show(a==52)=false from by rw[qyj c];rfl)] 237 220855883097298041197912187592864729407843756874836503921548917219508709
  . exact mA 0 (ih _ _ h) 3 [tF 106 b] 237 220855883097298041197912187592864729407843756874836503921548917219508709
 |.h10 ..,h=>by exact mA 0 (ih _ _ h) 1 [] 237 220855883097298041197912187592864814478435452447131269774553077986083301
 |.h11 ..,h=>by
  replace h:=qa h;rcases h with⟨rfl,h⟩|⟨rfl,h⟩
  . cases h;exact mF 0 []
  .
   replace h:=qa h;rcases h with⟨a,h⟩|⟨a,h⟩
   . replace h:=qa h;rcases h with⟨rfl,h⟩|⟨rfl,h⟩
     . cases h;exact mF 0 [tT 135 a]
     . cases h;exact mF 0 [tT 135 a]
   .
    replace h:=qa h;rcases h with⟨b,h⟩|⟨b,h⟩
    .
     replace h:=qa h;rcases h with⟨rfl,h⟩|⟨rfl,h⟩
     .
      replace h:=qa h;rcases h with⟨c,h⟩|⟨c,h⟩
      .
       replace h:=qa h;rcases h with⟨d,h⟩|⟨d,h⟩
       . replace h:=qa h;rcases h with⟨e,h⟩|⟨e,h⟩
         . replace h:=qh h;obtain⟨_,f,h⟩:=h;replace h:=qgU h;rcases h with⟨_,rfl,h⟩|⟨rfl,h⟩
           . replace h:=qvF h;obtain⟨g,rfl,h⟩:=h;replace h:=qh h;obtain⟨i,j,h⟩:=h;exact mG 0 (ih _ _ h) 15 [tF 135 a,tT 145 b,tT 150 c,tT 155 d,tT 162 e,⟨(some 168,.look (some [bc g])),[_],⟨f,trivial⟩⟩,⟨(none,.put i),[_],⟨j,trivial⟩⟩] 237 220855883097298041197912187592864814478435487109452369765200775161573861 [12] []
           . replace h:=qh h;obtain⟨l,m,h⟩:=h;exact mG 0 (ih _ _ h) 15 [tF 135 a,tT 145 b,tT 150 c,tT 155 d,tT 162 e,⟨(some 168,.look none),[_],⟨f,trivial⟩⟩,⟨(none,.put l),[_],⟨m,trivial⟩⟩] 237 220855883097298041197912187592864814478435487109452369765200775161573861 [12] []
         . replace h:=qh h;obtain⟨n,f,h⟩:=h;exact mG 0 (ih _ _ h) 15 [tF 135 a,tT 145 b,tT 150 c,tT 155 d,tF 162 e,⟨(none,.put n),[_],⟨f,trivial⟩⟩] 237 220855883097298041197912187592864814478435487109452369765200775161573861 [12] []
       . replace h:=qh h;obtain⟨o,p,h⟩:=h;exact mG 0 (ih _ _ h) 15 [tF 135 a,tT 145 b,tT 150 c,tF 155 d,⟨(none,.put o),[_],⟨p,trivial⟩⟩] 237 220855883097298041197912187592864814478435487109452369765200775161573861 [12] []
      . replace h:=qh h;obtain⟨q,e,h⟩:=h;exact mG 0 (ih _ _ h) 15 [tF 135 a,tT 145 b,tF 150 c,⟨(none,.put q),[_],⟨e,trivial⟩⟩] 237 220855883097298041197912187592864814478435487109452369765200775161573861 [12] []
     . replace h:=qh h;obtain⟨t,d,h⟩:=h;exact mG 0 (ih _ _ h) 15 [tF 135 a,tT 145 b,⟨(none,.put t),[_],⟨d,trivial⟩⟩] 237 220855883097298041197912187592864814478435487109452369765200775161573861 [12] []
    .
     replace h:=qa h;rcases h with⟨c,h⟩|⟨c,h⟩
     . replace h:=qa h;rcases h with⟨rfl,h⟩|⟨rfl,h⟩
       . replace h:=qa h;rcases h with⟨d,h⟩|⟨d,h⟩
         . exact mA 0 (ih _ _ h) 15 [tF 135 a,tF 145 b,tT 176 c,tT 181 d] 237 220855883097298041197912187592864814478435487109452369765200775161569765
         . exact mA 0 (ih _ _ h) 15 [tF 135 a,tF 145 b,tT 176 c,tF 181 d] 237 220855883097298041197912187592864814478435487109452369765200775161569765
       . exact mA 0 (ih _ _ h) 15 [tF 135 a,tF 145 b,tT 176 c] 237 220855883097298041197912187592864814478435487109452369765200775161569765
     .
      replace h:=qa h;rcases h with⟨d,h⟩|⟨d,h⟩
      . replace h:=qa h;rcases h with⟨rfl,h⟩|⟨rfl,h⟩
        . replace h:=qa h;rcases h with⟨e,h⟩|⟨e,h⟩
          . exact mA 0 (ih _ _ h) 18 [tF 135 a,tF 145 b,tF 176 c,tT 194 d,tT 199 e] 237 220855883097298041197912187592864814478435487109452369765200775161569765
          . exact mA 0 (ih _ _ h) 18 [tF 135 a,tF 145 b,tF 176 c,tT 194 d,tF 199 e] 237 220855883097298041197912187592864814478435487109452369765200775161569765
        . exact mA 0 (ih _ _ h) 18 [tF 135 a,tF 145 b,tF 176 c,tT 194 d] 237 220855883097298041197912187592864814478435487109452369765200775161569765
      .
       replace h:=qa h;rcases h with⟨e,h⟩|⟨e,h⟩
       . replace h:=qa h;rcases h with⟨rfl,h⟩|⟨rfl,h⟩
         . replace h:=qh h;obtain⟨_,f,h⟩:=h;replace h:=qgU h;rcases h with⟨_,rfl,h⟩|⟨rfl,h⟩
           . replace h:=qvF h;obtain⟨g,rfl,h⟩:=h;exact mA 0 (ih _ _ h) 21 [tF 135 a,tF 145 b,tF 176 c,tF 194 d,tT 212 e,⟨(some 218,.look (some [bc g])),[_],⟨f,trivial⟩⟩] 237 220855883097298041197912187592864814478435487109452369765200775161569765
           . exact mA 0 (ih _ _ h) 21 [tF 135 a,tF 145 b,tF 176 c,tF 194 d,tT 212 e,⟨(some 218,.look none),[_],⟨f,trivial⟩⟩] 237 220855883097298041197912187592864814478435487109452369765200775161569765
         . exact mA 0 (ih _ _ h) 21 [tF 135 a,tF 145 b,tF 176 c,tF 194 d,tT 212 e] 237 220855883097298041197912187592864814478435487109452369765200775161569765
       . replace h:=qa h;rcases h with⟨rfl,h⟩|⟨rfl,h⟩
         . exact mA 0 (ih _ _ h) 21 [tF 135 a,tF 145 b,tF 176 c,tF 194 d,tF 212 e] 237 220855883097298041197912187592864814478435487109452369765200775161569765
         . exact mA 0 (ih _ _ h) 21 [tF 135 a,tF 145 b,tF 176 c,tF 194 d,tF 212 e] 237 220855883097298041197912187592864814478435487109452369765200775161569765
 |.h12 ..,h=>by exact mA 0 (ih _ _ h) 1 [] 237 220855883097298041197912187592864814478435487109452369765200775161573861
 |.h13 ..,h=>by
  replace h:=qa h;rcases h with⟨rfl,h⟩|⟨rfl,h⟩
  . replace h:=qa h;rcases h with⟨a,h⟩|⟨a,h⟩
    . replace h:=qh h;obtain⟨b,c,h⟩:=h;exact mG 0 (ih _ _ h) 4 [tT 224 a,⟨(none,.put b),[_],⟨c,trivial⟩⟩] 237 220855883097298041197912187592864814478435487109452369765200775161573861 [12] []
    . replace h:=qh h;obtain⟨b,c,h⟩:=h;exact mG 0 (ih _ _ h) 4 [tF 224 a,⟨(none,.put b),[_],⟨c,trivial⟩⟩] 237 220855883097298041197912187592864814478435487109452369765200775161573861 [12] []
  . replace h:=qh h;obtain⟨d,e,h⟩:=h;exact mG 0 (ih _ _ h) 4 [⟨(none,.put d),[_],⟨e,trivial⟩⟩] 237 220855883097298041197912187592864814478435487109452369765200775161573861 [12] []
theorem ev22 {k:Nat}{a b:Int}{c d e:Rs}{r:R22}(h:g22 k a b c d e=some r):E22 a b c d e r:=qdN (ok22 _ _ _ h)
instance {k:Nat} {a b:Int} {c d e:Rs}:EvI (g22 k a b c d e) 22 [.ag [ic a,ic b,.imm c,.imm d,.imm e]] [] qtJ nB:=⟨fun r h=>ev22 h⟩
def qiC:R23->ARes
 |(r,_,_,_,_)=>.ret (cic r)
def bx23 (b0_0 b0_1:Int):R23->List (List Cell)
 |(_,a,b,c,d)=>[[ic b0_0,ic b0_1,.imm a,.imm b,.imm c,.mp d]]
noncomputable def qkj (k:Nat)(rec:S23->Option R23):S23->Option R23
 |.e a b c d e f g i j=>rec (tg 7 (.h0 a b (IntKind.i64.wrap (c-1)) d e f g i j))
 |.h0 a b c d e f g i j=>
  bif tg 14 (decide (c>=0))then
   ixR i (tg 23 c) fun l=>
   qvU l fun m n o _=>
   bif a then
    bif tg 29 (m==53)then
     bif tg 35 (o==b)then
      rec (tg 12 (rg [10] [] (.h1 a b c true d e f g i j)))
     else
      rec (tg 12 (rg [10] [] (.h1 a b c false d e f g i j)))
    else
     rec (tg 12 (rg [10] [] (.h1 a b c false d e f g i j)))
   else
    bif tg 43 (m != 53)then
     bif tg 48 (m != 52)then
      rec (tg 12 (rg [10] [] (.h1 a b c (n==b) d e f g i j)))
     else
      rec (tg 12 (rg [10] [] (.h1 a b c false d e f g i j)))
    else
     rec (tg 12 (rg [10] [] (.h1 a b c false d e f g i j)))
  else
   some ((-1),f,g,i,j)
 |.h1 a b c d e f g i j l=>
  bif d then
   some (c,g,i,j,l)
  else
   rec (tg 4 (.h0 a b (IntKind.i64.wrap (c-1)) e f g i j l))
noncomputable def g23 (k:Nat)(a:Bool)(b c d e:Int)(f g i:Rs)(j:Es):Option R23:=itS qkj k (.e a b c d e f g i j)
def P23:S23->R23->Prop
 |.e a b c d e f g i j=>Fe Y23 qiC (bx23 d e) [pP 0,cbc a,cic b,cic c] [[ic d,ic e,.imm f,.imm g,.imm i,.mp j]]
 |.h0 a b c d e f g i j=>Fk Y23 qiC (bx23 d e) [1,0,1,0,4] ([pP 0,cbc a,cic b]++rd 6++[cic c]++rd 48) [(.par 0,[ic d,ic e,.imm f,.imm g,.imm i,.mp j])]
 |.h1 a b c d e f g i j l=>Fk Y23 qiC (bx23 e f) [1,0,1,0,0,1,0,0,1,1,2] ([pP 0,cbc a,cic b]++rd 6++[cic c]++rd 46++[cbc d,.deadv]) [(.par 0,[ic e,ic f,.imm g,.imm i,.imm j,.mp l])]
theorem ok23:∀ k s r,itS qkj k s=some r->P23 s r:=okU (And.intro @qx3 trivial)
instance {k:Nat} {a:Bool} {b c d e:Int} {f g i:Rs} {j:Es}:EvI (g23 k a b c d e f g i j) 23 [pP 0,cbc a,cic b,cic c] [[ic d,ic e,.imm f,.imm g,.imm i,.mp j]] qiC (bx23 d e):=eI ok23
noncomputable def qj6 (k:Nat)(rec:S24->Option R24):S24->Option R24
 |.e a b c d e f g=>
  (yU Tryz.prog 3 (.int .i64 a) g).bind fun i=>
  optC i (
    rec (.h0 a 0 false b c d e f g)) fun j=>
   un_i j fun l=>
   rec (.h0 a l true b c d e f g)
 |.h0 a b c d e f g i j=>
  bif c then
   some (b,f,g,i,j)
  else
   ixR i a fun l=>
   qvU l fun m n o p=>
   bif m==53 then
    (g23 k false p a d e f g i j).bind fun q=>
    tup5 q fun t u v w x=>
    (rec (.e t d e u v w x)).bind fun y=>
    tup5 y fun z a1 b1 c1 d1=>
    rec (.h1 a z d e a1 b1 c1 d1)
   else
    bif m==54 then
     (g23 k true o a d e f g i j).bind fun e1=>
     tup5 e1 fun f1 g1 i1 j1 l1=>
     (rec (.e f1 d e g1 i1 j1 l1)).bind fun m1=>
     tup5 m1 fun n1 o1 p1 q1 t1=>
     rec (.h1 a n1 d e o1 p1 q1 t1)
    else
     (g60 k m n o p).bind fun e1=>
     altC e1 (fun y=>
       rec (.h2 a 1 y (y.length:Int) 0 d e f g i j)) (fun y=>
       rec (.h3 a 1 y (y.length:Int) 0 d e f g i j))
 |.h1 a b _ _ c d e f=>
  (xL Tryz.prog 3 (.int .i64 a) [ic b] f).bind fun g=>
  some (b,c,d,e,g)
 |.h2 a b c d e f g i j l m=>
  bif decide (e<d)then
   ixR c e fun n=>
   un_i n fun o=>
   (g23 k false o a f g i j l m).bind fun p=>
   tup5 p fun q t u v w=>
   (rec (.e q f g t u v w)).bind fun x=>
   tup5 x fun y z a1 b1 c1=>
   rec (.h2 a (if (IntKind.i64.wrap (b+y):Int)<1025 then IntKind.i64.wrap (b+y)else 1025) c d (IntKind.i64.wrap (e+1)) f g z a1 b1 c1)
  else
   rec (.h1 a b f g i j l m)
 |.h3 a b c d e f g i j l m=>
  bif decide (e<d)then
   ixR c e fun n=>
   un_i n fun o=>
   (g23 k false o a f g i j l m).bind fun p=>
   tup5 p fun q t u v w=>
   (rec (.e q f g t u v w)).bind fun x=>
   tup5 x fun y z a1 b1 c1=>
   rec (.h3 a (if (IntKind.i64.wrap (b+y):Int)<1025 then IntKind.i64.wrap (b+y)else 1025) c d (IntKind.i64.wrap (e+1)) f g z a1 b1 c1)
  else
   rec (.h1 a b f g i j l m)
noncomputable def g24 (k:Nat)(a b c:Int)(d e f:Rs)(g:Es):Option R24:=itS qj6 k (.e a b c d e f g)
def P24:S24->R24->Prop
 |.e a b c d e f g=>Fe Y24 qiC (bx23 b c) [pP 0,cic a] [[ic b,ic c,.imm d,.imm e,.imm f,.mp g]]
 |.h0 a b c d e f g i j=>Fk Y24 qiC (bx23 d e) [1,0,1,1,2] ([pP 0,cic a]++rd 3++[cic b]++rd 14++[cbc c]++rd 55) [(.par 0,[ic d,ic e,.imm f,.imm g,.imm i,.mp j])]
 |.h1 a b c d e f g i=>Fk Y24 qiC (bx23 c d) [1,1,1,1,1,2] ([pP 0,cic a]++rd 6++[cic b]++rd 67) [(.par 0,[ic c,ic d,.imm e,.imm f,.imm g,.mp i])]
 |.h2 a b c d e f g i j l m=>Fk Y24 qiC (bx23 f g) [1,1,1,1,0,0,1,1,1,1,1,0,4] ([pP 0,cic a]++rd 6++[cic b]++rd 22++[.c (.own 1 c),cic d,cic e]++rd 42) [(.par 0,[ic f,ic g,.imm i,.imm j,.imm l,.mp m])]
 |.h3 a b c d e f g i j l m=>Fk Y24 qiC (bx23 f g) [1,1,1,1,0,0,1,1,1,1,1,0,4] ([pP 0,cic a]++rd 6++[cic b]++rd 22++[cm c,cic d,cic e]++rd 42) [(.par 0,[ic f,ic g,.imm i,.imm j,.imm l,.mp m])]
abbrev E24 (a b c:Int)(d e f:Rs)(g:Es)(r:R24):Prop:=Ev Tryz.prog noHand 24 [pP 0,cic a] [[ic b,ic c,.imm d,.imm e,.imm f,.mp g]] (qiC r) (bx23 b c r)
theorem qnW {a b c:Int}{d e f:Rs}{g:Es}{r:R24}(h:P24 (.e a b c d e f g) r):E24 a b c d e f g r:=evF h
theorem ok24:∀ k s r,itS qj6 k s=some r->P24 s r:=qF fun k rec ih s r h=>match s,h with
 |.e ..,h=>by
  replace h:=qh h;obtain⟨_,a,h⟩:=h;replace h:=qgU h;rcases h with⟨_,rfl,h⟩|⟨rfl,h⟩
  . replace h:=qoC h;obtain⟨b,rfl,h⟩:=h;exact mA 1 (ih _ _ h) 7 [⟨(some 17,.look (some [ic b])),[_],⟨a,trivial⟩⟩] 76 75557863725914322370524
  . exact mA 1 (ih _ _ h) 7 [⟨(some 17,.look none),[_],⟨a,trivial⟩⟩] 76 75557863725914322370524
 |.h0 ..,h=>by
  replace h:=qa h;rcases h with⟨rfl,h⟩|⟨rfl,h⟩
  . cases h;exact mF 1 []
  .
   replace h:=YJ h;obtain⟨_,a,h⟩:=h;replace h:=qvD h;obtain⟨_,_,_,_,rfl,h⟩:=h;replace h:=qa h;rcases h with⟨b,h⟩|⟨b,h⟩
   . obtain⟨_,c,h⟩:=b5 h;obtain⟨_,d,h⟩:=b5 h;exact mG 1 (ih _ _ h) 13 [rA 28 a,tT 50 b,cA 56 (evI c),cA 57 (qnW (ih _ _ d))] 76 75557863725914323418876 [7] []
   .
    replace h:=qa h;rcases h with⟨e,h⟩|⟨e,h⟩
    . obtain⟨_,f,h⟩:=b5 h;obtain⟨_,g,h⟩:=b5 h;exact mG 1 (ih _ _ h) 16 [rA 28 a,tF 50 b,tT 61 e,cA 67 (evI f),cA 68 (qnW (ih _ _ g))] 76 75557863725914323418876 [7] []
    . replace h:=qh h;obtain⟨_,f,h⟩:=h;replace h:=qf h;rcases h with⟨_,rfl,h⟩|⟨_,rfl,h⟩
      . exact mG 1 (ih _ _ h) 18 [rA 28 a,tF 50 b,tF 61 e,cA 31 (evI f)] 76 75557863725899291033340 [7] []
      . exact mG 1 (ih _ _ h) 18 [rA 28 a,tF 50 b,tF 61 e,cA 31 (evI f)] 76 75557863725899291033340 [7] []
 |.h1 ..,h=>by replace h:=qh h;obtain⟨a,b,h⟩:=h;cases h;exact mF 1 [⟨(none,.put a),[_],⟨b,trivial⟩⟩]
 |.h2 ..,h=>by
  replace h:=qa h;rcases h with⟨a,h⟩|⟨a,h⟩
  . replace h:=YJ h;obtain⟨_,b,h⟩:=h;replace h:=qoC h;obtain⟨c,rfl,h⟩:=h;obtain⟨_,d,h⟩:=b5 h;obtain⟨_,e,h⟩:=b5 h;exact mA 1 (ih _ _ h) 13 [tT 34 a,⟨(some 35,.bnd),[_],⟨qot b,trivial⟩⟩,⟨(some 36,.ld [ic c]),[_],⟨b.2,trivial⟩⟩,cA 42 (evI d),cA 43 (qnW (ih _ _ e))] 76 75557863725899291033340
  . exact mA 1 (ih _ _ h) 7 [tF 34 a] 76 75557863725914323418876
 |.h3 ..,h=>by
  replace h:=qa h;rcases h with⟨a,h⟩|⟨a,h⟩
  . replace h:=YJ h;obtain⟨_,b,h⟩:=h;replace h:=qoC h;obtain⟨_,rfl,h⟩:=h;obtain⟨_,c,h⟩:=b5 h;obtain⟨_,d,h⟩:=b5 h;exact mA 1 (ih _ _ h) 13 [tT 34 a,rA 35 b,cA 42 (evI c),cA 43 (qnW (ih _ _ d))] 76 75557863725899291033340
  . exact mA 1 (ih _ _ h) 7 [tF 34 a] 76 75557863725914323418876
theorem ev24 {k:Nat}{a b c:Int}{d e f:Rs}{g:Es}{r:R24}(h:g24 k a b c d e f g=some r):E24 a b c d e f g r:=qnW (ok24 _ _ _ h)
instance {k:Nat} {a b c:Int} {d e f:Rs} {g:Es}:EvI (g24 k a b c d e f g) 24 [pP 0,cic a] [[ic b,ic c,.imm d,.imm e,.imm f,.mp g]] qiC (bx23 b c):=⟨fun r h=>ev24 h⟩
noncomputable def qqt (k:Nat)(rec:S61->Option R61):S61->Option R61
 |.e a b=>
  bif (b.length:Int)==1 then
   ixR b 0 fun c=>
   un_i c fun d=>
   bif a==6 then
    bif d==1 then
     rec (.h0 a d true)
    else
     rec (.h0 a d (d==4))
   else
    rec (.h0 a d false)
  else
   bif (b.length:Int)!=2 then
    rec (.h1 a b true)
   else
    ixR b 0 fun e=>
    un_i e fun f=>
    ixR b 1 fun g=>
    un_i g fun i=>
    rec (.h1 a b (f != i))
 |.h0 a b c=>
  bif c then
   some b
  else
   bif a==15 then
    bif b==2 then
     rec (.h2 a b true)
    else
     rec (.h2 a b false)
   else
    bif a==17 then
     rec (.h2 a b (b==4))
    else
     rec (.h2 a b false)
 |.h1 a b c=>
  bif c then
   some 0
  else
   ixR b 0 fun d=>
   un_i d fun e=>
   bif decide (a>=1)then
    bif decide (a<=4)then
     bif e==1 then
      rec (.h3 a e true)
     else
      bif e==4 then
       rec (.h3 a e true)
      else
       bif a==5 then
        rec (.h3 a e false)
       else
        rec (.h3 a e false)
    else
     bif a==5 then
      rec (.h3 a e (e==1))
     else
      rec (.h3 a e false)
   else
    bif a==5 then
     rec (.h3 a e (e==1))
    else
     rec (.h3 a e false)
 |.h2 a b c=>
  bif c then
   some 2
  else
   bif a==16 then
    rec (.h4 (b==1))
   else
    rec (.h4 false)
 |.h3 a b c=>
  bif c then
   some b
  else
   bif a==7 then
    bif decide (b>=1)then
     bif decide (b<=4)then
      rec (.h5 true)
     else
      rec (.h5 false)
    else
     rec (.h5 false)
   else
    bif a==8 then
     bif decide (b>=1)then
      bif decide (b<=4)then
       rec (.h5 true)
      else
       rec (.h5 false)
     else
      rec (.h5 false)
    else
     bif decide (a>=9)then
      bif decide (a<=12)then
       bif b==1 then
        rec (.h5 true)
       else
        bif b==4 then
         rec (.h5 true)
        else
         bif a==13 then
          rec (.h5 (b==2))
         else
          bif a==14 then
           rec (.h5 (b==2))
          else
           rec (.h5 false)
      else
       bif a==13 then
        rec (.h5 (b==2))
       else
        bif a==14 then
         rec (.h5 (b==2))
        else
         rec (.h5 false)
     else
      bif a==13 then
       rec (.h5 (b==2))
      else
       bif a==14 then
        rec (.h5 (b==2))
       else
        rec (.h5 false)
 |.h4 a=>
  bif a then
   some 4
  else
   some 0
 |.h5 a=>
  bif a then
   some 2
  else
   some 0
noncomputable def g61 (k:Nat)(a:Int)(b:Rs):Option R61:=itS qqt k (.e a b)
def P61:S61->R61->Prop
 |.e a b=>Fe Y61 qu3 nB [cic a,cm b] []
 |.h0 a b c=>Fk Y61 qu3 nB [1,0,1,0,1,0,1,2] ([cic a]++rd 4++[cic b]++rd 16++[cbc c]++rd 101) []
 |.h1 a b c=>Fk Y61 qu3 nB [1,1,0,1,2] ([cic a,cm b]++rd 53++[cbc c]++rd 68) []
 |.h2 a b c=>Fk Y61 qu3 nB [1,0,1,0,1,1,0,1,2] ([cic a]++rd 4++[cic b]++rd 31++[cbc c]++rd 86) []
 |.h3 a b c=>Fk Y61 qu3 nB [1,1,1,1,0,1,2] ([cic a]++rd 5++[cic b]++rd 73++[cbc c]++rd 43) []
 |.h4 a=>Fk Y61 qu3 nB [1,0,1,0,1,1,1,0,1,2] (rd 43++[cbc a]++rd 80) []
 |.h5 a=>Fk Y61 qu3 nB [1,1,1,1,1,0,1,2] (rd 123++[cbc a]) []
abbrev E61 (a:Int)(b:Rs)(r:R61):Prop:=Ev Tryz.prog noHand 61 [cic a,cm b] [] (qu3 r) (nB r)
theorem quq {a:Int}{b:Rs}{r:R61}(h:P61 (.e a b) r):E61 a b r:=evF h
theorem ok61:∀ k s r,itS qqt k s=some r->P61 s r:=qF fun k rec ih s r h=>match s,h with
 |.e ..,h=>by
  replace h:=qa h;rcases h with⟨a,h⟩|⟨a,h⟩
  .
   replace h:=YJ h;obtain⟨_,b,h⟩:=h;replace h:=qoC h;obtain⟨_,rfl,h⟩:=h;replace h:=qa h;rcases h with⟨c,h⟩|⟨c,h⟩
   . replace h:=qa h;rcases h with⟨d,h⟩|⟨d,h⟩
     . exact mA 0 (ih _ _ h) 11 [tT 9 a,rA 11 b,tT 14 c,tT 17 d] 124 21267647932558653966460912964481318878
     . exact mA 0 (ih _ _ h) 11 [tT 9 a,rA 11 b,tT 14 c,tF 17 d] 124 21267647932558653966460912964481318878
   . exact mA 0 (ih _ _ h) 11 [tT 9 a,rA 11 b,tF 14 c] 124 21267647932558653966460912964481318878
  . replace h:=qa h;rcases h with⟨e,h⟩|⟨e,h⟩
    . exact mA 0 (ih _ _ h) 10 [tF 9 a,tT 46 e] 124 21267647932558653966424884167466549244
    . replace h:=YJ h;obtain⟨_,f,h⟩:=h;replace h:=qoC h;obtain⟨_,rfl,h⟩:=h;replace h:=YJ h;obtain⟨_,g,h⟩:=h;replace h:=qoC h;obtain⟨_,rfl,h⟩:=h;exact mA 0 (ih _ _ h) 10 [tF 9 a,tF 46 e,rA 49 f,rA 52 g] 124 21267647932558653966424884167466549244
 |.h0 a ..,h=>by
  replace h:=qa h;rcases h with⟨rfl,h⟩|⟨rfl,h⟩
  . cases h;exact mF 0 []
  .
   replace h:=qa h;rcases h with⟨b,h⟩|⟨b,h⟩
   . replace h:=qa h;rcases h with⟨c,h⟩|⟨c,h⟩
     . exact mA 0 (ih _ _ h) 5 [tT 25 b,tT 28 c] 124 21267647932558653966460912827046559710
     . exact mA 0 (ih _ _ h) 5 [tT 25 b,tF 28 c,tF 32 (show(a==17)=false from by rw[eq_of_beq b];rfl)] 124 21267647932558653966460912827046559710
   . replace h:=qa h;rcases h with⟨c,h⟩|⟨c,h⟩
     . exact mA 0 (ih _ _ h) 5 [tF 25 b,tT 32 c] 124 21267647932558653966460912827046559710
     . exact mA 0 (ih _ _ h) 5 [tF 25 b,tF 32 c] 124 21267647932558653966460912827046559710
 |.h1 ..,h=>by
  replace h:=qa h;rcases h with⟨rfl,h⟩|⟨rfl,h⟩
  . cases h;exact mF 0 []
  .
   replace h:=YJ h;obtain⟨_,a,h⟩:=h;replace h:=qoC h;obtain⟨_,rfl,h⟩:=h;replace h:=qa h;rcases h with⟨b,h⟩|⟨b,h⟩
   .
    replace h:=qa h;rcases h with⟨c,h⟩|⟨c,h⟩
    .
     replace h:=qa h;rcases h with⟨d,h⟩|⟨d,h⟩
     . exact mA 0 (ih _ _ h) 7 [rA 57 a,tT 60 b,tT 63 c,tT 67 d] 124 21267647932557445040641298335310806974
     . replace h:=qa h;rcases h with⟨e,h⟩|⟨e,h⟩
       . exact mA 0 (ih _ _ h) 7 [rA 57 a,tT 60 b,tT 63 c,tF 67 d,tT 70 e] 124 21267647932557445040641298335310806974
       . replace h:=qa h;rcases h with⟨f,h⟩|⟨f,h⟩
         . exact mA 0 (ih _ _ h) 7 [rA 57 a,tT 60 b,tT 63 c,tF 67 d,tF 70 e,tT 75 f,tF 78 d] 124 21267647932557445040641298335310806974
         . exact mA 0 (ih _ _ h) 7 [rA 57 a,tT 60 b,tT 63 c,tF 67 d,tF 70 e,tF 75 f] 124 21267647932557445040641298335310806974
    . replace h:=qa h;rcases h with⟨d,h⟩|⟨d,h⟩
      . exact mA 0 (ih _ _ h) 7 [rA 57 a,tT 60 b,tF 63 c,tT 75 d] 124 21267647932557445040641298335310806974
      . exact mA 0 (ih _ _ h) 7 [rA 57 a,tT 60 b,tF 63 c,tF 75 d] 124 21267647932557445040641298335310806974
   . replace h:=qa h;rcases h with⟨c,h⟩|⟨c,h⟩
     . exact mA 0 (ih _ _ h) 7 [rA 57 a,tF 60 b,tT 75 c] 124 21267647932557445040641298335310806974
     . exact mA 0 (ih _ _ h) 7 [rA 57 a,tF 60 b,tF 75 c] 124 21267647932557445040641298335310806974
 |.h2 ..,h=>by
  replace h:=qa h;rcases h with⟨rfl,h⟩|⟨rfl,h⟩
  . cases h;exact mF 0 []
  . replace h:=qa h;rcases h with⟨a,h⟩|⟨a,h⟩
    . exact mA 0 (ih _ _ h) 5 [tT 39 a] 124 21267647932558653966460904168392491007
    . exact mA 0 (ih _ _ h) 5 [tF 39 a] 124 21267647932558653966460904168392491007
 |.h3 a ..,h=>by
  replace h:=qa h;rcases h with⟨rfl,h⟩|⟨rfl,h⟩
  . cases h;exact mF 0 []
  .
   replace h:=qa h;rcases h with⟨b,h⟩|⟨b,h⟩
   .
    replace h:=qa h;rcases h with⟨c,h⟩|⟨c,h⟩
    . replace h:=qa h;rcases h with⟨d,h⟩|⟨d,h⟩
      . exact mA 0 (ih _ _ h) 5 [tT 83 b,tT 90 c,tT 94 d] 124 10633823966279326983230456482242756607
      . exact mA 0 (ih _ _ h) 5 [tT 83 b,tT 90 c,tF 94 d,tF 98 (show(decide (a>=9))=false from by rw[eq_of_beq b];rfl),tF 114 (show(a==13)=false from by rw[eq_of_beq b];rfl),tF 117 (show(a==14)=false from by rw[eq_of_beq b];rfl)] 124 10633823966279326983230456482242756607
    . exact mA 0 (ih _ _ h) 5 [tT 83 b,tF 90 c,tF 98 (show(decide (a>=9))=false from by rw[eq_of_beq b];rfl),tF 114 (show(a==13)=false from by rw[eq_of_beq b];rfl),tF 117 (show(a==14)=false from by rw[eq_of_beq b];rfl)] 124 10633823966279326983230456482242756607
   .
    replace h:=qa h;rcases h with⟨c,h⟩|⟨c,h⟩
    .
     replace h:=qa h;rcases h with⟨d,h⟩|⟨d,h⟩
     . replace h:=qa h;rcases h with⟨e,h⟩|⟨e,h⟩
       . exact mA 0 (ih _ _ h) 5 [tF 83 b,tT 86 c,tT 90 d,tT 94 e] 124 10633823966279326983230456482242756607
       . exact mA 0 (ih _ _ h) 5 [tF 83 b,tT 86 c,tT 90 d,tF 94 e,tF 98 (show(decide (a>=9))=false from by rw[eq_of_beq c];rfl),tF 114 (show(a==13)=false from by rw[eq_of_beq c];rfl),tF 117 (show(a==14)=false from by rw[eq_of_beq c];rfl)] 124 10633823966279326983230456482242756607
     . exact mA 0 (ih _ _ h) 5 [tF 83 b,tT 86 c,tF 90 d,tF 98 (show(decide (a>=9))=false from by rw[eq_of_beq c];rfl),tF 114 (show(a==13)=false from by rw[eq_of_beq c];rfl),tF 117 (show(a==14)=false from by rw[eq_of_beq c];rfl)] 124 10633823966279326983230456482242756607
    .
     replace h:=qa h;rcases h with⟨d,h⟩|⟨d,h⟩
     .
      replace h:=qa h;rcases h with⟨e,h⟩|⟨e,h⟩
      .
       replace h:=qa h;rcases h with⟨f,h⟩|⟨f,h⟩
       . exact mA 0 (ih _ _ h) 5 [tF 83 b,tF 86 c,tT 98 d,tT 101 e,tT 105 f] 124 10633823966279326983230456482242756607
       .
        replace h:=qa h;rcases h with⟨g,h⟩|⟨g,h⟩
        . exact mA 0 (ih _ _ h) 5 [tF 83 b,tF 86 c,tT 98 d,tT 101 e,tF 105 f,tT 108 g] 124 10633823966279326983230456482242756607
        . replace h:=qa h;rcases h with⟨i,h⟩|⟨i,h⟩
          . exact mA 0 (ih _ _ h) 5 [tF 83 b,tF 86 c,tT 98 d,tT 101 e,tF 105 f,tF 108 g,tT 114 i] 124 10633823966279326983230456482242756607
          . replace h:=qa h;rcases h with⟨j,h⟩|⟨j,h⟩
            . exact mA 0 (ih _ _ h) 5 [tF 83 b,tF 86 c,tT 98 d,tT 101 e,tF 105 f,tF 108 g,tF 114 i,tT 117 j] 124 10633823966279326983230456482242756607
            . exact mA 0 (ih _ _ h) 5 [tF 83 b,tF 86 c,tT 98 d,tT 101 e,tF 105 f,tF 108 g,tF 114 i,tF 117 j] 124 10633823966279326983230456482242756607
      . replace h:=qa h;rcases h with⟨f,h⟩|⟨f,h⟩
        . exact mA 0 (ih _ _ h) 5 [tF 83 b,tF 86 c,tT 98 d,tF 101 e,tT 114 f] 124 10633823966279326983230456482242756607
        . replace h:=qa h;rcases h with⟨g,h⟩|⟨g,h⟩
          . exact mA 0 (ih _ _ h) 5 [tF 83 b,tF 86 c,tT 98 d,tF 101 e,tF 114 f,tT 117 g] 124 10633823966279326983230456482242756607
          . exact mA 0 (ih _ _ h) 5 [tF 83 b,tF 86 c,tT 98 d,tF 101 e,tF 114 f,tF 117 g] 124 10633823966279326983230456482242756607
     . replace h:=qa h;rcases h with⟨e,h⟩|⟨e,h⟩
       . exact mA 0 (ih _ _ h) 5 [tF 83 b,tF 86 c,tF 98 d,tT 114 e] 124 10633823966279326983230456482242756607
       . replace h:=qa h;rcases h with⟨f,h⟩|⟨f,h⟩
         . exact mA 0 (ih _ _ h) 5 [tF 83 b,tF 86 c,tF 98 d,tF 114 e,tT 117 f] 124 10633823966279326983230456482242756607
         . exact mA 0 (ih _ _ h) 5 [tF 83 b,tF 86 c,tF 98 d,tF 114 e,tF 117 f] 124 10633823966279326983230456482242756607
 |.h4 ..,h=>by
  replace h:=qa h;rcases h with⟨rfl,h⟩|⟨rfl,h⟩
  . cases h;exact mF 0 []
  . cases h;exact mF 0 []
 |.h5 ..,h=>by
  replace h:=qa h;rcases h with⟨rfl,h⟩|⟨rfl,h⟩
  . cases h;exact mF 0 []
  . cases h;exact mF 0 []
theorem ev61 {k:Nat}{a:Int}{b:Rs}{r:R61}(h:g61 k a b=some r):E61 a b r:=quq (ok61 _ _ _ h)
instance {k:Nat} {a:Int} {b:Rs}:EvI (g61 k a b) 61 [cic a,cm b] [] qu3 nB:=⟨fun r h=>ev61 h⟩
def qhG:R25->ARes
 |(a,b,c,d,e,f,g,_,_,_,_)=>.ret (.ag [ic a,ic b,.imm c,ic d,.val (.int .u64 e),ic f,ic g])
def bx25 (b0_0 b0_1:Int):R25->List (List Cell)
 |(_,_,_,_,_,_,_,a,b,c,d)=>[[ic b0_0,ic b0_1,.imm a,.imm b,.imm c,.mp d]]
noncomputable def qjZ (k:Nat)(rec:S25->Option R25):S25->Option R25
 |.e a b c d e f g=>
  ixR f (tg 19 a) fun i=>
  qvU i fun j l m n=>
  bif tg 24 (j==50)then
   ixR d (tg 32 m) fun o=>
   qvU o fun p q t u=>
   rec (tg 15 (rg [6,5] [(⟨⟨.loc 4,[]⟩,0,2⟩,none)] (.h0 p q [] 0 0 t u b c d e f g)))
  else
   bif tg 44 (j==51)then
    ixR e (tg 52 m) fun v=>
    qx5 v fun w x=>
    rec (tg 18 (rg [7,5] [(⟨⟨.loc 4,[]⟩,0,2⟩,none)] (.h1 40 w [] w x 0 0 b c d e f g)))
   else
    bif tg 59 (j==53)then
     (tg 65 (g23 k false n a b c d e f g)).bind fun y=>
     tup5 y fun z a1 b1 c1 d1=>
     (tg 66 (rec (.e z b c a1 b1 c1 d1))).bind fun e1=>
     qoG e1 fun f1 g1 i1 j1 l1 m1 n1 o1 p1 q1 t1=>
     rec (tg 19 (rg [5] [] (.h2 f1 g1 i1 j1 l1 m1 n1 b c o1 p1 q1 t1)))
    else
     bif tg 68 (j==54)then
      (tg 74 (g23 k true m a b c d e f g)).bind fun u1=>
      tup5 u1 fun v1 w1 x1 y1 z1=>
      (tg 75 (rec (.e v1 b c w1 x1 y1 z1))).bind fun a2=>
      qoG a2 fun b2 c2 d2 e2 f2 g2 i2 j2 l2 m2 n2=>
      rec (tg 22 (rg [5] [] (.h3 b2 c2 d2 e2 f2 g2 i2 b c j2 l2 m2 n2)))
     else
      (tg 80 (g60 k j l m n)).bind fun u1=>
      altC u1 (fun e1=>
        rec (tg 31 (rg [] [(⟨⟨.slot 9,[]⟩,0,0⟩,some 1),(⟨⟨.loc 8,[]⟩,0,2⟩,some 7)] (.h4 a [] e1 (e1.length:Int) 0 j 0 [] 0 0 0 0 j l m n 0 0 0 0 0 0 b c d e f g)))) (fun e1=>
        rec (tg 31 (rg [] [(⟨⟨.slot 9,[]⟩,0,0⟩,some 1),(⟨⟨.loc 8,[]⟩,0,2⟩,some 7)] (.h5 a [] e1 (e1.length:Int) 0 j 0 [] 0 0 0 0 j l m n 0 0 0 0 0 0 b c d e f g))))
 |.h0 a b c d e f g _ _ i j l m=>some (a,b,c,d,e,f,g,i,j,l,m)
 |.h1 a b c d e f g _ _ i j l m=>some (a,b,c,d,e,f,g,i,j,l,m)
 |.h2 a b c d e f g _ _ i j l m=>some (a,b,c,d,e,f,g,i,j,l,m)
 |.h3 a b c d e f g _ _ i j l m=>some (a,b,c,d,e,f,g,i,j,l,m)
 |.h4 a b c d e f g i j l m n o p q t u v w x y z a1 b1 c1 d1 e1 f1=>
  bif tg 83 (decide (e<d))then
   ixR c (tg 84 (tg 3 e)) fun g1=>
   un_i g1 fun i1=>
   (tg 90 (g23 k false i1 a a1 b1 c1 d1 e1 f1)).bind fun j1=>
   tup5 j1 fun l1 m1 n1 o1 p1=>
   (tg 91 (rec (.e l1 a1 b1 m1 n1 o1 p1))).bind fun q1=>
   qoG q1 fun t1 u1 v1 w1 x1 y1 z1 a2 b2 c2 d2=>
   gd (tg 96 (apOk 72 7 i [[ic t1,ic u1,.imm v1,ic w1,.val (.int .u64 x1),ic y1,ic z1]])) <|
   gd (tg 102 (apOk 8 1 b [[ic u1]])) <|
   rec (tg 17 (rg [12] [] (.h4 a (b++[[ic u1]]) c d (IntKind.i64.wrap (e+1)) f g (i++[[ic t1,ic u1,.imm v1,ic w1,.val (.int .u64 x1),ic y1,ic z1]]) j l m n o p q t u v w x y z a1 b1 a2 b2 c2 d2)))
  else
   rec (tg 6 (.h6 b f g i j l m n o p q t u v w x y z a1 b1 c1 d1 e1 f1))
 |.h5 a b c d e f g i j l m n o p q t u v w x y z a1 b1 c1 d1 e1 f1=>
  bif tg 83 (decide (e<d))then
   ixR c (tg 84 e) fun g1=>
   un_i g1 fun i1=>
   (tg 90 (g23 k false i1 a a1 b1 c1 d1 e1 f1)).bind fun j1=>
   tup5 j1 fun l1 m1 n1 o1 p1=>
   (tg 91 (rec (.e l1 a1 b1 m1 n1 o1 p1))).bind fun q1=>
   qoG q1 fun t1 u1 v1 w1 x1 y1 z1 a2 b2 c2 d2=>
   gd (tg 96 (apOk 72 7 i [[ic t1,ic u1,.imm v1,ic w1,.val (.int .u64 x1),ic y1,ic z1]])) <|
   gd (tg 102 (apOk 8 1 b [[ic u1]])) <|
   rec (tg 17 (rg [12] [] (.h5 a (b++[[ic u1]]) c d (IntKind.i64.wrap (e+1)) f g (i++[[ic t1,ic u1,.imm v1,ic w1,.val (.int .u64 x1),ic y1,ic z1]]) j l m n o p q t u v w x y z a1 b1 a2 b2 c2 d2)))
  else
   rec (tg 6 (.h6 b f g i j l m n o p q t u v w x y z a1 b1 c1 d1 e1 f1))
 |.h6 a b _ c d e f g i _ _ _ _ _ _ _ _ _ j l m n o p=>
  (tg 107 (tg 2 (g61 k i (qG a)))).bind fun q=>
  rec (tg 4 (rg [8,5] [] (.h7 b q (qG c) d e f g j l m n o p)))
 |.h7 a b c d e f g _ _ i j l m=>some (a,b,c,d,e,f,g,i,j,l,m)
noncomputable def g25 (k:Nat)(a b c:Int)(d e f:Rs)(g:Es):Option R25:=itS qjZ k (.e a b c d e f g)
def P25:S25->R25->Prop
 |.e a b c d e f g=>Fe Y25 qhG (bx25 b c) [pP 0,cic a] [[ic b,ic c,.imm d,.imm e,.imm f,.mp g]]
 |.h0 a b c d e f g i j l m n o=>Fk Y25 qhG (bx25 i j) [1,1,0,1,0,1,0,1,1,2] (rd 4++[pL 4]++rd 105) [(.loc 4,[ic a,ic b,.imm c,ic d,.val (.int .u64 e),ic f,ic g]),(.par 0,[ic i,ic j,.imm l,.imm m,.imm n,.mp o])]
 |.h1 a b c d e f g i j l m n o=>Fk Y25 qhG (bx25 i j) [1,1,0,1,0,1,1,1,0,1,1,2] (rd 4++[pL 4]++rd 105) [(.loc 4,[ic a,ic b,.imm c,ic d,.val (.int .u64 e),ic f,ic g]),(.par 0,[ic i,ic j,.imm l,.imm m,.imm n,.mp o])]
 |.h2 a b c d e f g i j l m n o=>Fk Y25 qhG (bx25 i j) [1,1,0,1,0,1,1,1,1,1,0,1,2] (rd 4++[pL 4]++rd 105) [(.loc 4,[ic a,ic b,.imm c,ic d,.val (.int .u64 e),ic f,ic g]),(.par 0,[ic i,ic j,.imm l,.imm m,.imm n,.mp o])]
 |.h3 a b c d e f g i j l m n o=>Fk Y25 qhG (bx25 i j) [1,1,0,1,0,1,1,1,1,1,1,1,0,1,2] (rd 4++[pL 4]++rd 105) [(.loc 4,[ic a,ic b,.imm c,ic d,.val (.int .u64 e),ic f,ic g]),(.par 0,[ic i,ic j,.imm l,.imm m,.imm n,.mp o])]
 |.h4 a b c d e f g i j l m n o p q t u v w x y z a1 b1 c1 d1 e1 f1=>Fk Y25 qhG (bx25 a1 b1) [1,1,1,1,1,0,1,0,4] ([pP 0,cic a,.deadv,.deadv,pL 4,pL 5,.deadv,.deadv,pL 8,.c (.own 1 b)]++rd 70++[.c (.own 1 c),cic d,cic e]++rd 27) [(.loc 8,[ic f,ic g,.own 7 i,ic j,.val (.int .u64 l),ic m,ic n]),(.loc 5,[ic o,ic p,ic q,ic t]),(.loc 4,[ic u,ic v,.nil,ic w,.val (.int .u64 x),ic y,ic z]),(.par 0,[ic a1,ic b1,.imm c1,.imm d1,.imm e1,.mp f1])]
 |.h5 a b c d e f g i j l m n o p q t u v w x y z a1 b1 c1 d1 e1 f1=>Fk Y25 qhG (bx25 a1 b1) [1,1,1,1,1,0,1,0,4] ([pP 0,cic a,.deadv,.deadv,pL 4,pL 5,.deadv,.deadv,pL 8,.c (.own 1 b)]++rd 70++[cm c,cic d,cic e]++rd 27) [(.loc 8,[ic f,ic g,.own 7 i,ic j,.val (.int .u64 l),ic m,ic n]),(.loc 5,[ic o,ic p,ic q,ic t]),(.loc 4,[ic u,ic v,.nil,ic w,.val (.int .u64 x),ic y,ic z]),(.par 0,[ic a1,ic b1,.imm c1,.imm d1,.imm e1,.mp f1])]
 |.h6 a b c d e f g i j l m n o p q t u v w x y z a1 b1=>Fk Y25 qhG (bx25 w x) [1,1,1,1,1,1,2] (rd 4++[pL 4,pL 5,.deadv,.deadv,pL 8,.c (.own 1 a)]++rd 100) [(.loc 8,[ic b,ic c,.own 7 d,ic e,.val (.int .u64 f),ic g,ic i]),(.loc 5,[ic j,ic l,ic m,ic n]),(.loc 4,[ic o,ic p,.nil,ic q,.val (.int .u64 t),ic u,ic v]),(.par 0,[ic w,ic x,.imm y,.imm z,.imm a1,.mp b1])]
 |.h7 a b c d e f g i j l m n o=>Fk Y25 qhG (bx25 i j) [1,1,1,1,1,1,1,1,2] (rd 4++[pL 4]++rd 105) [(.loc 4,[ic a,ic b,.imm c,ic d,.val (.int .u64 e),ic f,ic g]),(.par 0,[ic i,ic j,.imm l,.imm m,.imm n,.mp o])]
instance {a b c:Int} {d e f:Rs} {g:Es}:EvS P25 id (.e a b c d e f g) 25 [pP 0,cic a] [[ic b,ic c,.imm d,.imm e,.imm f,.mp g]] qhG (bx25 b c):=⟨fun o h v e=>evF (h v e)⟩
theorem ok25:∀ k s r,itS qjZ k s=some r->P25 s r:=okU (And.intro @qCN (And.intro @qA8 (And.intro @qx3 (And.intro @qBF trivial))))
instance {k:Nat} {a b c:Int} {d e f:Rs} {g:Es}:EvI (g25 k a b c d e f g) 25 [pP 0,cic a] [[ic b,ic c,.imm d,.imm e,.imm f,.mp g]] qhG (bx25 b c):=eI ok25
noncomputable def qbD (k:Nat)(rec:S8->Option R8):S8->Option R8
 |.e a b c d e=>
  (tg 8 (g22 k a b c d e)).bind fun f=>
  bif tg 9 (!f)then
   rec (tg 8 (rg [1] [(⟨⟨.loc 2,[]⟩,0,2⟩,none)] (.h0 false 0 0 [] 0 0 0 0)))
  else
   ixR e (tg 23 (IntKind.i64.wrap ((e.length:Int)-1))) fun g=>
   qvU g fun _ _ i _=>
   (tg 27 (g23 k false i (IntKind.i64.wrap ((e.length:Int)-1)) a b c d e [])).bind fun j=>
   tup5 j fun l m n o p=>
   (tg 30 (g24 k l a b m n o p)).bind fun q=>
   tup5 q fun t u v w x=>
   bif tg 31 (decide (t>1024))then
    rec (tg 19 (rg [14,1] [(⟨⟨.loc 2,[]⟩,0,2⟩,none)] (.h1 false 0 0 [] 0 0 0 0)))
   else
    (tg 35 (g25 k l a b u v w x)).bind fun y=>
    qoG y fun z a1 b1 c1 d1 e1 f1 _ _ _ _=>
    rec (tg 20 (rg [14,1] [] (.h2 true z a1 b1 c1 d1 e1 f1)))
 |.h0 a b c d e f g i=>some (b,c,d,e,f,g,i,a)
 |.h1 a b c d e f g i=>some (b,c,d,e,f,g,i,a)
 |.h2 a b c d e f g i=>some (b,c,d,e,f,g,i,a)
noncomputable def g8 (k:Nat)(a b:Int)(c d e:Rs):Option R8:=itS qbD k (.e a b c d e)
def P8:S8->R8->Prop
 |.e a b c d e=>Fe Y8 res7 nB [.ag [ic a,ic b,.imm c,.imm d,.imm e]] []
 |.h0 a b c d e f g i=>Fk Y8 res7 nB [1,0,1,0,1,2] ([.deadv,.deadv,pL 2,cbc a]++rd 32) [(.loc 2,[ic b,ic c,.imm d,ic e,.val (.int .u64 f),ic g,ic i])]
 |.h1 a b c d e f g i=>Fk Y8 res7 nB [1,1,1,1,1,0,1,0,1,2] ([.deadv,.deadv,pL 2,cbc a]++rd 32) [(.loc 2,[ic b,ic c,.imm d,ic e,.val (.int .u64 f),ic g,ic i])]
 |.h2 a b c d e f g i=>Fk Y8 res7 nB [1,1,1,1,1,1,1,2] ([.deadv,.deadv,pL 2,cbc a]++rd 32) [(.loc 2,[ic b,ic c,.imm d,ic e,.val (.int .u64 f),ic g,ic i])]
theorem ok8:∀ k s r,itS qbD k s=some r->P8 s r:=okU (And.intro @qx3 trivial)
instance {k:Nat} {a b:Int} {c d e:Rs}:EvI (g8 k a b c d e) 8 [.ag [ic a,ic b,.imm c,.imm d,.imm e]] [] res7 nB:=eI ok8
noncomputable def qsr (k:Nat)(rec:S26->Option R26):S26->Option R26
 |.e a b=>
  bif tg 12 ((a.length:Int)!=(b.length:Int))then
   some false
  else
   rec (tg 12 (.h0 a b (a.length:Int) 0))
 |.h0 a b c d=>
  bif tg 16 (decide (d<c))then
   ixR a (tg 20 d) fun e=>
   qvv e fun f g i j l m n=>
   ixR b (tg 24 d) fun o=>
   qvv o fun p q t u v w x=>
   bif tg 30 (f != p)then
    rec (tg 14 (rg [7,6] [] (.h1 a b c d true)))
   else
    bif tg 36 (g != q)then
     rec (tg 14 (rg [7,6] [] (.h1 a b c d true)))
    else
     bif tg 43 (!(j==u&&(l==v&&true)))then
      rec (tg 14 (rg [7,6] [] (.h1 a b c d true)))
     else
      bif tg 50 (m != w)then
       rec (tg 14 (rg [7,6] [] (.h1 a b c d true)))
      else
       bif tg 57 (n != x)then
        rec (tg 14 (rg [7,6] [] (.h1 a b c d true)))
       else
        (tg 64 (rec (.e i t))).bind fun y=>
        rec (tg 14 (rg [7,6] [] (.h1 a b c d (!y))))
  else
   some true
 |.h1 a b c d e=>
  bif e then
   some false
  else
   rec (tg 4 (.h0 a b c (IntKind.i64.wrap (d+1))))
noncomputable def g26 (k:Nat)(a b:Rs):Option R26:=itS qsr k (.e a b)
def P26:S26->R26->Prop
 |.e a b=>Fe Y26 qtJ nB [cm a,cm b] []
 |.h0 a b c d=>Fk Y26 qtJ nB [1,1,0,1,0,4] ([cm a,cm b]++rd 12++[cic c,cic d]++rd 52) []
 |.h1 a b c d e=>Fk Y26 qtJ nB [1,1,0,1,0,0,1,1,0,0,1,1,1,2] ([cm a,cm b]++rd 12++[cic c,cic d]++rd 50++[cbc e,.deadv]) []
instance {a b:Rs}:EvS P26 id (.e a b) 26 [cm a,cm b] [] qtJ nB:=⟨fun o h v e=>evF (h v e)⟩
theorem ok26:∀ k s r,itS qsr k s=some r->P26 s r:=okU (And.intro @qwF trivial)
instance {k:Nat} {a b:Rs}:EvI (g26 k a b) 26 [cm a,cm b] [] qtJ nB:=eI ok26
noncomputable def qn6 (k:Nat)(rec:S9->Option R9):S9->Option R9
 |.e a b c d e f g i j l m n o p=>
  (tg 9 (tg 2 (g26 k [[ic a,ic b,.imm c,ic d,.val (.int .u64 e),ic f,ic g]] [[ic i,ic j,.imm l,ic m,.val (.int .u64 n),ic o,ic p]]))).bind fun q=>
  some q
noncomputable def g9 (k:Nat)(a b:Int)(c:Rs)(d e f g i j:Int)(l:Rs)(m n o p:Int):Option R9:=itS qn6 k (.e a b c d e f g i j l m n o p)
def P9:S9->R9->Prop
 |.e a b c d e f g i j l m n o p=>Fe Y9 qtJ nB [.ag [ic a,ic b,.imm c,ic d,.val (.int .u64 e),ic f,ic g],.ag [ic i,ic j,.imm l,ic m,.val (.int .u64 n),ic o,ic p]] []
theorem ok9:∀ k s r,itS qn6 k s=some r->P9 s r:=okU trivial
instance {k:Nat} {a b:Int} {c:Rs} {d e f g i j:Int} {l:Rs} {m n o p:Int}:EvI (g9 k a b c d e f g i j l m n o p) 9 [.ag [ic a,ic b,.imm c,ic d,.val (.int .u64 e),ic f,ic g],.ag [ic i,ic j,.imm l,ic m,.val (.int .u64 n),ic o,ic p]] [] qtJ nB:=eI ok9
noncomputable def qon (k:Nat)(rec:S3->Option R3):S3->Option R3
 |.e a b c d e=>
  bif decide ((e.length:Int)>1500)then
   some true
  else
   (g7 k a b c d e).bind fun f=>
   tup8 f fun g i j l m n o p=>
   (g8 k a b c d e).bind fun q=>
   tup8 q fun t u v w x y z a1=>
   bif p==a1 then
    (g9 k g i j l m n o t u v w x y z).bind fun b1=>
    some b1
   else
    some false
noncomputable def g3 (k:Nat)(a b:Int)(c d e:Rs):Option R3:=itS qon k (.e a b c d e)
def P3:S3->R3->Prop
 |.e a b c d e=>Fe Y3 qtJ nB [.ag [ic a,ic b,.imm c,.imm d,.imm e]] []
abbrev E3 (a b:Int)(c d e:Rs)(r:R3):Prop:=Ev Tryz.prog noHand 3 [.ag [ic a,ic b,.imm c,.imm d,.imm e]] [] (qtJ r) (nB r)
theorem evr3 {a b:Int}{c d e:Rs}{r:R3}(h:P3 (.e a b c d e) r):E3 a b c d e r:=evF h
theorem ok3:∀ k s r,itS qon k s=some r->P3 s r:=qF fun k rec ih s r h=>match s,h with
 |.e ..,h=>by
  replace h:=qa h;rcases h with⟨a,h⟩|⟨a,h⟩
  . cases h;exact mF 0 [tT 10 a,cA 11 clAw]
  . obtain⟨_,b,h⟩:=b8 h;obtain⟨_,c,h⟩:=b8 h;replace h:=qa h;rcases h with⟨d,h⟩|⟨d,h⟩
    . replace h:=qh h;obtain⟨_,e,h⟩:=h;cases h;exact mF 0 [tF 10 a,cA 14 (evI b),cA 19 (evI c),cA 22 clAw,tT 26 d,cA 31 (evI e)]
    . cases h;exact mF 0 [tF 10 a,cA 14 (evI b),cA 19 (evI c),cA 22 clAw,tF 26 d]
theorem ev3 {k:Nat}{a b:Int}{c d e:Rs}{r:R3}(h:g3 k a b c d e=some r):E3 a b c d e r:=evr3 (ok3 _ _ _ h)
instance {k:Nat} {a b:Int} {c d e:Rs}:EvI (g3 k a b c d e) 3 [.ag [ic a,ic b,.imm c,.imm d,.imm e]] [] qtJ nB:=⟨fun r h=>ev3 h⟩
end
end Ab
end Go.Proofs.YtjnefcbeemkkeaaGreat
