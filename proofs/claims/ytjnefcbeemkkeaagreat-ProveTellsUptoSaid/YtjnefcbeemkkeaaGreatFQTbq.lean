/-
  Functions' ways, printed by a program: what each computes, and that this is what the interpreter computes.
-/
import Derived.Test.YtjnefcbeemkkeaaGreatFQTq
import Derived.Test.YtjnefcbeemkkeaaGreatBrq
import Derived.KernelRfl
set_option linter.all false
set_option maxRecDepth 10000
set_option maxHeartbeats 8000000
namespace Go.Proofs.YtjnefcbeemkkeaaGreat
namespace Ab
variable [Glob]
inductive S61 where
 |e (a:Int)(b:Rs)
 |h0 (a b:Int)(c:Bool)
 |h1 (a:Int)(b:Rs)(c:Bool)
 |h2 (a b:Int)(c:Bool)
 |h3 (a b:Int)(c:Bool)
 |h4 (a:Bool)
 |h5 (a:Bool)
abbrev R61:=Int
inductive S126 where
 |e (a:Bool)
abbrev R126:=Int×Int
inductive S77 where
 |e (a b c d:Int)(e:Bool)
 |h0 (a b:Bool)(c d e f g i:Int)
 |h1 (a b:Bool)(c d:Int)
abbrev R77:=Int×Int
inductive S174 where
 |e (a b:Int)
 |h0 (a b:Int)(c d e:Bool)
 |h1 (a:Bool)
 |h2 (a b:Int)(c d:Bool)
abbrev R174:=Int
inductive S127 where
 |e (a b c d:Int)
 |h0 (a:Bool)(b c d e:Int)
 |h1 (a b:Int)
abbrev R127:=Int
inductive S175 where
 |e (a:Int)
abbrev R175:=Bool
inductive S129 where
 |e (a b:Int)
abbrev R129:=Bool
inductive S128 where
 |e (a b:Int)
abbrev R128:=Bool
inductive S78 where
 |e (a b c d e:Int)
 |h0 (a:Int)(b c d e:Bool)(f g i j l m:Int)
 |h1 (a:Int)(b c d:Bool)(e f:Int)
abbrev R78:=Int×Int
inductive S130 where
 |e (a:Int)
abbrev R130:=Int
inductive S79 where
 |e (a b c:Int)
abbrev R79:=Int×Int
inductive S133 where
 |e (a:Int)
 |h0 (a b:Int)
 |h1 (a b c:Int)
 |h2 (a b c:Int)(d:Bool)
 |h3 (a b c:Int)
abbrev R133:=Int
inductive S134 where
 |e (a b:Int)
 |h0 (a b:Int)(c:Bool)
abbrev R134:=Int×Bool
inductive S80 where
 |e (a b c:Int)
 |h0 (a b c d e:Int)
 |h1 (a:Int)(b:Bool)(c d:Int)
 |h2 (a b c:Int)(d e:Bool)(f g:Int)
 |h3 (a b c:Int)(d e:Bool)(f g:Int)
abbrev R80:=Int×Int
inductive S45 where
 |e (a:Int)(b:Rs)
 |h0 (a:Int)(b c d:Rs)(e f g i:Int)
 |h1 (a:Int)(b c:Rs)(d:Bool)(e f:Int)
 |h2 (a:Int)(b:Bool)(c d e f g i:Int)
abbrev R45:=Int×Int
inductive S82 where
 |e (a:Rs)
abbrev R82:=Int×Int
inductive S135 where
 |e (a b:Int)(c:Bool)
 |h0 (a b:Int)(c d:Bool)
abbrev R135:=Int
inductive S83 where
 |e (a:Rs)(b:Bool)
 |h0 (a:Rs)(b:Bool)(c:Rs)(d e f g i j:Int)
 |h1 (a:Rs)(b:Bool)(c:Rs)(d e:Int)(f:Bool)(g i j l m n:Int)
 |h2 (a:Rs)(b:Bool)(c:Rs)(d e f g i j:Int)
 |h3 (a:Rs)(b:Bool)(c:Rs)(d e:Int)(f:Bool)(g i j l m n:Int)
abbrev R83:=Int×Int
inductive S48 where
 |e (a:Int)(b:Rs)
 |h0 (a:Int)(b:Rs)(c:Int)(d:Bool)(e f g i:Int)
abbrev R48:=Int×Int
inductive S16 where
 |e (a b:Int)(c:Rs)(d e f g:Int)(i j:Rs)(l:Int)
 |h0 (a b:Rs)(c:Int)(d:Bool)(e f g i:Int)(j:Rs)(l m n o:Int)
 |h1 (a b:Rs)(c:Bool)(d e f g:Int)(i:Rs)(j l m n:Int)
 |h2 (a b:Rs)(c:Int)(d:Rs)(e f g i j l:Int)(m:Rs)(n o p q:Int)
 |h3 (a b c:Rs)(d e f g i j:Int)(l:Rs)(m n o p:Int)
 |h4 (a:Rs)(b c d e:Int)(f:Rs)(g i j l:Int)
abbrev R16:=Int×Int
inductive S15 where
 |e (a b:Int)(c d e f g:Rs)(i:Int)
 |h0 (a b:Rs)(c:Int)(d e:Rs)(f g:Int)
abbrev R15:=Rs
inductive S42 where
 |e (a:Int)
 |h0 (a:Int)(b:Bool)
 |h1 (a:Bool)
abbrev R42:=Int
inductive S44 where
 |e (a:Rs)(b:Int)
 |h0 (a:Rs)(b:Int)(c:Bool)(d e:Int)
abbrev R44:=Int×Int
inductive S43 where
 |e (a b c d:Int)(e:Es)
 |h0 (a:Int)(b:Bool)(c d:Int)(e:Es)
abbrev R43:=Es
inductive S14 where
 |e (a b:Int)(c d e f:Rs)
 |h0 (a:Rs)(b c:Int)(d:Rs)(e f:Int)(g i:Es)(j l m n:Int)(o p q:Rs)
 |h1 (a:Rs)(b c:Int)(d:Rs)(e f:Int)(g i:Es)(j l m n:Int)(o p q:Rs)
abbrev R14:=Int×Int
attribute [local irreducible] cond gd ixR sxI aixS Option.bind
noncomputable section
noncomputable def qqt (k:Nat)(rec:S61->Option R61):S61->Option R61
 |.e a b=>
  bif (b.length:Int)==1 then
   ixR b 0 fun c=>
   un_i c fun d=>
   bif a==6 then
    bif d==1 then
     rec (.h0 a d true)
    else
     rec (.h0 a d (d==4))
   else
    rec (.h0 a d false)
  else
   bif (b.length:Int)!=2 then
    rec (.h1 a b true)
   else
    ixR b 0 fun e=>
    un_i e fun f=>
    ixR b 1 fun g=>
    un_i g fun i=>
    rec (.h1 a b (f != i))
 |.h0 a b c=>
  bif c then
   some b
  else
   bif a==15 then
    bif b==2 then
     rec (.h2 a b true)
    else
     rec (.h2 a b false)
   else
    bif a==17 then
     rec (.h2 a b (b==4))
    else
     rec (.h2 a b false)
 |.h1 a b c=>
  bif c then
   some 0
  else
   ixR b 0 fun d=>
   un_i d fun e=>
   bif decide (a>=1)then
    bif decide (a<=4)then
     bif e==1 then
      rec (.h3 a e true)
     else
      bif e==4 then
       rec (.h3 a e true)
      else
       bif a==5 then
        rec (.h3 a e false)
       else
        rec (.h3 a e false)
    else
     bif a==5 then
      rec (.h3 a e (e==1))
     else
      rec (.h3 a e false)
   else
    bif a==5 then
     rec (.h3 a e (e==1))
    else
     rec (.h3 a e false)
 |.h2 a b c=>
  bif c then
   some 2
  else
   bif a==16 then
    rec (.h4 (b==1))
   else
    rec (.h4 false)
 |.h3 a b c=>
  bif c then
   some b
  else
   bif a==7 then
    bif decide (b>=1)then
     bif decide (b<=4)then
      rec (.h5 true)
     else
      rec (.h5 false)
    else
     rec (.h5 false)
   else
    bif a==8 then
     bif decide (b>=1)then
      bif decide (b<=4)then
       rec (.h5 true)
      else
       rec (.h5 false)
     else
      rec (.h5 false)
    else
     bif decide (a>=9)then
      bif decide (a<=12)then
       bif b==1 then
        rec (.h5 true)
       else
        bif b==4 then
         rec (.h5 true)
        else
         bif a==13 then
          rec (.h5 (b==2))
         else
          bif a==14 then
           rec (.h5 (b==2))
          else
           rec (.h5 false)
      else
       bif a==13 then
        rec (.h5 (b==2))
       else
        bif a==14 then
         rec (.h5 (b==2))
        else
         rec (.h5 false)
     else
      bif a==13 then
       rec (.h5 (b==2))
      else
       bif a==14 then
        rec (.h5 (b==2))
       else
        rec (.h5 false)
 |.h4 a=>
  bif a then
   some 4
  else
   some 0
 |.h5 a=>
  bif a then
   some 2
  else
   some 0
noncomputable def g61 (k:Nat)(a:Int)(b:Rs):Option R61:=itS qqt k (.e a b)
def P61:S61->R61->Prop
 |.e a b=>Fe Y61 qu3 nB [cic a,cm b] []
 |.h0 a b c=>Fk Y61 qu3 nB [1,0,1,0,1,0,1,2] ([cic a]++rd 4++[cic b]++rd 16++[cbc c]++rd 101) []
 |.h1 a b c=>Fk Y61 qu3 nB [1,1,0,1,2] ([cic a,cm b]++rd 53++[cbc c]++rd 68) []
 |.h2 a b c=>Fk Y61 qu3 nB [1,0,1,0,1,1,0,1,2] ([cic a]++rd 4++[cic b]++rd 31++[cbc c]++rd 86) []
 |.h3 a b c=>Fk Y61 qu3 nB [1,1,1,1,0,1,2] ([cic a]++rd 5++[cic b]++rd 73++[cbc c]++rd 43) []
 |.h4 a=>Fk Y61 qu3 nB [1,0,1,0,1,1,1,0,1,2] (rd 43++[cbc a]++rd 80) []
 |.h5 a=>Fk Y61 qu3 nB [1,1,1,1,1,0,1,2] (rd 123++[cbc a]) []
abbrev E61 (a:Int)(b:Rs)(r:R61):Prop:=Ev Tryz.prog noHand 61 [cic a,cm b] [] (qu3 r) (nB r)
theorem quq {a:Int}{b:Rs}{r:R61}(h:P61 (.e a b) r):E61 a b r:=evF h
theorem ok61:∀ k s r,itS qqt k s=some r->P61 s r:=qF fun k rec ih s r h=>match s,h with
 |.e ..,h=>by
  replace h:=qa h;rcases h with⟨a,h⟩|⟨a,h⟩
  .
   replace h:=YJ h;obtain⟨_,b,h⟩:=h;replace h:=qoC h;obtain⟨_,rfl,h⟩:=h;replace h:=qa h;rcases h with⟨c,h⟩|⟨c,h⟩
   . replace h:=qa h;rcases h with⟨d,h⟩|⟨d,h⟩
     . exact mA 0 (ih _ _ h) 11 [tT 9 a,rA 11 b,tT 14 c,tT 17 d] 124 21267647932558653966460912964481318878
     . exact mA 0 (ih _ _ h) 11 [tT 9 a,rA 11 b,tT 14 c,tF 17 d] 124 21267647932558653966460912964481318878
   . exact mA 0 (ih _ _ h) 11 [tT 9 a,rA 11 b,tF 14 c] 124 21267647932558653966460912964481318878
  . replace h:=qa h;rcases h with⟨e,h⟩|⟨e,h⟩
    . exact mA 0 (ih _ _ h) 10 [tF 9 a,tT 46 e] 124 21267647932558653966424884167466549244
    . replace h:=YJ h;obtain⟨_,f,h⟩:=h;replace h:=qoC h;obtain⟨_,rfl,h⟩:=h;replace h:=YJ h;obtain⟨_,g,h⟩:=h;replace h:=qoC h;obtain⟨_,rfl,h⟩:=h;exact mA 0 (ih _ _ h) 10 [tF 9 a,tF 46 e,rA 49 f,rA 52 g] 124 21267647932558653966424884167466549244
 |.h0 a ..,h=>by
  replace h:=qa h;rcases h with⟨rfl,h⟩|⟨rfl,h⟩
  . cases h;exact mF 0 []
  .
   replace h:=qa h;rcases h with⟨b,h⟩|⟨b,h⟩
   . replace h:=qa h;rcases h with⟨c,h⟩|⟨c,h⟩
     . exact mA 0 (ih _ _ h) 5 [tT 25 b,tT 28 c] 124 21267647932558653966460912827046559710
     . exact mA 0 (ih _ _ h) 5 [tT 25 b,tF 28 c,tF 32 (show(a==17)=false from by rw[eq_of_beq b];rfl)] 124 21267647932558653966460912827046559710
   . replace h:=qa h;rcases h with⟨c,h⟩|⟨c,h⟩
     . exact mA 0 (ih _ _ h) 5 [tF 25 b,tT 32 c] 124 21267647932558653966460912827046559710
     . exact mA 0 (ih _ _ h) 5 [tF 25 b,tF 32 c] 124 21267647932558653966460912827046559710
 |.h1 ..,h=>by
  replace h:=qa h;rcases h with⟨rfl,h⟩|⟨rfl,h⟩
  . cases h;exact mF 0 []
  .
   replace h:=YJ h;obtain⟨_,a,h⟩:=h;replace h:=qoC h;obtain⟨_,rfl,h⟩:=h;replace h:=qa h;rcases h with⟨b,h⟩|⟨b,h⟩
   .
    replace h:=qa h;rcases h with⟨c,h⟩|⟨c,h⟩
    .
     replace h:=qa h;rcases h with⟨d,h⟩|⟨d,h⟩
     . exact mA 0 (ih _ _ h) 7 [rA 57 a,tT 60 b,tT 63 c,tT 67 d] 124 21267647932557445040641298335310806974
     . replace h:=qa h;rcases h with⟨e,h⟩|⟨e,h⟩
       . exact mA 0 (ih _ _ h) 7 [rA 57 a,tT 60 b,tT 63 c,tF 67 d,tT 70 e] 124 21267647932557445040641298335310806974
       . replace h:=qa h;rcases h with⟨f,h⟩|⟨f,h⟩
         . exact mA 0 (ih _ _ h) 7 [rA 57 a,tT 60 b,tT 63 c,tF 67 d,tF 70 e,tT 75 f,tF 78 d] 124 21267647932557445040641298335310806974
         . exact mA 0 (ih _ _ h) 7 [rA 57 a,tT 60 b,tT 63 c,tF 67 d,tF 70 e,tF 75 f] 124 21267647932557445040641298335310806974
    . replace h:=qa h;rcases h with⟨d,h⟩|⟨d,h⟩
      . exact mA 0 (ih _ _ h) 7 [rA 57 a,tT 60 b,tF 63 c,tT 75 d] 124 21267647932557445040641298335310806974
      . exact mA 0 (ih _ _ h) 7 [rA 57 a,tT 60 b,tF 63 c,tF 75 d] 124 21267647932557445040641298335310806974
   . replace h:=qa h;rcases h with⟨c,h⟩|⟨c,h⟩
     . exact mA 0 (ih _ _ h) 7 [rA 57 a,tF 60 b,tT 75 c] 124 21267647932557445040641298335310806974
     . exact mA 0 (ih _ _ h) 7 [rA 57 a,tF 60 b,tF 75 c] 124 21267647932557445040641298335310806974
 |.h2 ..,h=>by
  replace h:=qa h;rcases h with⟨rfl,h⟩|⟨rfl,h⟩
  . cases h;exact mF 0 []
  . replace h:=qa h;rcases h with⟨a,h⟩|⟨a,h⟩
    . exact mA 0 (ih _ _ h) 5 [tT 39 a] 124 21267647932558653966460904168392491007
    . exact mA 0 (ih _ _ h) 5 [tF 39 a] 124 21267647932558653966460904168392491007
 |.h3 a ..,h=>by
  replace h:=qa h;rcases h with⟨rfl,h⟩|⟨rfl,h⟩
  . cases h;exact mF 0 []
  .
   replace h:=qa h;rcases h with⟨b,h⟩|⟨b,h⟩
   .
    replace h:=qa h;rcases h with⟨c,h⟩|⟨c,h⟩
    . replace h:=qa h;rcases h with⟨d,h⟩|⟨d,h⟩
      . exact mA 0 (ih _ _ h) 5 [tT 83 b,tT 90 c,tT 94 d] 124 10633823966279326983230456482242756607
      . exact mA 0 (ih _ _ h) 5 [tT 83 b,tT 90 c,tF 94 d,tF 98 (show(decide (a>=9))=false from by rw[eq_of_beq b];rfl),tF 114 (show(a==13)=false from by rw[eq_of_beq b];rfl),tF 117 (show(a==14)=false from by rw[eq_of_beq b];rfl)] 124 10633823966279326983230456482242756607
    . exact mA 0 (ih _ _ h) 5 [tT 83 b,tF 90 c,tF 98 (show(decide (a>=9))=false from by rw[eq_of_beq b];rfl),tF 114 (show(a==13)=false from by rw[eq_of_beq b];rfl),tF 117 (show(a==14)=false from by rw[eq_of_beq b];rfl)] 124 10633823966279326983230456482242756607
   .
    replace h:=qa h;rcases h with⟨c,h⟩|⟨c,h⟩
    .
     replace h:=qa h;rcases h with⟨d,h⟩|⟨d,h⟩
     . replace h:=qa h;rcases h with⟨e,h⟩|⟨e,h⟩
       . exact mA 0 (ih _ _ h) 5 [tF 83 b,tT 86 c,tT 90 d,tT 94 e] 124 10633823966279326983230456482242756607
       . exact mA 0 (ih _ _ h) 5 [tF 83 b,tT 86 c,tT 90 d,tF 94 e,tF 98 (show(decide (a>=9))=false from by rw[eq_of_beq c];rfl),tF 114 (show(a==13)=false from by rw[eq_of_beq c];rfl),tF 117 (show(a==14)=false from by rw[eq_of_beq c];rfl)] 124 10633823966279326983230456482242756607
     . exact mA 0 (ih _ _ h) 5 [tF 83 b,tT 86 c,tF 90 d,tF 98 (show(decide (a>=9))=false from by rw[eq_of_beq c];rfl),tF 114 (show(a==13)=false from by rw[eq_of_beq c];rfl),tF 117 (show(a==14)=false from by rw[eq_of_beq c];rfl)] 124 10633823966279326983230456482242756607
    .
     replace h:=qa h;rcases h with⟨d,h⟩|⟨d,h⟩
     .
      replace h:=qa h;rcases h with⟨e,h⟩|⟨e,h⟩
      .
       replace h:=qa h;rcases h with⟨f,h⟩|⟨f,h⟩
       . exact mA 0 (ih _ _ h) 5 [tF 83 b,tF 86 c,tT 98 d,tT 101 e,tT 105 f] 124 10633823966279326983230456482242756607
       .
        replace h:=qa h;rcases h with⟨g,h⟩|⟨g,h⟩
        . exact mA 0 (ih _ _ h) 5 [tF 83 b,tF 86 c,tT 98 d,tT 101 e,tF 105 f,tT 108 g] 124 10633823966279326983230456482242756607
        . replace h:=qa h;rcases h with⟨i,h⟩|⟨i,h⟩
          . exact mA 0 (ih _ _ h) 5 [tF 83 b,tF 86 c,tT 98 d,tT 101 e,tF 105 f,tF 108 g,tT 114 i] 124 10633823966279326983230456482242756607
          . replace h:=qa h;rcases h with⟨j,h⟩|⟨j,h⟩
            . exact mA 0 (ih _ _ h) 5 [tF 83 b,tF 86 c,tT 98 d,tT 101 e,tF 105 f,tF 108 g,tF 114 i,tT 117 j] 124 10633823966279326983230456482242756607
            . exact mA 0 (ih _ _ h) 5 [tF 83 b,tF 86 c,tT 98 d,tT 101 e,tF 105 f,tF 108 g,tF 114 i,tF 117 j] 124 10633823966279326983230456482242756607
      . replace h:=qa h;rcases h with⟨f,h⟩|⟨f,h⟩
        . exact mA 0 (ih _ _ h) 5 [tF 83 b,tF 86 c,tT 98 d,tF 101 e,tT 114 f] 124 10633823966279326983230456482242756607
        . replace h:=qa h;rcases h with⟨g,h⟩|⟨g,h⟩
          . exact mA 0 (ih _ _ h) 5 [tF 83 b,tF 86 c,tT 98 d,tF 101 e,tF 114 f,tT 117 g] 124 10633823966279326983230456482242756607
          . exact mA 0 (ih _ _ h) 5 [tF 83 b,tF 86 c,tT 98 d,tF 101 e,tF 114 f,tF 117 g] 124 10633823966279326983230456482242756607
     . replace h:=qa h;rcases h with⟨e,h⟩|⟨e,h⟩
       . exact mA 0 (ih _ _ h) 5 [tF 83 b,tF 86 c,tF 98 d,tT 114 e] 124 10633823966279326983230456482242756607
       . replace h:=qa h;rcases h with⟨f,h⟩|⟨f,h⟩
         . exact mA 0 (ih _ _ h) 5 [tF 83 b,tF 86 c,tF 98 d,tF 114 e,tT 117 f] 124 10633823966279326983230456482242756607
         . exact mA 0 (ih _ _ h) 5 [tF 83 b,tF 86 c,tF 98 d,tF 114 e,tF 117 f] 124 10633823966279326983230456482242756607
 |.h4 ..,h=>by
  replace h:=qa h;rcases h with⟨rfl,h⟩|⟨rfl,h⟩
  . cases h;exact mF 0 []
  . cases h;exact mF 0 []
 |.h5 ..,h=>by
  replace h:=qa h;rcases h with⟨rfl,h⟩|⟨rfl,h⟩
  . cases h;exact mF 0 []
  . cases h;exact mF 0 []
theorem ev61 {k:Nat}{a:Int}{b:Rs}{r:R61}(h:g61 k a b=some r):E61 a b r:=quq (ok61 _ _ _ h)
instance {k:Nat} {a:Int} {b:Rs}:EvI (g61 k a b) 61 [cic a,cm b] [] qu3 nB:=⟨fun r h=>ev61 h⟩
noncomputable def qFz (k:Nat)(rec:S126->Option R126):S126->Option R126
 |.e a=>
  bif a then
   some (2,1)
  else
   some (2,0)
noncomputable def g126 (k:Nat)(a:Bool):Option R126:=itS qFz k (.e a)
def P126:S126->R126->Prop
 |.e a=>Fe Y126 qtK nB [cbc a] []
theorem qF8:∀ k s r,itS qFz k s=some r->P126 s r:=okU trivial
instance {k:Nat} {a:Bool}:EvI (g126 k a) 126 [cbc a] [] qtK nB:=eI qF8
noncomputable def qEM (k:Nat)(rec:S77->Option R77):S77->Option R77
 |.e a b c d e=>
  (tg 9 (g126 k e)).bind fun f=>
  tup2 f fun g i=>
  bif tg 10 ((a==g&&(b==i&&true)))then
   rec (tg 5 (.h0 e true 0 0 c d a b))
  else
   ag 1 14 <|
   rec (tg 5 (.h0 e (c==g&&(d==i&&true)) 0 0 c d a b))
 |.h0 a b c d e _ f ..=>
  bif b then
   (tg 18 (g126 k a)).bind fun g=>
   tup2 g fun i j=>
   some (i,j)
  else
   bif tg 21 (f != 2)then
    rec (tg 5 (rg [4,3] [] (.h1 a true c d)))
   else
    rec (tg 5 (rg [4,3] [] (.h1 a (e != 2) c d)))
 |.h1 a b ..=>
  bif b then
   some (0,0)
  else
   (tg 30 (g126 k (!a))).bind fun c=>
   tup2 c fun d e=>
   some (d,e)
noncomputable def g77 (k:Nat)(a b c d:Int)(e:Bool):Option R77:=itS qEM k (.e a b c d e)
def P77:S77->R77->Prop
 |.e a b c d e=>Fe Y77 qtK nB [.ag [ic a,.val (.int .u64 b)],.ag [ic c,.val (.int .u64 d)],cbc e] []
 |.h0 a b c d e f g i=>Fk Y77 qtK nB [1,0,1,2] ([.deadv,.deadv,cbc a,pL 3,pL 4,.deadv,pL 6]++rd 9++[cbc b]++rd 14) [(.loc 6,[ic c,.val (.int .u64 d)]),(.loc 4,[ic e,.val (.int .u64 f)]),(.loc 3,[ic g,.val (.int .u64 i)])]
 |.h1 a b c d=>Fk Y77 qtK nB [1,1,0,1,2] ([.deadv,.deadv,cbc a]++rd 3++[pL 6]++rd 19++[cbc b]++rd 4) [(.loc 6,[ic c,.val (.int .u64 d)])]
theorem ok77:∀ k s r,itS qEM k s=some r->P77 s r:=okU trivial
instance {k:Nat} {a b c d:Int} {e:Bool}:EvI (g77 k a b c d e) 77 [.ag [ic a,.val (.int .u64 b)],.ag [ic c,.val (.int .u64 d)],cbc e] [] qtK nB:=eI ok77
noncomputable def qEK (k:Nat)(rec:S174->Option R174):S174->Option R174
 |.e a b=>
  (tg 9 (g81 k a)).bind fun c=>
  (tg 11 (g81 k b)).bind fun d=>
  bif tg 14 (c==d)then
   some 0
  else
   bif tg 16 (decide (c>=9223372036854775808))then
    rec (tg 17 (.h0 c d true (decide (d>=9223372036854775808)) (decide (d>=9223372036854775808))))
   else
    rec (tg 17 (.h0 c d false (decide (d>=9223372036854775808)) false))
 |.h0 a b c d e=>
  bif e then
   rec (tg 3 (.h1 (decide (a>b))))
  else
   bif c then
    rec (tg 3 (.h2 a b c true))
   else
    rec (tg 3 (.h2 a b c d))
 |.h1 a=>
  bif a then
   some (-1)
  else
   some 1
 |.h2 a b c d=>
  bif d then
   rec (tg 3 (.h1 c))
  else
   rec (tg 3 (.h1 (decide (a<b))))
noncomputable def g174 (k:Nat)(a b:Int):Option R174:=itS qEK k (.e a b)
def P174:S174->R174->Prop
 |.e a b=>Fe Y174 qu3 nB [.c (.val (.int .u64 a)),.c (.val (.int .u64 b))] []
 |.h0 a b c d e=>Fk Y174 qu3 nB [1,1,1,1,1,0,0,1,2] ([.c (.val (.int .u64 a)),.c (.val (.int .u64 b))]++rd 3++[cbc c,cbc d]++rd 15++[cbc e]++rd 14) []
 |.h1 a=>Fk Y174 qu3 nB [1,1,1,1,1,1,2] (rd 7++[cbc a]++rd 29) []
 |.h2 a b c d=>Fk Y174 qu3 nB [1,1,1,1,1,0,0,1,1,1,2] ([.c (.val (.int .u64 a)),.c (.val (.int .u64 b))]++rd 3++[cbc c]++rd 24++[cbc d]++rd 6) []
theorem qGg:∀ k s r,itS qEK k s=some r->P174 s r:=okU trivial
instance {k:Nat} {a b:Int}:EvI (g174 k a b) 174 [.c (.val (.int .u64 a)),.c (.val (.int .u64 b))] [] qu3 nB:=eI qGg
noncomputable def qEE (k:Nat)(rec:S127->Option R127):S127->Option R127
 |.e a b c d=>
  (tg 8 (g46 k a b)).bind fun e=>
  tup2 e fun f g=>
  (tg 10 (g46 k c d)).bind fun i=>
  tup2 i fun j l=>
  bif tg 13 (f==4)then
   rec (tg 7 (.h0 (j==4) j l f g))
  else
   rec (tg 7 (.h0 false j l f g))
 |.h0 a b c d e=>
  bif a then
   (tg 23 (g174 k e c)).bind fun f=>
   some f
  else
   bif tg 34 (d != b)then
    rec (tg 9 (rg [3,2] [] (.h1 d b)))
   else
    rec (tg 9 (rg [3,2] [] (.h1 (IntKind.i64.wrap e) (IntKind.i64.wrap c))))
 |.h1 a b=>
  bif tg 41 (decide (a<b))then
   some (-1)
  else
   bif tg 44 (decide (a>b))then
    some 1
   else
    some 0
noncomputable def g127 (k:Nat)(a b c d:Int):Option R127:=itS qEE k (.e a b c d)
def P127:S127->R127->Prop
 |.e a b c d=>Fe Y127 qu3 nB [.ag [ic a,.val (.int .u64 b)],.ag [ic c,.val (.int .u64 d)]] []
 |.h0 a b c d e=>Fk Y127 qu3 nB [1,1,0,1,2] ([.deadv,.deadv,pL 2,pL 3]++rd 14++[cbc a]++rd 26) [(.loc 3,[ic b,.val (.int .u64 c)]),(.loc 2,[ic d,.val (.int .u64 e)])]
 |.h1 a b=>Fk Y127 qu3 nB [1,1,1,1,1,2] (rd 5++[cic a,cic b]++rd 38) []
theorem qF9:∀ k s r,itS qEE k s=some r->P127 s r:=okU trivial
instance {k:Nat} {a b c d:Int}:EvI (g127 k a b c d) 127 [.ag [ic a,.val (.int .u64 b)],.ag [ic c,.val (.int .u64 d)]] [] qu3 nB:=eI qF9
noncomputable def qFc (k:Nat)(rec:S175->Option R175):S175->Option R175
 |.e a=>
  bif tg 4 (a==0)then
   some true
  else
   some (a==9223372036854775808)
noncomputable def g175 (k:Nat)(a:Int):Option R175:=itS qFc k (.e a)
def P175:S175->R175->Prop
 |.e a=>Fe Y175 qtJ nB [.c (.val (.int .u64 a))] []
theorem qGh:∀ k s r,itS qFc k s=some r->P175 s r:=okU trivial
instance {k:Nat} {a:Int}:EvI (g175 k a) 175 [.c (.val (.int .u64 a))] [] qtJ nB:=eI qGh
noncomputable def qFb (k:Nat)(rec:S129->Option R129):S129->Option R129
 |.e a b=>
  (tg 6 (g131 k a)).bind fun c=>
  bif tg 7 (!c)then
   (tg 10 (g131 k b)).bind fun d=>
   bif tg 11 (!d)then
    bif tg 16 (a==b)then
     some true
    else
     (tg 19 (g175 k a)).bind fun e=>
     bif e then
      (tg 22 (g175 k b)).bind fun f=>
      some f
     else
      some false
   else
    some false
  else
   some false
noncomputable def g129 (k:Nat)(a b:Int):Option R129:=itS qFb k (.e a b)
def P129:S129->R129->Prop
 |.e a b=>Fe Y129 qtJ nB [.c (.val (.int .u64 a)),.c (.val (.int .u64 b))] []
theorem qGb:∀ k s r,itS qFb k s=some r->P129 s r:=okU trivial
instance {k:Nat} {a b:Int}:EvI (g129 k a b) 129 [.c (.val (.int .u64 a)),.c (.val (.int .u64 b))] [] qtJ nB:=eI qGb
noncomputable def qFa (k:Nat)(rec:S128->Option R128):S128->Option R128
 |.e a b=>
  (tg 6 (g131 k a)).bind fun c=>
  bif tg 7 (!c)then
   (tg 10 (g131 k b)).bind fun d=>
   bif tg 11 (!d)then
    (tg 16 (g129 k a b)).bind fun e=>
    bif tg 17 (!e)then
     (tg 22 (g174 k a b)).bind fun f=>
     some (decide (f<0))
    else
     some false
   else
    some false
  else
   some false
noncomputable def g128 (k:Nat)(a b:Int):Option R128:=itS qFa k (.e a b)
def P128:S128->R128->Prop
 |.e a b=>Fe Y128 qtJ nB [.c (.val (.int .u64 a)),.c (.val (.int .u64 b))] []
theorem qGa:∀ k s r,itS qFa k s=some r->P128 s r:=okU trivial
instance {k:Nat} {a b:Int}:EvI (g128 k a b) 128 [.c (.val (.int .u64 a)),.c (.val (.int .u64 b))] [] qtJ nB:=eI qGa
noncomputable def qEQ (k:Nat)(rec:S78->Option R78):S78->Option R78
 |.e a b c d e=>
  (g127 k b c d e).bind fun f=>
  bif !(decide (f<0))then
   rec (.h0 a (decide (f<0)) (b==d&&(c==e&&true)) (!(b==d&&(c==e&&true))) (b==4) 0 0 d e b c)
  else
   rec (.h0 a (decide (f<0)) (b==d&&(c==e&&true)) false (b==4) 0 0 d e b c)
 |.h0 a b c d e f g _ i _ j=>
  bif e then
   (g128 k j i).bind fun l=>
   (g129 k j i).bind fun m=>
   (g128 k i j).bind fun n=>
   rec (.h1 a l m n f g)
  else
   rec (.h1 a b c d f g)
 |.h1 a b c d ..=>
  bif a==7 then
   bif c then
    (g126 k true).bind fun e=>
    tup2 e fun f g=>
    some (f,g)
   else
    (g126 k false).bind fun e=>
    tup2 e fun f g=>
    some (f,g)
  else
   bif a==8 then
    bif !c then
     (g126 k true).bind fun i=>
     tup2 i fun j l=>
     some (j,l)
    else
     (g126 k false).bind fun i=>
     tup2 i fun j l=>
     some (j,l)
   else
    bif a==9 then
     bif b then
      (g126 k true).bind fun i=>
      tup2 i fun j l=>
      some (j,l)
     else
      (g126 k false).bind fun i=>
      tup2 i fun j l=>
      some (j,l)
    else
     bif a==10 then
      bif b then
       (g126 k true).bind fun m=>
       tup2 m fun n o=>
       some (n,o)
      else
       bif c then
        (g126 k true).bind fun m=>
        tup2 m fun n o=>
        some (n,o)
       else
        (g126 k false).bind fun m=>
        tup2 m fun n o=>
        some (n,o)
     else
      bif a==11 then
       bif d then
        (g126 k true).bind fun p=>
        tup2 p fun q t=>
        some (q,t)
       else
        (g126 k false).bind fun p=>
        tup2 p fun q t=>
        some (q,t)
      else
       bif a==12 then
        bif d then
         (g126 k true).bind fun u=>
         tup2 u fun v w=>
         some (v,w)
        else
         (g126 k c).bind fun u=>
         tup2 u fun v w=>
         some (v,w)
       else
        (g126 k false).bind fun u=>
        tup2 u fun v w=>
        some (v,w)
noncomputable def g78 (k:Nat)(a b c d e:Int):Option R78:=itS qEQ k (.e a b c d e)
def P78:S78->R78->Prop
 |.e a b c d e=>Fe Y78 qtK nB [cic a,.ag [ic b,.val (.int .u64 c)],.ag [ic d,.val (.int .u64 e)]] []
 |.h0 a b c d e f g i j l m=>Fk Y78 qtK nB [1,1,1,0,1,2] ([cic a]++rd 3++[pL 4,pL 5,pL 6,cbc b,cbc c,cbc d]++rd 15++[cbc e]++rd 63) [(.loc 6,[ic f,.val (.int .u64 g)]),(.loc 5,[ic i,.val (.int .u64 j)]),(.loc 4,[ic l,.val (.int .u64 m)])]
 |.h1 a b c d e f=>Fk Y78 qtK nB [1,1,1,1,2] ([cic a]++rd 5++[pL 6,cbc b,cbc c,cbc d]++rd 79) [(.loc 6,[ic e,.val (.int .u64 f)])]
abbrev E78 (a b c d e:Int)(r:R78):Prop:=Ev Tryz.prog noHand 78 [cic a,.ag [ic b,.val (.int .u64 c)],.ag [ic d,.val (.int .u64 e)]] [] (qtK r) (nB r)
theorem qc8 {a b c d e:Int}{r:R78}(h:P78 (.e a b c d e) r):E78 a b c d e r:=evF h
theorem ok78:∀ k s r,itS qEQ k s=some r->P78 s r:=qF fun k rec ih s r h=>match s,h with
 |.e ..,h=>by
  replace h:=qh h;obtain⟨_,a,h⟩:=h;replace h:=qa h;rcases h with⟨b,h⟩|⟨b,h⟩
  . exact mA 0 (ih _ _ h) 9 [cA 12 (evI a),tT 18 b] 89 618970019642690137416006670
  . exact mA 0 (ih _ _ h) 9 [cA 12 (evI a),tF 18 b] 89 618970019642690137416006670
 |.h0 ..,h=>by
  replace h:=qa h;rcases h with⟨rfl,h⟩|⟨rfl,h⟩
  . replace h:=qh h;obtain⟨_,a,h⟩:=h;replace h:=qh h;obtain⟨_,b,h⟩:=h;replace h:=qh h;obtain⟨_,c,h⟩:=h;exact mG 0 (ih _ _ h) 2 [cA 30 (evI a),cA 35 (evI b),cA 40 (evI c)] 89 618970019642690137449561150 [5,4] []
  . exact mG 0 (ih _ _ h) 2 [] 89 618970019642690137449561150 [5,4] []
 |.h1 a ..,h=>by
  replace h:=qa h;rcases h with⟨b,h⟩|⟨b,h⟩
  . replace h:=qa h;rcases h with⟨rfl,h⟩|⟨rfl,h⟩
    . obtain⟨_,c,h⟩:=b2 h;cases h;exact mF 0 [tT 42 b,cA 88 (evI c)]
    . obtain⟨_,c,h⟩:=b2 h;cases h;exact mF 0 [tT 42 b,tF 48 (show(a==8)=false from by rw[eq_of_beq b];rfl),tF 56 (show(a==9)=false from by rw[eq_of_beq b];rfl),tF 63 (show(a==10)=false from by rw[eq_of_beq b];rfl),tF 73 (show(a==11)=false from by rw[eq_of_beq b];rfl),tF 80 (show(a==12)=false from by rw[eq_of_beq b];rfl),cA 88 (evI c)]
  .
   replace h:=qa h;rcases h with⟨d,h⟩|⟨d,h⟩
   . replace h:=qa h;rcases h with⟨c,h⟩|⟨c,h⟩
     . obtain⟨_,e,h⟩:=b2 h;cases h;exact mF 0 [tF 42 b,tT 48 d,tT 51 c,cA 88 (evI e)]
     . obtain⟨_,e,h⟩:=b2 h;cases h;exact mF 0 [tF 42 b,tT 48 d,tF 51 c,tF 56 (show(a==9)=false from by rw[eq_of_beq d];rfl),tF 63 (show(a==10)=false from by rw[eq_of_beq d];rfl),tF 73 (show(a==11)=false from by rw[eq_of_beq d];rfl),tF 80 (show(a==12)=false from by rw[eq_of_beq d];rfl),cA 88 (evI e)]
   .
    replace h:=qa h;rcases h with⟨c,h⟩|⟨c,h⟩
    . replace h:=qa h;rcases h with⟨rfl,h⟩|⟨rfl,h⟩
      . obtain⟨_,e,h⟩:=b2 h;cases h;exact mF 0 [tF 42 b,tF 48 d,tT 56 c,cA 88 (evI e)]
      . obtain⟨_,e,h⟩:=b2 h;cases h;exact mF 0 [tF 42 b,tF 48 d,tT 56 c,tF 63 (show(a==10)=false from by rw[eq_of_beq c];rfl),tF 73 (show(a==11)=false from by rw[eq_of_beq c];rfl),tF 80 (show(a==12)=false from by rw[eq_of_beq c];rfl),cA 88 (evI e)]
    .
     replace h:=qa h;rcases h with⟨f,h⟩|⟨f,h⟩
     . replace h:=qa h;rcases h with⟨rfl,h⟩|⟨rfl,h⟩
       . obtain⟨_,g,h⟩:=b2 h;cases h;exact mF 0 [tF 42 b,tF 48 d,tF 56 c,tT 63 f,cA 88 (evI g)]
       . replace h:=qa h;rcases h with⟨rfl,h⟩|⟨rfl,h⟩
         . obtain⟨_,g,h⟩:=b2 h;cases h;exact mF 0 [tF 42 b,tF 48 d,tF 56 c,tT 63 f,cA 88 (evI g)]
         . obtain⟨_,g,h⟩:=b2 h;cases h;exact mF 0 [tF 42 b,tF 48 d,tF 56 c,tT 63 f,tF 73 (show(a==11)=false from by rw[eq_of_beq f];rfl),tF 80 (show(a==12)=false from by rw[eq_of_beq f];rfl),cA 88 (evI g)]
     .
      replace h:=qa h;rcases h with⟨e,h⟩|⟨e,h⟩
      . replace h:=qa h;rcases h with⟨rfl,h⟩|⟨rfl,h⟩
        . obtain⟨_,i,h⟩:=b2 h;cases h;exact mF 0 [tF 42 b,tF 48 d,tF 56 c,tF 63 f,tT 73 e,cA 88 (evI i)]
        . obtain⟨_,i,h⟩:=b2 h;cases h;exact mF 0 [tF 42 b,tF 48 d,tF 56 c,tF 63 f,tT 73 e,tF 80 (show(a==12)=false from by rw[eq_of_beq e];rfl),cA 88 (evI i)]
      . replace h:=qa h;rcases h with⟨g,h⟩|⟨g,h⟩
        . replace h:=qa h;rcases h with⟨rfl,h⟩|⟨rfl,h⟩
          . obtain⟨_,j,h⟩:=b2 h;cases h;exact mF 0 [tF 42 b,tF 48 d,tF 56 c,tF 63 f,tF 73 e,tT 80 g,cA 88 (evI j)]
          . obtain⟨_,j,h⟩:=b2 h;cases h;exact mF 0 [tF 42 b,tF 48 d,tF 56 c,tF 63 f,tF 73 e,tT 80 g,cA 88 (evI j)]
        . obtain⟨_,j,h⟩:=b2 h;cases h;exact mF 0 [tF 42 b,tF 48 d,tF 56 c,tF 63 f,tF 73 e,tF 80 g,cA 88 (evI j)]
theorem ev78 {k:Nat}{a b c d e:Int}{r:R78}(h:g78 k a b c d e=some r):E78 a b c d e r:=qc8 (ok78 _ _ _ h)
instance {k:Nat} {a b c d e:Int}:EvI (g78 k a b c d e) 78 [cic a,.ag [ic b,.val (.int .u64 c)],.ag [ic d,.val (.int .u64 e)]] [] qtK nB:=⟨fun r h=>ev78 h⟩
noncomputable def qEX (k:Nat)(rec:S130->Option R130):S130->Option R130
 |.e a=>
  (tg 4 (g131 k a)).bind fun b=>
  bif b then
   some 9221120237041090560
  else
   bif tg 6 (decide (a>=9223372036854775808))then
    some (IntKind.u64.wrap (a-9223372036854775808))
   else
    some (IntKind.u64.wrap (a+9223372036854775808))
noncomputable def g130 (k:Nat)(a:Int):Option R130:=itS qEX k (.e a)
def P130:S130->R130->Prop
 |.e a=>Fe Y130 qsg nB [.c (.val (.int .u64 a))] []
theorem qGc:∀ k s r,itS qEX k s=some r->P130 s r:=okU trivial
instance {k:Nat} {a:Int}:EvI (g130 k a) 130 [.c (.val (.int .u64 a))] [] qsg nB:=eI qGc
noncomputable def qE6 (k:Nat)(rec:S79->Option R79):S79->Option R79
 |.e a b c=>
  bif tg 9 (a==6)then
   (tg 11 (g130 k b)).bind fun d=>
   some (4,d)
  else
   bif tg 14 (a==17)then
    (tg 16 (g131 k b)).bind fun e=>
    (tg 17 (g126 k e)).bind fun f=>
    tup2 f fun g i=>
    some (g,i)
   else
    (tg 21 (doX a b c)).bind fun e=>
    some (4,e)
noncomputable def g79 (k:Nat)(a b c:Int):Option R79:=itS qE6 k (.e a b c)
def P79:S79->R79->Prop
 |.e a b c=>Fe Y79 qtK nB [cic a,.c (.val (.int .u64 b)),.c (.val (.int .u64 c))] []
theorem ok79:∀ k s r,itS qE6 k s=some r->P79 s r:=okU trivial
instance {k:Nat} {a b c:Int}:EvI (g79 k a b c) 79 [cic a,.c (.val (.int .u64 b)),.c (.val (.int .u64 c))] [] qtK nB:=eI ok79
noncomputable def qEB (k:Nat)(rec:S133->Option R133):S133->Option R133
 |.e a=>
  bif tg 9 (a==0)then
   some 0
  else
   bif tg 13 (decide (a<0))then
    rec (tg 14 (.h0 (IntKind.u64.wrap ((0:Int)-(IntKind.u64.wrap a))) 9223372036854775808))
   else
    rec (tg 14 (.h0 (IntKind.u64.wrap a) 0))
 |.h0 a b=>rec (tg 5 (.h1 a b 63))
 |.h1 a b c=>
  bif tg 18 ((Int.fdiv a (2 ^ 63))==0)then
   rec (tg 11 (.h1 (IntKind.u64.wrap (a*2 ^ 1)) b (IntKind.i64.wrap (c-1))))
  else
   bif tg 28 (decide ((IntKind.u64.wrap ((BitVec.ofInt 64 a &&& BitVec.ofInt 64 2047).toNat:Int))>1024))then
    rec (tg 11 (.h2 b c (Int.fdiv a (2 ^ 11)) true))
   else
    bif tg 31 ((IntKind.u64.wrap ((BitVec.ofInt 64 a &&& BitVec.ofInt 64 2047).toNat:Int))==1024)then
     rec (tg 11 (.h2 b c (Int.fdiv a (2 ^ 11)) ((IntKind.u64.wrap ((BitVec.ofInt 64 (Int.fdiv a (2 ^ 11)) &&& BitVec.ofInt 64 1).toNat:Int))==1)))
    else
     rec (tg 11 (.h2 b c (Int.fdiv a (2 ^ 11)) false))
 |.h2 a b c d=>
  bif d then
   rec (tg 2 (.h3 a b (IntKind.u64.wrap (c+1))))
  else
   rec (tg 2 (.h3 a b c))
 |.h3 a b c=>some (IntKind.u64.wrap ((IntKind.u64.wrap (a+(IntKind.u64.wrap ((IntKind.u64.wrap (IntKind.i64.wrap ((1022:Int)+b)))*2 ^ 52))))+c))
noncomputable def g133 (k:Nat)(a:Int):Option R133:=itS qEB k (.e a)
def P133:S133->R133->Prop
 |.e a=>Fe Y133 qsg nB [cic a] []
 |.h0 a b=>Fk Y133 qsg nB [1,1,1,1,2] (rd 3++[.c (.val (.int .u64 a)),.c (.val (.int .u64 b))]++rd 43) []
 |.h1 a b c=>Fk Y133 qsg nB [1,1,1,1,1,0,0,4] (rd 3++[.c (.val (.int .u64 a)),.c (.val (.int .u64 b)),cic c]++rd 42) []
 |.h2 a b c d=>Fk Y133 qsg nB [1,1,1,1,1,1,1,0,1,2] (rd 4++[.c (.val (.int .u64 a)),cic b,.deadv,.c (.val (.int .u64 c))]++rd 29++[cbc d]++rd 10) []
 |.h3 a b c=>Fk Y133 qsg nB [1,1,1,1,1,1,1,1,2] (rd 4++[.c (.val (.int .u64 a)),cic b,.deadv,.c (.val (.int .u64 c))]++rd 40) []
theorem qGd:∀ k s r,itS qEB k s=some r->P133 s r:=okU trivial
instance {k:Nat} {a:Int}:EvI (g133 k a) 133 [cic a] [] qsg nB:=eI qGd
def qFx:R134->ARes
 |(a,b)=>.ret ⟨.tup [false,false],[[ic a],[bc b]]⟩
noncomputable def qEH (k:Nat)(rec:S134->Option R134):S134->Option R134
 |.e a b=>
  bif tg 8 (a==0)then
   rec (tg 5 (.h0 a b true))
  else
   rec (tg 5 (.h0 a b (b==0)))
 |.h0 a b c=>
  bif c then
   some (0,true)
  else
   bif tg 14 (a==(-1))then
    some (IntKind.i64.wrap ((0:Int)-b),b != (-9223372036854775808))
   else
    bif tg 20 (b==(-1))then
     some (IntKind.i64.wrap ((0:Int)-a),a != (-9223372036854775808))
    else
     gd (tg 31 (tg 1 (decide (b≠0)))) <|
     bif tg 33 ((IntKind.i64.wrap (Int.tdiv (IntKind.i64.wrap (a*b)) b))==a)then
      bif tg 36 ((IntKind.i64.wrap (a*b))!=(-9223372036854775808))then
       some (IntKind.i64.wrap (a*b),true)
      else
       some (IntKind.i64.wrap (a*b),(decide (a<0))!=(decide (b<0)))
     else
      some (IntKind.i64.wrap (a*b),false)
noncomputable def g134 (k:Nat)(a b:Int):Option R134:=itS qEH k (.e a b)
def P134:S134->R134->Prop
 |.e a b=>Fe Y134 qFx nB [cic a,cic b] []
 |.h0 a b c=>Fk Y134 qFx nB [1,0,1,2] ([cic a,cic b]++rd 10++[cbc c]++rd 32) []
theorem qGe:∀ k s r,itS qEH k s=some r->P134 s r:=okU trivial
instance {k:Nat} {a b:Int}:EvI (g134 k a b) 134 [cic a,cic b] [] qFx nB:=eI qGe
noncomputable def qq5 (k:Nat)(rec:S80->Option R80):S80->Option R80
 |.e a b c=>
  bif tg 11 (a==15)then
   (tg 14 (g126 k (b==0))).bind fun d=>
   tup2 d fun e f=>
   some (e,f)
  else
   bif tg 16 (a==16)then
    (tg 18 (g133 k b)).bind fun g=>
    some (4,g)
   else
    bif tg 21 (a==6)then
     rec (tg 17 (.h0 2 0 b 0 0))
    else
     rec (tg 17 (.h0 a b c 0 0))
 |.h0 a b c d e=>
  bif tg 25 (a==1)then
   bif tg 30 (decide (c>=0))then
    bif tg 35 (decide (b<=(IntKind.i64.wrap ((9223372036854775807:Int)-c))))then
     rec (tg 11 (.h1 (IntKind.i64.wrap (b+c)) true d e))
    else
     bif tg 39 (decide (c<0))then
      rec (tg 11 (.h1 (IntKind.i64.wrap (b+c)) (decide (b>=(IntKind.i64.wrap (((-9223372036854775808):Int)-c)))) d e))
     else
      rec (tg 11 (.h1 (IntKind.i64.wrap (b+c)) false d e))
   else
    bif tg 39 (decide (c<0))then
     rec (tg 11 (.h1 (IntKind.i64.wrap (b+c)) (decide (b>=(IntKind.i64.wrap (((-9223372036854775808):Int)-c)))) d e))
    else
     rec (tg 11 (.h1 (IntKind.i64.wrap (b+c)) false d e))
  else
   bif tg 48 (a==2)then
    bif tg 53 (decide (c>=0))then
     bif tg 58 (decide (b>=(IntKind.i64.wrap (((-9223372036854775808):Int)+c))))then
      rec (tg 14 (.h1 (IntKind.i64.wrap (b-c)) true d e))
     else
      bif tg 62 (decide (c<0))then
       rec (tg 14 (.h1 (IntKind.i64.wrap (b-c)) (decide (b<=(IntKind.i64.wrap ((9223372036854775807:Int)+c)))) d e))
      else
       rec (tg 14 (.h1 (IntKind.i64.wrap (b-c)) false d e))
    else
     bif tg 62 (decide (c<0))then
      rec (tg 14 (.h1 (IntKind.i64.wrap (b-c)) (decide (b<=(IntKind.i64.wrap ((9223372036854775807:Int)+c)))) d e))
     else
      rec (tg 14 (.h1 (IntKind.i64.wrap (b-c)) false d e))
   else
    bif tg 71 (a==3)then
     (tg 75 (g134 k b c)).bind fun f=>
     tup2 f fun g i=>
     rec (tg 17 (.h1 g i d e))
    else
     bif tg 79 (a==4)then
      bif tg 81 (c != 0)then
       bif tg 84 (c != (-1))then
        rec (tg 22 (.h2 b c 0 true true d e))
       else
        rec (tg 22 (.h2 b c 0 (b != (-9223372036854775808)) (b != (-9223372036854775808)) d e))
      else
       rec (tg 22 (.h2 b c 0 false false d e))
     else
      bif tg 95 (a==5)then
       bif tg 97 (c != 0)then
        rec (tg 25 (.h3 b c 0 true (c != (-1)) d e))
       else
        rec (tg 25 (.h3 b c 0 false false d e))
      else
       rec (tg 23 (.h1 0 false d e))
 |.h1 a b ..=>
  bif tg 107 (!b)then
   some (0,0)
  else
   some (1,IntKind.u64.wrap a)
 |.h2 a b c d e f g=>
  bif e then
   gd (tg 93 (tg 1 (decide (b≠0)))) <|
   rec (tg 3 (.h1 (IntKind.i64.wrap (Int.tdiv a b)) d f g))
  else
   rec (tg 3 (.h1 c d f g))
 |.h3 a b c d e f g=>
  bif e then
   gd (tg 105 (tg 1 (decide (b≠0)))) <|
   rec (tg 3 (.h1 (Int.tmod a b) d f g))
  else
   rec (tg 3 (.h1 c d f g))
noncomputable def g80 (k:Nat)(a b c:Int):Option R80:=itS qq5 k (.e a b c)
def P80:S80->R80->Prop
 |.e a b c=>Fe Y80 qtK nB [cic a,cic b,cic c] []
 |.h0 a b c d e=>Fk Y80 qtK nB [1,1,2] ([cic a,cic b,cic c]++rd 3++[pL 6]++rd 105) [(.loc 6,[ic d,.val (.int .u64 e)])]
 |.h1 a b c d=>Fk Y80 qtK nB [1,1,1,1,2] (rd 6++[pL 6,cic a,cbc b]++rd 103) [(.loc 6,[ic c,.val (.int .u64 d)])]
 |.h2 a b c d e f g=>Fk Y80 qtK nB [1,1,1,0,1,0,1,1,1,1,1,1,1,0,1,1,2] ([.deadv,cic a,cic b]++rd 3++[pL 6,cic c,cbc d]++rd 81++[cbc e]++rd 21) [(.loc 6,[ic f,.val (.int .u64 g)])]
 |.h3 a b c d e f g=>Fk Y80 qtK nB [1,1,1,0,1,0,1,1,1,1,1,1,1,1,1,0,1,1,2] ([.deadv,cic a,cic b]++rd 3++[pL 6,cic c,cbc d]++rd 93++[cbc e]++rd 9) [(.loc 6,[ic f,.val (.int .u64 g)])]
theorem ok80:∀ k s r,itS qq5 k s=some r->P80 s r:=okU trivial
instance {k:Nat} {a b c:Int}:EvI (g80 k a b c) 80 [cic a,cic b,cic c] [] qtK nB:=eI ok80
noncomputable def qED (k:Nat)(rec:S45->Option R45):S45->Option R45
 |.e a b=>rec (tg 11 (rg [] [(⟨⟨.slot 5,[]⟩,0,0⟩,some 2),(⟨⟨.slot 6,[]⟩,0,0⟩,some 1)] (.h0 a [] [] b (b.length:Int) 0 0 0)))
 |.h0 a b c d e f g i=>
  bif tg 16 (decide (f<e))then
   ixR d (tg 17 f) fun j=>
   qx5 j fun l m=>
   (tg 20 (g46 k l m)).bind fun n=>
   tup2 n fun o p=>
   gd (tg 24 (apOk 16 2 b [[ic o,.val (.int .u64 p)]])) <|
   gd (tg 29 (apOk 8 1 c [[ic o]])) <|
   rec (tg 17 (rg [9,8] [] (.h0 a (b++[[ic o,.val (.int .u64 p)]]) (c++[[ic o]]) d e (IntKind.i64.wrap (f+1)) g i)))
  else
   bif tg 33 ((b.length:Int)==2)then
    bif tg 36 (a==13)then
     rec (tg 9 (.h1 a b c true g i))
    else
     rec (tg 9 (.h1 a b c (a==14) g i))
   else
    rec (tg 9 (.h1 a b c false g i))
 |.h1 a b c d e f=>
  bif d then
   ixR b (tg 43 (tg 3 0)) fun g=>
   qx5 g fun i j=>
   ixR b (tg 46 (tg 3 1)) fun l=>
   qx5 l fun m n=>
   (tg 50 (g77 k i j m n (a==14))).bind fun o=>
   tup2 o fun p q=>
   some (p,q)
  else
   (tg 53 (tg 2 (g61 k a (qG c)))).bind fun t=>
   bif tg 55 (t==0)then
    some (0,0)
   else
    ixR b (tg 58 (tg 3 0)) fun l=>
    qx5 l fun m n=>
    ixR b (tg 64 (tg 3 (IntKind.i64.wrap ((b.length:Int)-1)))) fun u=>
    qx5 u fun v w=>
    bif tg 67 (decide (a>=7))then
     rec (tg 14 (.h2 a (decide (a<=12)) v w m n e f))
    else
     rec (tg 14 (.h2 a false v w m n e f))
 |.h2 a b c d e f ..=>
  bif b then
   (tg 75 (g78 k a e f c d)).bind fun g=>
   tup2 g fun i j=>
   some (i,j)
  else
   bif tg 78 (e==4)then
    (tg 84 (g79 k a f d)).bind fun l=>
    tup2 l fun m n=>
    some (m,n)
   else
    (tg 92 (g80 k a (IntKind.i64.wrap f) (IntKind.i64.wrap d))).bind fun l=>
    tup2 l fun m n=>
    some (m,n)
noncomputable def g45 (k:Nat)(a:Int)(b:Rs):Option R45:=itS qED k (.e a b)
def P45:S45->R45->Prop
 |.e a b=>Fe Y45 qtK nB [cic a,cm b] []
 |.h0 a b c d e f g i=>Fk Y45 qtK nB [1,1,1,0,1,0,4] ([cic a]++rd 3++[pL 4,.c (.own 2 b),.c (.own 1 c)]++rd 6++[cm d,cic e,cic f]++rd 77) [(.loc 4,[ic g,.val (.int .u64 i)])]
 |.h1 a b c d e f=>Fk Y45 qtK nB [1,1,1,1,0,1,2] ([cic a]++rd 3++[pL 4,.c (.own 2 b),.c (.own 1 c)]++rd 34++[cbc d]++rd 51) [(.loc 4,[ic e,.val (.int .u64 f)])]
 |.h2 a b c d e f g i=>Fk Y45 qtK nB [1,1,1,1,1,1,1,1,0,1,2] ([cic a]++rd 3++[pL 4]++rd 6++[pL 11,pL 12]++rd 58++[cbc b]++rd 21) [(.loc 12,[ic c,.val (.int .u64 d)]),(.loc 11,[ic e,.val (.int .u64 f)]),(.loc 4,[ic g,.val (.int .u64 i)])]
theorem ok45:∀ k s r,itS qED k s=some r->P45 s r:=okU (And.intro @qFO (And.intro @qBF trivial))
instance {k:Nat} {a:Int} {b:Rs}:EvI (g45 k a b) 45 [cic a,cm b] [] qtK nB:=eI ok45
noncomputable def qp2 (k:Nat)(rec:S82->Option R82):S82->Option R82
 |.e a=>
  bif tg 5 ((a.length:Int)==1)then
   ixR a (tg 7 0) fun b=>
   qx5 b fun c d=>
   some (c,d)
  else
   gd (tg 13 (tg 2 (slOk 0 (IntKind.i64.wrap ((a.length:Int)-1)) a 2))) <|
   (tg 14 (rec (.e (List.drop (Int.toNat 0) (List.take (Int.toNat (IntKind.i64.wrap ((a.length:Int)-1))) a))))).bind fun e=>
   tup2 e fun f g=>
   ixR a (tg 19 (IntKind.i64.wrap ((a.length:Int)-1))) fun i=>
   qx5 i fun j l=>
   (tg 22 (tg 2 (g45 k 1 [[ic f,.val (.int .u64 g)],[ic j,.val (.int .u64 l)]]))).bind fun m=>
   tup2 m fun n o=>
   some (n,o)
noncomputable def g82 (k:Nat)(a:Rs):Option R82:=itS qp2 k (.e a)
def P82:S82->R82->Prop
 |.e a=>Fe Y82 qtK nB [cm a] []
instance {a:Rs}:EvS P82 id (.e a) 82 [cm a] [] qtK nB:=⟨fun o h v e=>evF (h v e)⟩
theorem ok82:∀ k s r,itS qp2 k s=some r->P82 s r:=okU (And.intro @qBF trivial)
instance {k:Nat} {a:Rs}:EvI (g82 k a) 82 [cm a] [] qtK nB:=eI ok82
noncomputable def qEP (k:Nat)(rec:S135->Option R135):S135->Option R135
 |.e a b c=>
  (tg 8 (g131 k a)).bind fun d=>
  bif d then
   rec (tg 5 (.h0 a b c true))
  else
   (tg 11 (g131 k b)).bind fun e=>
   rec (tg 5 (.h0 a b c e))
 |.h0 a b c d=>
  bif d then
   some 9221120237041090560
  else
   (tg 15 (g174 k a b)).bind fun e=>
   bif tg 18 ((decide (e>0))!=c)then
    some b
   else
    some a
noncomputable def g135 (k:Nat)(a b:Int)(c:Bool):Option R135:=itS qEP k (.e a b c)
def P135:S135->R135->Prop
 |.e a b c=>Fe Y135 qsg nB [.c (.val (.int .u64 a)),.c (.val (.int .u64 b)),cbc c] []
 |.h0 a b c d=>Fk Y135 qsg nB [1,0,1,2] ([.c (.val (.int .u64 a)),.c (.val (.int .u64 b)),cbc c]++rd 9++[cbc d]++rd 8) []
theorem qGf:∀ k s r,itS qEP k s=some r->P135 s r:=okU trivial
instance {k:Nat} {a b:Int} {c:Bool}:EvI (g135 k a b c) 135 [.c (.val (.int .u64 a)),.c (.val (.int .u64 b)),cbc c] [] qsg nB:=eI qGf
noncomputable def qEC (k:Nat)(rec:S83->Option R83):S83->Option R83
 |.e a b=>
  ixR a (tg 9 0) fun c=>
  qx5 c fun d e=>
  rec (tg 9 (.h0 a b a (a.length:Int) 0 d e 0 0))
 |.h0 a b c d e f g i j=>
  bif tg 14 (decide (e<d))then
   ixR c (tg 15 e) fun l=>
   qx5 l fun m n=>
   ixR a (tg 20 0) fun o=>
   qx5 o fun p _=>
   bif tg 23 (m != p)then
    rec (tg 13 (.h1 a b c d e true m n f g i j))
   else
    bif tg 27 (m != 1)then
     rec (tg 13 (.h1 a b c d e (m != 4) m n f g i j))
    else
     rec (tg 13 (.h1 a b c d e false m n f g i j))
  else
   some (f,g)
 |.h1 a b c d e f g i j l m n=>
  bif f then
   some (0,0)
  else
   bif tg 37 (g==4)then
    (tg 43 (g135 k l i b)).bind fun o=>
    rec (tg 7 (rg [7] [] (.h2 a b c d e j o m n)))
   else
    bif b then
     bif tg 53 (decide ((IntKind.i64.wrap i)>(IntKind.i64.wrap l)))then
      rec (tg 7 (.h3 a b c d e true g i j l m n))
     else
      rec (tg 7 (.h3 a b c d e false g i j l m n))
    else
     rec (tg 7 (.h3 a b c d e (decide ((IntKind.i64.wrap i)<(IntKind.i64.wrap l))) g i j l m n))
 |.h2 a b c d e f g i j=>rec (tg 1 (.h0 a b c d (IntKind.i64.wrap (e+1)) f g i j))
 |.h3 a b c d e f g i j l m n=>
  bif f then
   rec (tg 3 (rg [7] [] (.h2 a b c d e g i m n)))
  else
   rec (tg 3 (rg [7] [] (.h2 a b c d e j l m n)))
noncomputable def g83 (k:Nat)(a:Rs)(b:Bool):Option R83:=itS qEC k (.e a b)
def P83:S83->R83->Prop
 |.e a b=>Fe Y83 qtK nB [cm a,cbc b] []
 |.h0 a b c d e f g i j=>Fk Y83 qtK nB [1,1,0,1,0,4] ([cm a,cbc b,.deadv,.deadv,pL 4,pL 5]++rd 5++[cm c,cic d,cic e]++rd 57) [(.loc 5,[ic f,.val (.int .u64 g)]),(.loc 4,[ic i,.val (.int .u64 j)])]
 |.h1 a b c d e f g i j l m n=>Fk Y83 qtK nB [1,1,0,1,0,0,1,1,0,0,1,0,1,2] ([cm a,cbc b,.deadv,.deadv,pL 4,pL 5,.deadv,pL 7]++rd 3++[cm c,cic d,cic e]++rd 19++[cbc f]++rd 37) [(.loc 7,[ic g,.val (.int .u64 i)]),(.loc 5,[ic j,.val (.int .u64 l)]),(.loc 4,[ic m,.val (.int .u64 n)])]
 |.h2 a b c d e f g i j=>Fk Y83 qtK nB [1,1,0,1,0,0,1,1,1,2] ([cm a,cbc b,.deadv,.deadv,pL 4,pL 5]++rd 5++[cm c,cic d,cic e]++rd 57) [(.loc 5,[ic f,.val (.int .u64 g)]),(.loc 4,[ic i,.val (.int .u64 j)])]
 |.h3 a b c d e f g i j l m n=>Fk Y83 qtK nB [1,1,0,1,0,0,1,1,0,0,1,1,1,1,1,2] ([cm a,cbc b,.deadv,.deadv,pL 4,pL 5,.deadv,pL 7]++rd 3++[cm c,cic d,cic e]++rd 53++[cbc f]++rd 3) [(.loc 7,[ic g,.val (.int .u64 i)]),(.loc 5,[ic j,.val (.int .u64 l)]),(.loc 4,[ic m,.val (.int .u64 n)])]
theorem ok83:∀ k s r,itS qEC k s=some r->P83 s r:=okU (And.intro @qBF trivial)
instance {k:Nat} {a:Rs} {b:Bool}:EvI (g83 k a b) 83 [cm a,cbc b] [] qtK nB:=eI ok83
noncomputable def qpX (k:Nat)(rec:S48->Option R48):S48->Option R48
 |.e a b=>
  bif tg 11 (a==25)then
   some (1,IntKind.u64.wrap (b.length:Int))
  else
   bif tg 15 ((b.length:Int)==0)then
    some (0,0)
   else
    bif tg 19 (a==27)then
     ixR b (tg 24 (IntKind.i64.wrap ((b.length:Int)-1))) fun c=>
     qx5 c fun d e=>
     some (d,e)
    else
     bif tg 27 (a==28)then
      (tg 29 (g82 k b)).bind fun f=>
      tup2 f fun g i=>
      some (g,i)
     else
      bif tg 31 (a==29)then
       rec (tg 29 (.h0 a b a true 1 (IntKind.u64.wrap (b.length:Int)) 0 0))
      else
       rec (tg 29 (.h0 a b a (a==30) 1 (IntKind.u64.wrap (b.length:Int)) 0 0))
 |.h0 a b c d e f ..=>
  bif d then
   (tg 36 (g83 k b (a==30))).bind fun g=>
   tup2 g fun i j=>
   some (i,j)
  else
   bif tg 38 (c==31)then
    (tg 40 (g82 k b)).bind fun l=>
    tup2 l fun m n=>
    (tg 43 (tg 2 (g45 k 16 [[ic e,.val (.int .u64 f)]]))).bind fun o=>
    tup2 o fun p q=>
    (tg 45 (tg 2 (g45 k 4 [[ic m,.val (.int .u64 n)],[ic p,.val (.int .u64 q)]]))).bind fun t=>
    tup2 t fun u v=>
    some (u,v)
   else
    ixR b (tg 47 0) fun w=>
    qx5 w fun x y=>
    some (x,y)
noncomputable def g48 (k:Nat)(a:Int)(b:Rs):Option R48:=itS qpX k (.e a b)
def P48:S48->R48->Prop
 |.e a b=>Fe Y48 qtK nB [cic a,cm b] []
 |.h0 a b c d e f g i=>Fk Y48 qtK nB [1,1,1,1,0,1,0,1,1,1,1,1,2] ([cic a,cm b,.deadv,.deadv,pL 4,pL 5]++rd 11++[cic c]++rd 12++[cbc d]++rd 18) [(.loc 5,[ic e,.val (.int .u64 f)]),(.loc 4,[ic g,.val (.int .u64 i)])]
theorem ok48:∀ k s r,itS qpX k s=some r->P48 s r:=okU (And.intro @qBF trivial)
instance {k:Nat} {a:Int} {b:Rs}:EvI (g48 k a b) 48 [cic a,cm b] [] qtK nB:=eI ok48
noncomputable def ZT (k:Nat)(rec:S16->Option R16):S16->Option R16
 |.e a b c d e f g i j l=>
  bif tg 16 (a==40)then
   (tg 19 (g46 k d e)).bind fun m=>
   tup2 m fun n o=>
   some (n,o)
  else
   bif tg 22 (a==41)then
    (tg 27 (g47 k i l g)).bind fun p=>
    tup2 p fun q t=>
    some (q,t)
   else
    bif tg 30 (a==42)then
     rec (tg 15 (.h0 i j l true 0 0 a b c d e f g))
    else
     bif tg 34 (decide (a>=25))then
      rec (tg 15 (.h0 i j l (decide (a<=31)) 0 0 a b c d e f g))
     else
      rec (tg 15 (.h0 i j l false 0 0 a b c d e f g))
 |.h0 a b c d e f g i j l m n o=>
  bif d then
   bif tg 43 (decide (n>=0))then
    rec (tg 6 (.h1 a b (decide (n<(b.length:Int))) e f g i j l m n o))
   else
    rec (tg 6 (.h1 a b false e f g i j l m n o))
  else
   rec (tg 9 (rg [] [(⟨⟨.slot 12,[]⟩,0,0⟩,some 2)] (.h2 a b c [] (j.length:Int) 0 e f g i j l m n o)))
 |.h1 a b c d e f g i j l m n=>
  bif c then
   ixR b (tg 54 m) fun o=>
   un_m o fun p=>
   rec (tg 5 (rg [] [(⟨⟨.slot 9,[]⟩,0,0⟩,some 2)] (.h3 a [] p (p.length:Int) 0 d e f g i j l m n)))
  else
   rec (tg 2 (rg [] [(⟨⟨.slot 9,[]⟩,0,0⟩,some 2)] (.h4 [] d e f g i j l m n)))
 |.h2 a b c d e f g i j l m n o p q=>
  bif tg 78 (decide (f<e))then
   ixR m (tg 84 f) fun t=>
   qvv t fun u v w x y z a1=>
   (tg 89 (rec (.e u v w x y z a1 a b c))).bind fun b1=>
   tup2 b1 fun c1 d1=>
   gd (tg 91 (apOk 16 2 d [[ic c1,.val (.int .u64 d1)]])) <|
   rec (tg 13 (.h2 a b c (d++[[ic c1,.val (.int .u64 d1)]]) e (IntKind.i64.wrap (f+1)) g i j l m n o p q))
  else
   (tg 96 (tg 2 (g45 k j (qG d)))).bind fun e1=>
   tup2 e1 fun f1 g1=>
   some (f1,g1)
 |.h3 a b c d e f g i j l m n o p=>
  bif tg 58 (decide (e<d))then
   ixR c (tg 59 e) fun q=>
   un_i q fun t=>
   (tg 66 (g47 k a t p)).bind fun u=>
   tup2 u fun v w=>
   gd (tg 68 (apOk 16 2 b [[ic v,.val (.int .u64 w)]])) <|
   rec (tg 13 (.h3 a (b++[[ic v,.val (.int .u64 w)]]) c d (IntKind.i64.wrap (e+1)) f g i j l m n o p))
  else
   rec (tg 6 (.h4 b f g i j l m n o p))
 |.h4 a _ _ b ..=>
  (tg 73 (tg 2 (g48 k b (qG a)))).bind fun c=>
  tup2 c fun d e=>
  some (d,e)
noncomputable def g16 (k:Nat)(a b:Int)(c:Rs)(d e f g:Int)(i j:Rs)(l:Int):Option R16:=itS ZT k (.e a b c d e f g i j l)
def P16:S16->R16->Prop
 |.e a b c d e f g i j l=>Fe Y16 qtK nB [.ag [ic a,ic b,.imm c,ic d,.val (.int .u64 e),ic f,ic g],cm i,cm j,cic l] []
 |.h0 a b c d e f g i j l m n o=>Fk Y16 qtK nB [1,1,1,0,1,2] ([.deadv,cm a,cm b,cic c,pL 4]++rd 3++[pL 8]++rd 31++[cbc d]++rd 56) [(.loc 8,[ic e,.val (.int .u64 f)]),(.loc 4,[ic g,ic i,.imm j,ic l,.val (.int .u64 m),ic n,ic o])]
 |.h1 a b c d e f g i j l m n=>Fk Y16 qtK nB [1,1,1,0,1,0,1,0,1,2] ([.deadv,cm a,cm b,.deadv,pL 4]++rd 3++[pL 8,.c .nil]++rd 40++[cbc c]++rd 46) [(.loc 8,[ic d,.val (.int .u64 e)]),(.loc 4,[ic f,ic g,.imm i,ic j,.val (.int .u64 l),ic m,ic n])]
 |.h2 a b c d e f g i j l m n o p q=>Fk Y16 qtK nB [1,1,1,1,1,0,1,0,4] ([.deadv,cm a,cm b,cic c,pL 4]++rd 3++[pL 8]++rd 3++[.c (.own 2 d)]++rd 63++[cic e,cic f]++rd 19) [(.loc 8,[ic g,.val (.int .u64 i)]),(.loc 4,[ic j,ic l,.imm m,ic n,.val (.int .u64 o),ic p,ic q])]
 |.h3 a b c d e f g i j l m n o p=>Fk Y16 qtK nB [1,1,1,0,1,0,1,0,1,0,1,0,4] ([.deadv,cm a,.deadv,.deadv,pL 4]++rd 3++[pL 8,.c (.own 2 b)]++rd 45++[cm c,cic d,cic e]++rd 39) [(.loc 8,[ic f,.val (.int .u64 g)]),(.loc 4,[ic i,ic j,.imm l,ic m,.val (.int .u64 n),ic o,ic p])]
 |.h4 a b c d e f g i j l=>Fk Y16 qtK nB [1,1,1,0,1,0,1,1,2] (rd 4++[pL 4]++rd 3++[pL 8,.c (.own 2 a)]++rd 87) [(.loc 8,[ic b,.val (.int .u64 c)]),(.loc 4,[ic d,ic e,.imm f,ic g,.val (.int .u64 i),ic j,ic l])]
instance {a b:Int} {c:Rs} {d e f g:Int} {i j:Rs} {l:Int}:EvS P16 id (.e a b c d e f g i j l) 16 [.ag [ic a,ic b,.imm c,ic d,.val (.int .u64 e),ic f,ic g],cm i,cm j,cic l] [] qtK nB:=⟨fun o h v e=>evF (h v e)⟩
theorem ok16:∀ k s r,itS ZT k s=some r->P16 s r:=okU (And.intro @qA8 (And.intro @qwF (And.intro @qFX trivial)))
instance {k:Nat} {a b:Int} {c:Rs} {d e f g:Int} {i j:Rs} {l:Int}:EvI (g16 k a b c d e f g i j l) 16 [.ag [ic a,ic b,.imm c,ic d,.val (.int .u64 e),ic f,ic g],cm i,cm j,cic l] [] qtK nB:=eI ok16
def qin:R15->ARes
 |r=>.ret (.c (.own 2 r))
noncomputable def Zu (k:Nat)(rec:S15->Option R15):S15->Option R15
 |.e _ _ a _ _ b c d=>rec (tg 9 (rg [4] [(⟨⟨.slot 9,[]⟩,0,0⟩,some 2)] (.h0 b c d [] a (a.length:Int) 0)))
 |.h0 a b c d e f g=>
  bif tg 16 (decide (g<f))then
   ixR e (tg 17 g) fun i=>
   qvU i fun j _ l m=>
   (tg 30 (g16 k j 0 [] 0 0 l m a b c)).bind fun n=>
   tup2 n fun o p=>
   gd (tg 32 (apOk 16 2 d [[ic o,.val (.int .u64 p)]])) <|
   rec (tg 13 (rg [11] [] (.h0 a b c (d++[[ic o,.val (.int .u64 p)]]) e f (IntKind.i64.wrap (g+1)))))
  else
   some d
noncomputable def g15 (k:Nat)(a b:Int)(c d e f g:Rs)(i:Int):Option R15:=itS Zu k (.e a b c d e f g i)
def P15:S15->R15->Prop
 |.e a b c d e f g i=>Fe Y15 qin nB [.ag [ic a,ic b,.imm c,.imm d,.imm e],cm f,cm g,cic i] []
 |.h0 a b c d e f g=>Fk Y15 qin nB [1,1,0,1,0,4] ([.deadv,cm a,cm b,cic c]++rd 5++[.c (.own 2 d)]++rd 3++[cm e,cic f,cic g]++rd 19) []
theorem ok15:∀ k s r,itS Zu k s=some r->P15 s r:=okU (And.intro @qx3 trivial)
instance {k:Nat} {a b:Int} {c d e f g:Rs} {i:Int}:EvI (g15 k a b c d e f g i) 15 [.ag [ic a,ic b,.imm c,.imm d,.imm e],cm f,cm g,cic i] [] qin nB:=eI ok15
noncomputable def qd3 (k:Nat)(rec:S42->Option R42):S42->Option R42
 |.e a=>
  bif tg 4 (a==6)then
   rec (tg 5 (.h0 a true))
  else
   bif tg 7 (a==15)then
    rec (tg 5 (.h0 a true))
   else
    bif tg 11 (a==16)then
     rec (tg 5 (.h0 a true))
    else
     rec (tg 5 (.h0 a (a==17)))
 |.h0 a b=>
  bif b then
   some 1
  else
   bif tg 18 (decide (a>=1))then
    rec (tg 5 (.h1 (decide (a<=14))))
   else
    rec (tg 5 (.h1 false))
 |.h1 a=>
  bif a then
   some 2
  else
   some 0
noncomputable def g42 (k:Nat)(a:Int):Option R42:=itS qd3 k (.e a)
def P42:S42->R42->Prop
 |.e a=>Fe Y42 qu3 nB [cic a] []
 |.h0 a b=>Fk Y42 qu3 nB [1,0,1,2] ([cic a]++rd 15++[cbc b]++rd 6) []
 |.h1 a=>Fk Y42 qu3 nB [1,1,0,1,2] (rd 22++[cbc a]) []
theorem ok42:∀ k s r,itS qd3 k s=some r->P42 s r:=okU trivial
instance {k:Nat} {a:Int}:EvI (g42 k a) 42 [cic a] [] qu3 nB:=eI ok42
noncomputable def qq1 (k:Nat)(rec:S44->Option R44):S44->Option R44
 |.e a b=>
  bif tg 6 (decide (b<0))then
   rec (tg 5 (.h0 a b true 0 0))
  else
   rec (tg 5 (.h0 a b (decide (b>=(a.length:Int))) 0 0))
 |.h0 a b c ..=>
  bif c then
   some (0,0)
  else
   ixR a (tg 16 b) fun d=>
   qx5 d fun e f=>
   (tg 18 (g46 k e f)).bind fun g=>
   tup2 g fun i j=>
   some (i,j)
noncomputable def g44 (k:Nat)(a:Rs)(b:Int):Option R44:=itS qq1 k (.e a b)
def P44:S44->R44->Prop
 |.e a b=>Fe Y44 qtK nB [cm a,cic b] []
 |.h0 a b c d e=>Fk Y44 qtK nB [1,0,1,2] ([cm a,cic b,.deadv,.deadv,pL 4]++rd 7++[cbc c]++rd 6) [(.loc 4,[ic d,.val (.int .u64 e)])]
theorem ok44:∀ k s r,itS qq1 k s=some r->P44 s r:=okU (And.intro @qBF trivial)
instance {k:Nat} {a:Rs} {b:Int}:EvI (g44 k a b) 44 [cm a,cic b] [] qtK nB:=eI ok44
def qiP:R43->ARes
 |_=>.ret .undef
def bx43:R43->List (List Cell)
 |a=>[[.mpb a]]
noncomputable def Zo (k:Nat)(rec:S43->Option R43):S43->Option R43
 |.e a b c d e=>
  bif decide (a>=0)then
   rec (.h0 a (decide (a<b)) c d e)
  else
   rec (.h0 a false c d e)
 |.h0 a b c d e=>
  bif b then
   (xL Tryz.prog 3 (.int .i64 a) [ic c,.val (.int .u64 d)] e).bind fun f=>
   some f
  else
   some e
noncomputable def g43 (k:Nat)(a b c d:Int)(e:Es):Option R43:=itS Zo k (.e a b c d e)
def P43:S43->R43->Prop
 |.e a b c d e=>Fe Y43 qiP bx43 [.c (.ptr ⟨⟨.par 0,[]⟩,1,0⟩),cic a,cic b,.ag [ic c,.val (.int .u64 d)]] [[.mpb e]]
 |.h0 a b c d e=>Fk Y43 qiP bx43 [1,1,2] ([.c (.ptr ⟨⟨.par 0,[]⟩,1,0⟩),cic a]++rd 5++[pL 7]++rd 6++[cbc b]++rd 3) [(.loc 7,[ic c,.val (.int .u64 d)]),(.par 0,[.mpb e])]
abbrev E43 (a b c d:Int)(e:Es)(r:R43):Prop:=Ev Tryz.prog noHand 43 [.c (.ptr ⟨⟨.par 0,[]⟩,1,0⟩),cic a,cic b,.ag [ic c,.val (.int .u64 d)]] [[.mpb e]] (qiP r) (bx43 r)
theorem qnm {a b c d:Int}{e:Es}{r:R43}(h:P43 (.e a b c d e) r):E43 a b c d e r:=evF h
theorem ok43:∀ k s r,itS Zo k s=some r->P43 s r:=qF fun k rec ih s r h=>match s,h with
 |.e ..,h=>by
  replace h:=qa h;rcases h with⟨a,h⟩|⟨a,h⟩
  . exact mA 1 (ih _ _ h) 4 [tT 9 a] 18 245628
  . exact mA 1 (ih _ _ h) 4 [tF 9 a] 18 245628
 |.h0 ..,h=>by
  replace h:=qa h;rcases h with⟨rfl,h⟩|⟨rfl,h⟩
  . replace h:=qh h;obtain⟨a,b,h⟩:=h;cases h;exact mF 1 [⟨(none,.put r),[_],⟨b,trivial⟩⟩]
  . cases h;exact mF 1 []
theorem ev43 {k:Nat}{a b c d:Int}{e:Es}{r:R43}(h:g43 k a b c d e=some r):E43 a b c d e r:=qnm (ok43 _ _ _ h)
instance {k:Nat} {a b c d:Int} {e:Es}:EvI (g43 k a b c d e) 43 [.c (.ptr ⟨⟨.par 0,[]⟩,1,0⟩),cic a,cic b,.ag [ic c,.val (.int .u64 d)]] [[.mpb e]] qiP bx43:=⟨fun r h=>ev43 h⟩
noncomputable def qkA (k:Nat)(rec:S14->Option R14):S14->Option R14
 |.e a b c d e f=>rec (.h0 f (if (1024:Int)<a then 1024 else a) (if (256:Int)<b then 256 else b) e (e.length:Int) 0 [] [] 0 0 a b c d e)
 |.h0 a b c d e f g i j l m n o p q=>
  bif decide (f<e)then
   ixR d f fun t=>
   qvU t fun u v w x=>
   (g42 k u).bind fun y=>
   bif u==52 then
    (yU Tryz.prog 3 (.int .i64 w) i).bind fun z=>
    optC z (
      some (0,0)) fun a1=>
     qx5 a1 fun b1 c1=>
     some (b1,c1)
   else
    bif u==50 then
     (g44 k a w).bind fun d1=>
     tup2 d1 fun e1 f1=>
     (g43 k v b e1 f1 i).bind fun g1=>
     rec (.h1 a b c d e f g g1 j l m n o p q)
    else
     bif u==51 then
      (g44 k p w).bind fun i1=>
      tup2 i1 fun j1 l1=>
      (g43 k v b j1 l1 i).bind fun m1=>
      rec (.h1 a b c d e f g m1 j l m n o p q)
     else
      bif u==53 then
       (yU Tryz.prog 3 (.int .i64 x) i).bind fun n1=>
       optC n1 (
         (g43 k w c 0 0 g).bind fun m1=>
         rec (.h1 a b c d e f m1 i j l m n o p q)) fun o1=>
        qx5 o1 fun p1 q1=>
        (g43 k w c p1 q1 g).bind fun t1=>
        rec (.h1 a b c d e f t1 i j l m n o p q)
      else
       bif u==54 then
        (yU Tryz.prog 3 (.int .i64 w) g).bind fun u1=>
        optC u1 (
          (g43 k v b 0 0 i).bind fun v1=>
          rec (.h1 a b c d e f g v1 j l m n o p q)) fun w1=>
         qx5 w1 fun x1 y1=>
         (g43 k v b x1 y1 i).bind fun z1=>
         rec (.h1 a b c d e f g z1 j l m n o p q)
       else
        bif decide (y>0)then
         (yU Tryz.prog 3 (.int .i64 w) i).bind fun a2=>
         optC a2 (
           (yU Tryz.prog 3 (.int .i64 x) i).bind fun b2=>
           optC b2 (
             gd (slOk 0 y [[ic 0,.val (.int .u64 0)],[ic 0,.val (.int .u64 0)]] 2) <|
             (g45 k u (List.drop (Int.toNat 0) (List.take (Int.toNat y) [[ic 0,.val (.int .u64 0)],[ic 0,.val (.int .u64 0)]]))).bind fun c2=>
             tup2 c2 fun d2 e2=>
             (g43 k v b d2 e2 i).bind fun f2=>
             rec (.h1 a b c d e f g f2 j l m n o p q)) fun g2=>
            qx5 g2 fun i2 j2=>
            gd (slOk 0 y [[ic 0,.val (.int .u64 0)],[ic i2,.val (.int .u64 j2)]] 2) <|
            (g45 k u (List.drop (Int.toNat 0) (List.take (Int.toNat y) [[ic 0,.val (.int .u64 0)],[ic i2,.val (.int .u64 j2)]]))).bind fun l2=>
            tup2 l2 fun m2 n2=>
            (g43 k v b m2 n2 i).bind fun o2=>
            rec (.h1 a b c d e f g o2 j l m n o p q)) fun p2=>
          qx5 p2 fun q2 t2=>
          (yU Tryz.prog 3 (.int .i64 x) i).bind fun u2=>
          optC u2 (
            gd (slOk 0 y [[ic q2,.val (.int .u64 t2)],[ic 0,.val (.int .u64 0)]] 2) <|
            (g45 k u (List.drop (Int.toNat 0) (List.take (Int.toNat y) [[ic q2,.val (.int .u64 t2)],[ic 0,.val (.int .u64 0)]]))).bind fun l2=>
            tup2 l2 fun m2 n2=>
            (g43 k v b m2 n2 i).bind fun o2=>
            rec (.h1 a b c d e f g o2 j l m n o p q)) fun v2=>
           qx5 v2 fun w2 x2=>
           gd (slOk 0 y [[ic q2,.val (.int .u64 t2)],[ic w2,.val (.int .u64 x2)]] 2) <|
           (g45 k u (List.drop (Int.toNat 0) (List.take (Int.toNat y) [[ic q2,.val (.int .u64 t2)],[ic w2,.val (.int .u64 x2)]]))).bind fun y2=>
           tup2 y2 fun z2 a3=>
           (g43 k v b z2 a3 i).bind fun b3=>
           rec (.h1 a b c d e f g b3 j l m n o p q)
        else
         rec (.h1 a b c d e f g i j l m n o p q)
  else
   some (0,0)
 |.h1 a b c d e f g i j l m n o p q=>rec (.h0 a b c d e (IntKind.i64.wrap (f+1)) g i j l m n o p q)
noncomputable def g14 (k:Nat)(a b:Int)(c d e f:Rs):Option R14:=itS qkA k (.e a b c d e f)
def P14:S14->R14->Prop
 |.e a b c d e f=>Fe Y14 qtK nB [.ag [ic a,ic b,.imm c,.imm d,.imm e],cm f] []
 |.h0 a b c d e f g i j l m n o p q=>Fk Y14 qtK nB [1,1,1,0,1,0,4] ([.deadv,cm a,pL 2,.deadv,pL 4,.c (.ptr ⟨⟨.loc 12,[]⟩,1,0⟩),.c (.ptr ⟨⟨.loc 13,[]⟩,1,0⟩),cic b,cic c]++rd 12++[cm d,cic e,cic f]++rd 91) [(.loc 13,[.mpb g]),(.loc 12,[.mpb i]),(.loc 4,[ic j,.val (.int .u64 l)]),(.loc 2,[ic m,ic n,.imm o,.imm p,.imm q])]
 |.h1 a b c d e f g i j l m n o p q=>Fk Y14 qtK nB [1,1,1,0,1,0,0,1,1,1,2] ([.deadv,cm a,pL 2,.deadv,pL 4,.c (.ptr ⟨⟨.loc 12,[]⟩,1,0⟩),.c (.ptr ⟨⟨.loc 13,[]⟩,1,0⟩),cic b,cic c]++rd 12++[cm d,cic e,cic f]++rd 91) [(.loc 13,[.mpb g]),(.loc 12,[.mpb i]),(.loc 4,[ic j,.val (.int .u64 l)]),(.loc 2,[ic m,ic n,.imm o,.imm p,.imm q])]
abbrev E14 (a b:Int)(c d e f:Rs)(r:R14):Prop:=Ev Tryz.prog noHand 14 [.ag [ic a,ic b,.imm c,.imm d,.imm e],cm f] [] (qtK r) (nB r)
theorem qnT {a b:Int}{c d e f:Rs}{r:R14}(h:P14 (.e a b c d e f) r):E14 a b c d e f r:=evF h
theorem ok14:∀ k s r,itS qkA k s=some r->P14 s r:=qF fun k rec ih s r h=>match s,h with
 |.e ..,h=>by exact mA 0 (ih _ _ h) 11 [] 115 41538374868278621028243970619080201
 |.h0 ..,h=>by
  replace h:=qa h;rcases h with⟨a,h⟩|⟨a,h⟩
  .
   replace h:=YJ h;obtain⟨_,b,h⟩:=h;replace h:=qvD h;obtain⟨_,_,_,_,rfl,h⟩:=h;replace h:=qh h;obtain⟨_,c,h⟩:=h;replace h:=qa h;rcases h with⟨d,h⟩|⟨d,h⟩
   . replace h:=qh h;obtain⟨_,e,h⟩:=h;replace h:=qgU h;rcases h with⟨_,rfl,h⟩|⟨rfl,h⟩
     . replace h:=qx6 h;obtain⟨f,g,rfl,h⟩:=h;cases h;exact mF 0 [tT 24 a,rA 25 b,cA 29 (evI c),tT 33 d,⟨(some 37,.look (some [ic f,.val (.int .u64 g)])),[_],⟨e,trivial⟩⟩]
     . cases h;exact mF 0 [tT 24 a,rA 25 b,cA 29 (evI c),tT 33 d,⟨(some 37,.look none),[_],⟨e,trivial⟩⟩]
   .
    replace h:=qa h;rcases h with⟨i,h⟩|⟨i,h⟩
    . obtain⟨_,j,h⟩:=b2 h;replace h:=qh h;obtain⟨_,l,h⟩:=h;exact mG 0 (ih _ _ h) 22 [tT 24 a,rA 25 b,cA 29 (evI c),tF 33 d,tT 41 i,cA 49 (evI j),cA 50 (evI l)] 115 41538374868278621028243970619080201 [10] []
    .
     replace h:=qa h;rcases h with⟨e,h⟩|⟨e,h⟩
     . obtain⟨_,m,h⟩:=b2 h;replace h:=qh h;obtain⟨_,n,h⟩:=h;exact mG 0 (ih _ _ h) 25 [tT 24 a,rA 25 b,cA 29 (evI c),tF 33 d,tF 41 i,tT 54 e,cA 63 (evI m),cA 64 (evI n)] 115 41538374868278621028243970619080201 [10] []
     .
      replace h:=qa h;rcases h with⟨j,h⟩|⟨j,h⟩
      . replace h:=qh h;obtain⟨_,o,h⟩:=h;replace h:=qgU h;rcases h with⟨_,rfl,h⟩|⟨rfl,h⟩
        . replace h:=qx6 h;obtain⟨p,q,rfl,h⟩:=h;replace h:=qh h;obtain⟨_,t,h⟩:=h;exact mG 0 (ih _ _ h) 28 [tT 24 a,rA 25 b,cA 29 (evI c),tF 33 d,tF 41 i,tF 54 e,tT 68 j,⟨(some 76,.look (some [ic p,.val (.int .u64 q)])),[_],⟨o,trivial⟩⟩,cA 77 (evI t)] 115 41538374868278621028243970619080201 [10] []
        . replace h:=qh h;obtain⟨_,n,h⟩:=h;exact mG 0 (ih _ _ h) 28 [tT 24 a,rA 25 b,cA 29 (evI c),tF 33 d,tF 41 i,tF 54 e,tT 68 j,⟨(some 76,.look none),[_],⟨o,trivial⟩⟩,cA 77 (evI n)] 115 41538374868278621028243970619080201 [10] []
      .
       replace h:=qa h;rcases h with⟨m,h⟩|⟨m,h⟩
       . replace h:=qh h;obtain⟨_,l,h⟩:=h;replace h:=qgU h;rcases h with⟨_,rfl,h⟩|⟨rfl,h⟩
         . replace h:=qx6 h;obtain⟨u,v,rfl,h⟩:=h;replace h:=qh h;obtain⟨_,w,h⟩:=h;exact mG 0 (ih _ _ h) 31 [tT 24 a,rA 25 b,cA 29 (evI c),tF 33 d,tF 41 i,tF 54 e,tF 68 j,tT 81 m,⟨(some 89,.look (some [ic u,.val (.int .u64 v)])),[_],⟨l,trivial⟩⟩,cA 90 (evI w)] 115 41538374868278621028243970619080201 [10] []
         . replace h:=qh h;obtain⟨_,x,h⟩:=h;exact mG 0 (ih _ _ h) 31 [tT 24 a,rA 25 b,cA 29 (evI c),tF 33 d,tF 41 i,tF 54 e,tF 68 j,tT 81 m,⟨(some 89,.look none),[_],⟨l,trivial⟩⟩,cA 90 (evI x)] 115 41538374868278621028243970619080201 [10] []
       .
        replace h:=qa h;rcases h with⟨o,h⟩|⟨o,h⟩
        . replace h:=qh h;obtain⟨_,n,h⟩:=h;replace h:=qgU h;rcases h with⟨_,rfl,h⟩|⟨rfl,h⟩
          . replace h:=qx6 h;obtain⟨y,z,rfl,h⟩:=h;replace h:=qh h;obtain⟨_,a1,h⟩:=h;replace h:=qgU h;rcases h with⟨_,rfl,h⟩|⟨rfl,h⟩
            . replace h:=qx6 h;obtain⟨b1,c1,rfl,h⟩:=h;replace h:=zo h;obtain⟨d1,h⟩:=h;obtain⟨_,e1,h⟩:=b2 h;replace h:=qh h;obtain⟨_,f1,h⟩:=h;exact mG 0 (ih _ _ h) 34 [tT 24 a,rA 25 b,cA 29 (evI c),tF 33 d,tF 41 i,tF 54 e,tF 68 j,tF 81 m,tT 93 o,⟨(some 103,.look (some [ic y,.val (.int .u64 z)])),[_],⟨n,trivial⟩⟩,⟨(some 107,.look (some [ic b1,.val (.int .u64 c1)])),[_],⟨a1,trivial⟩⟩,⟨(some 110,.ok),[_],⟨of_decide_eq_true d1,trivial⟩⟩,cA 111 (evI e1),cA 112 (evI f1)] 115 41538374868278621028243970619080201 [10] []
            . replace h:=zo h;obtain⟨g1,h⟩:=h;obtain⟨_,d1,h⟩:=b2 h;replace h:=qh h;obtain⟨_,i1,h⟩:=h;exact mG 0 (ih _ _ h) 34 [tT 24 a,rA 25 b,cA 29 (evI c),tF 33 d,tF 41 i,tF 54 e,tF 68 j,tF 81 m,tT 93 o,⟨(some 103,.look (some [ic y,.val (.int .u64 z)])),[_],⟨n,trivial⟩⟩,⟨(some 107,.look none),[_],⟨a1,trivial⟩⟩,⟨(some 110,.ok),[_],⟨of_decide_eq_true g1,trivial⟩⟩,cA 111 (evI d1),cA 112 (evI i1)] 115 41538374868278621028243970619080201 [10] []
          . replace h:=qh h;obtain⟨_,t,h⟩:=h;replace h:=qgU h;rcases h with⟨_,rfl,h⟩|⟨rfl,h⟩
            . replace h:=qx6 h;obtain⟨j1,l1,rfl,h⟩:=h;replace h:=zo h;obtain⟨g1,h⟩:=h;obtain⟨_,d1,h⟩:=b2 h;replace h:=qh h;obtain⟨_,i1,h⟩:=h;exact mG 0 (ih _ _ h) 34 [tT 24 a,rA 25 b,cA 29 (evI c),tF 33 d,tF 41 i,tF 54 e,tF 68 j,tF 81 m,tT 93 o,⟨(some 103,.look none),[_],⟨n,trivial⟩⟩,⟨(some 107,.look (some [ic j1,.val (.int .u64 l1)])),[_],⟨t,trivial⟩⟩,⟨(some 110,.ok),[_],⟨of_decide_eq_true g1,trivial⟩⟩,cA 111 (evI d1),cA 112 (evI i1)] 115 41538374868278621028243970619080201 [10] []
            . replace h:=zo h;obtain⟨w,h⟩:=h;obtain⟨_,g1,h⟩:=b2 h;replace h:=qh h;obtain⟨_,m1,h⟩:=h;exact mG 0 (ih _ _ h) 34 [tT 24 a,rA 25 b,cA 29 (evI c),tF 33 d,tF 41 i,tF 54 e,tF 68 j,tF 81 m,tT 93 o,⟨(some 103,.look none),[_],⟨n,trivial⟩⟩,⟨(some 107,.look none),[_],⟨t,trivial⟩⟩,⟨(some 110,.ok),[_],⟨of_decide_eq_true w,trivial⟩⟩,cA 111 (evI g1),cA 112 (evI m1)] 115 41538374868278621028243970619080201 [10] []
        . exact mG 0 (ih _ _ h) 34 [tT 24 a,rA 25 b,cA 29 (evI c),tF 33 d,tF 41 i,tF 54 e,tF 68 j,tF 81 m,tF 93 o] 115 41538374868278621028243970619080201 [10] []
  . cases h;exact mF 0 [tF 24 a]
 |.h1 ..,h=>by exact mA 0 (ih _ _ h) 1 [] 115 41538374868278621028243970619080201
theorem ev14 {k:Nat}{a b:Int}{c d e f:Rs}{r:R14}(h:g14 k a b c d e f=some r):E14 a b c d e f r:=qnT (ok14 _ _ _ h)
instance {k:Nat} {a b:Int} {c d e f:Rs}:EvI (g14 k a b c d e f) 14 [.ag [ic a,ic b,.imm c,.imm d,.imm e],cm f] [] qtK nB:=⟨fun r h=>ev14 h⟩
end
end Ab
end Go.Proofs.YtjnefcbeemkkeaaGreat
