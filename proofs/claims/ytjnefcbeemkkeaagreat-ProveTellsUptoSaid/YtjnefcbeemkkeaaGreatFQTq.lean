/-
  Functions' ways, printed by a program: what each computes, and that this is what the interpreter computes.
-/
import Derived.Test.YtjnefcbeemkkeaaGreatDoq
import Derived.KernelRfl
set_option linter.all false
set_option maxRecDepth 10000
set_option maxHeartbeats 8000000
namespace Go.Proofs.YtjnefcbeemkkeaaGreat
namespace Ab
variable [Glob]
inductive S55 where
 |e (a b c d:Int)
 |h0 (a:Bool)(b c d e:Int)
abbrev R55:=Bool
inductive S104 where
 |e (a:Int)
abbrev R104:=Int
inductive S56 where
 |e (a b:Int)
 |h0 (a:Bool)(b c d e:Int)
 |h1 (a:Bool)(b c d e:Int)
abbrev R56:=Int×Int
inductive S57 where
 |e (a b c d e f:Int)(g i j:Rs)(l m:Es)
 |h0 (a b:Bool)(c d e f g i:Int)(j l m:Rs)(n o:Es)
 |h1 (a b:Bool)(c d e f g i:Int)(j l m:Rs)(n o:Es)
abbrev R57:=Bool×Rs×Rs×Rs×Es×Es
inductive S19 where
 |e (a b:Int)(c d e:Rs)
 |h0 (a:Bool)(b c:Int)(d e f:Rs)
 |h1 (a:Rs)(b c d e:Int)(f g i:Rs)
 |h2 (a:Rs)(b c d e:Int)(f g i:Rs)
 |h3 (a:Rs)(b c d e:Int)(f g i:Rs)(j l:Es)(m n:Int)(o p q:Rs)
 |h4 (a:Rs)(b c:Int)(d:Bool)(e f g i j l:Int)(m n o:Rs)(p q:Es)(t u:Int)(v w x:Rs)
 |h5 (a:Rs)(b c d e:Int)(f g i:Rs)(j l:Es)(m n:Int)(o p q:Rs)
abbrev R19:=Bool
inductive S105 where
 |e (a:Rs)
 |h0 (a:Int)(b:Rs)(c d:Int)
abbrev R105:=Int
inductive S200 where
 |e (a:Int)
abbrev R200:=Bool
inductive S157 where
 |e (a b:Int)
 |h0 (a b:Int)(c:Bool)
 |h1 (a b:Int)(c:Bool)
 |h2 (a b:Int)(c:Bool)
 |h3 (a:Bool)
abbrev R157:=Int
inductive S158 where
 |e (a b:Int)
 |h0 (a b:Int)(c:Bool)
 |h1 (a b:Int)(c:Bool)
 |h2 (a b:Int)(c:Bool)
 |h3 (a b:Int)(c:Bool)
 |h4 (a:Bool)
abbrev R158:=Int
inductive S106 where
 |e (a:Int)(b:Rs)
 |h0
abbrev R106:=Int
inductive S58 where
 |e (a b c d e f:Int)(g i j:Rs)(l m:Es)
 |h0 (a:Rs)(b:Bool)(c d e f g i j l m n o p q:Int)(t u v:Rs)(w x:Es)
 |h1 (a:Rs)(b c d e f g i j l m n o p:Int)(q t u:Rs)(v w:Es)
 |h2 (a b:Int)(c:Rs)(d e f g i j l:Int)(m n o:Rs)(p q:Es)
 |h3 (a b:Rs)(c d e f:Int)(g:Rs)(i j l m n o p q t u v w x y z a1 b1 c1:Int)(d1 e1 f1:Rs)(g1 i1:Es)
 |h4 (a b:Rs)(c d e f:Int)(g:Rs)(i j l m n o p q t u v w x y z a1 b1 c1:Int)(d1 e1 f1:Rs)(g1 i1:Es)
 |h5 (a b:Int)(c:Rs)(d e f g i j l:Int)(m n o:Rs)(p q:Es)
abbrev R58:=Int×Int×Rs×Int×Int×Int×Int×Int×Rs×Rs×Rs×Es×Es
inductive S20 where
 |e (a b c d e f:Int)(g i j:Rs)(l m:Es)
abbrev R20:=Rs×Rs×Rs×Es×Es
inductive S21 where
 |e (a b:Int)(c:Rs)(d e f g:Int)
 |h0 (a b:Rs)(c d e f g i j l m n:Int)(o:Rs)(p q t u:Int)
abbrev R21:=Int×Int×Rs×Int×Int×Int×Int
inductive S7 where
 |e (a b:Int)(c d e:Rs)
 |h0 (a:Bool)(b c:Int)(d:Rs)(e f g i:Int)
 |h1 (a:Int)(b:Rs)(c d e f:Int)(g i j:Rs)(l m:Es)(n o p q t u v w:Int)(x y z:Rs)
 |h2 (a:Bool)(b c:Int)(d:Rs)(e f g i j l m n o p q:Int)
 |h3 (a:Bool)(b c:Int)(d:Rs)(e f g i:Int)
 |h4 (a:Bool)(b c:Int)(d:Rs)(e f g i:Int)
abbrev R7:=Int×Int×Rs×Int×Int×Int×Int×Bool
inductive S76 where
 |e (a b:Int)
abbrev R76:=Int×Int
inductive S41 where
 |e (a b:Int)(c:Rs)
 |h0 (a:Rs)(b c d e:Int)(f:Rs)(g i:Int)
abbrev R41:=Int×Int×Rs
inductive S13 where
 |e (a:Rs)
 |h0 (a b:Rs)(c d:Int)
abbrev R13:=Rs
inductive S131 where
 |e (a:Int)
abbrev R131:=Bool
inductive S81 where
 |e (a:Int)
abbrev R81:=Int
inductive S46 where
 |e (a b:Int)
 |h0 (a:Bool)(b c d e:Int)
abbrev R46:=Int×Int
inductive S47 where
 |e (a:Rs)(b c:Int)
 |h0 (a:Rs)(b c:Int)(d:Bool)(e f:Int)
abbrev R47:=Int×Int
theorem cA20 {a b:Cell}:∃ x,cellAt [[a,b]] 0 0=some x:=⟨a,rfl⟩
theorem cA21 {a b:Cell}:∃ x,cellAt [[a,b]] 0 1=some x:=⟨b,rfl⟩
theorem cA40 {a b c d:Cell}:∃ x,cellAt [[a,b,c,d]] 0 0=some x:=⟨a,rfl⟩
theorem cA41 {a b c d:Cell}:∃ x,cellAt [[a,b,c,d]] 0 1=some x:=⟨b,rfl⟩
theorem cA42 {a b c d:Cell}:∃ x,cellAt [[a,b,c,d]] 0 2=some x:=⟨c,rfl⟩
theorem cA43 {a b c d:Cell}:∃ x,cellAt [[a,b,c,d]] 0 3=some x:=⟨d,rfl⟩
attribute [local irreducible] cond gd ixR sxI aixS Option.bind
noncomputable section
def un_b {α:Type}(row:List Cell)(k:Bool->Option α):Option α:=match row with
  |[.val (.bool x0)]=>k x0
  |_=>none
theorem qvF {α:Type}{row:List Cell}{k:Bool->Option α}{r:α}(h:un_b row k=some r):∃ x0,row=[.val (.bool x0)]/\k x0=some r:=by
  unfold un_b at h;split at h
  . exact⟨_,rfl,h⟩
  . cases h
def un_i {α:Type}(row:List Cell)(k:Int->Option α):Option α:=match row with
  |[.val (.int .i64 x0)]=>k x0
  |_=>none
theorem qoC {α:Type}{row:List Cell}{k:Int->Option α}{r:α}(h:un_i row k=some r):∃ x0,row=[.val (.int .i64 x0)]/\k x0=some r:=by
  unfold un_i at h;split at h
  . exact⟨_,rfl,h⟩
  . cases h
theorem qA8 {R:Type}{cx:Cx}{fn:Func}{K:List TItem}{F:Fr}{res:R->ARes}{bx:R->List (List Cell)}{L:List AF}{i:Nat}{rows:Rs}{n:Int}{k:Int->Option R}(h:∀ x0,∀ h:0<=n/\rows[n.toNat]? = some [.val (.int .i64 x0)],Snd cx fn K F res bx (rA i h rfl::L) (k x0)):Snd cx fn K F res bx L (ixR rows (tg i n) fun l=>un_i l k):=⟨fun r e=>by
  obtain⟨row,h1,h2⟩:=YJ e;unfold un_i at h2;split at h2
  . exact(h _ h1).ok r h2
  . cases h2⟩
def qvU {α:Type}(row:List Cell)(k:Int->Int->Int->Int->Option α):Option α:=match row with
  |[.val (.int .i64 x0),.val (.int .i64 x1),.val (.int .i64 x2),.val (.int .i64 x3)]=>k x0 x1 x2 x3
  |_=>none
theorem qvD {α:Type}{row:List Cell}{k:Int->Int->Int->Int->Option α}{r:α}(h:qvU row k=some r):∃ x0 x1 x2 x3,row=[.val (.int .i64 x0),.val (.int .i64 x1),.val (.int .i64 x2),.val (.int .i64 x3)]/\k x0 x1 x2 x3=some r:=by
  unfold qvU at h;split at h
  . exact⟨_,_,_,_,rfl,h⟩
  . cases h
theorem qx3 {R:Type}{cx:Cx}{fn:Func}{K:List TItem}{F:Fr}{res:R->ARes}{bx:R->List (List Cell)}{L:List AF}{i:Nat}{rows:Rs}{n:Int}{k:Int->Int->Int->Int->Option R}(h:∀ x0 x1 x2 x3,∀ h:0<=n/\rows[n.toNat]? = some [.val (.int .i64 x0),.val (.int .i64 x1),.val (.int .i64 x2),.val (.int .i64 x3)],Snd cx fn K F res bx (rA i h rfl::L) (k x0 x1 x2 x3)):Snd cx fn K F res bx L (ixR rows (tg i n) fun l=>qvU l k):=⟨fun r e=>by
  obtain⟨row,h1,h2⟩:=YJ e;unfold qvU at h2;split at h2
  . exact(h _ _ _ _ h1).ok r h2
  . cases h2⟩
def qEY {α:Type}(row:List Cell)(k:Int->Int->Rs->Option α):Option α:=match row with
  |[.val (.int .i64 x0),.val (.int .i64 x1),.imm x2]=>k x0 x1 x2
  |_=>none
theorem qE7 {R:Type}{cx:Cx}{fn:Func}{K:List TItem}{F:Fr}{res:R->ARes}{bx:R->List (List Cell)}{L:List AF}{i:Nat}{rows:Rs}{n:Int}{k:Int->Int->Rs->Option R}(h:∀ x0 x1 x2,∀ h:0<=n/\rows[n.toNat]? = some [.val (.int .i64 x0),.val (.int .i64 x1),.imm x2],Snd cx fn K F res bx (rA i h rfl::L) (k x0 x1 x2)):Snd cx fn K F res bx L (ixR rows (tg i n) fun l=>qEY l k):=⟨fun r e=>by
  obtain⟨row,h1,h2⟩:=YJ e;unfold qEY at h2;split at h2
  . exact(h _ _ _ h1).ok r h2
  . cases h2⟩
def qu7 {α:Type}(row:List Cell)(k:Int->Int->Rs->Int->Int->Int->Int->Int->Option α):Option α:=match row with
  |[.val (.int .i64 x0),.val (.int .i64 x1),.imm x2,.val (.int .i64 x3),.val (.int .u64 x4),.val (.int .i64 x5),.val (.int .i64 x6),.val (.int .i64 x7)]=>k x0 x1 x2 x3 x4 x5 x6 x7
  |_=>none
theorem qvi {α:Type}{row:List Cell}{k:Int->Int->Rs->Int->Int->Int->Int->Int->Option α}{r:α}(h:qu7 row k=some r):∃ x0 x1 x2 x3 x4 x5 x6 x7,row=[.val (.int .i64 x0),.val (.int .i64 x1),.imm x2,.val (.int .i64 x3),.val (.int .u64 x4),.val (.int .i64 x5),.val (.int .i64 x6),.val (.int .i64 x7)]/\k x0 x1 x2 x3 x4 x5 x6 x7=some r:=by
  unfold qu7 at h;split at h
  . exact⟨_,_,_,_,_,_,_,_,rfl,h⟩
  . cases h
theorem qx4 {R:Type}{cx:Cx}{fn:Func}{K:List TItem}{F:Fr}{res:R->ARes}{bx:R->List (List Cell)}{L:List AF}{i:Nat}{rows:Rs}{n:Int}{k:Int->Int->Rs->Int->Int->Int->Int->Int->Option R}(h:∀ x0 x1 x2 x3 x4 x5 x6 x7,∀ h:0<=n/\rows[n.toNat]? = some [.val (.int .i64 x0),.val (.int .i64 x1),.imm x2,.val (.int .i64 x3),.val (.int .u64 x4),.val (.int .i64 x5),.val (.int .i64 x6),.val (.int .i64 x7)],Snd cx fn K F res bx (rA i h rfl::L) (k x0 x1 x2 x3 x4 x5 x6 x7)):Snd cx fn K F res bx L (ixR rows (tg i n) fun l=>qu7 l k):=⟨fun r e=>by
  obtain⟨row,h1,h2⟩:=YJ e;unfold qu7 at h2;split at h2
  . exact(h _ _ _ _ _ _ _ _ h1).ok r h2
  . cases h2⟩
def qvv {α:Type}(row:List Cell)(k:Int->Int->Rs->Int->Int->Int->Int->Option α):Option α:=match row with
  |[.val (.int .i64 x0),.val (.int .i64 x1),.imm x2,.val (.int .i64 x3),.val (.int .u64 x4),.val (.int .i64 x5),.val (.int .i64 x6)]=>k x0 x1 x2 x3 x4 x5 x6
  |_=>none
theorem qwF {R:Type}{cx:Cx}{fn:Func}{K:List TItem}{F:Fr}{res:R->ARes}{bx:R->List (List Cell)}{L:List AF}{i:Nat}{rows:Rs}{n:Int}{k:Int->Int->Rs->Int->Int->Int->Int->Option R}(h:∀ x0 x1 x2 x3 x4 x5 x6,∀ h:0<=n/\rows[n.toNat]? = some [.val (.int .i64 x0),.val (.int .i64 x1),.imm x2,.val (.int .i64 x3),.val (.int .u64 x4),.val (.int .i64 x5),.val (.int .i64 x6)],Snd cx fn K F res bx (rA i h rfl::L) (k x0 x1 x2 x3 x4 x5 x6)):Snd cx fn K F res bx L (ixR rows (tg i n) fun l=>qvv l k):=⟨fun r e=>by
  obtain⟨row,h1,h2⟩:=YJ e;unfold qvv at h2;split at h2
  . exact(h _ _ _ _ _ _ _ h1).ok r h2
  . cases h2⟩
def qx5 {α:Type}(row:List Cell)(k:Int->Int->Option α):Option α:=match row with
  |[.val (.int .i64 x0),.val (.int .u64 x1)]=>k x0 x1
  |_=>none
theorem qx6 {α:Type}{row:List Cell}{k:Int->Int->Option α}{r:α}(h:qx5 row k=some r):∃ x0 x1,row=[.val (.int .i64 x0),.val (.int .u64 x1)]/\k x0 x1=some r:=by
  unfold qx5 at h;split at h
  . exact⟨_,_,rfl,h⟩
  . cases h
theorem qFO {R:Type}{cx:Cx}{fn:Func}{K:List TItem}{F:Fr}{res:R->ARes}{bx:R->List (List Cell)}{L:List AF}{i:Nat}{rows:Rs}{n:Int}{k:Int->Int->Option R}(h:∀ x0 x1,∀ h:0<=n/\rows[n.toNat]? = some [.val (.int .i64 x0),.val (.int .u64 x1)],Snd cx fn K F res bx (lA (i+1) h::bA i h::L) (k x0 x1)):Snd cx fn K F res bx L (ixR rows (tg i (tg 3 n)) fun l=>qx5 l k):=⟨fun r e=>by
  obtain⟨row,h1,h2⟩:=YJ e;unfold qx5 at h2;split at h2
  . exact(h _ _ h1).ok r h2
  . cases h2⟩
theorem qBF {R:Type}{cx:Cx}{fn:Func}{K:List TItem}{F:Fr}{res:R->ARes}{bx:R->List (List Cell)}{L:List AF}{i:Nat}{rows:Rs}{n:Int}{k:Int->Int->Option R}(h:∀ x0 x1,∀ h:0<=n/\rows[n.toNat]? = some [.val (.int .i64 x0),.val (.int .u64 x1)],Snd cx fn K F res bx (rA i h rfl::L) (k x0 x1)):Snd cx fn K F res bx L (ixR rows (tg i n) fun l=>qx5 l k):=⟨fun r e=>by
  obtain⟨row,h1,h2⟩:=YJ e;unfold qx5 at h2;split at h2
  . exact(h _ _ h1).ok r h2
  . cases h2⟩
def un_m {α:Type}(row:List Cell)(k:Rs->Option α):Option α:=match row with
  |[.imm x0]=>k x0
  |_=>none
theorem qFX {R:Type}{cx:Cx}{fn:Func}{K:List TItem}{F:Fr}{res:R->ARes}{bx:R->List (List Cell)}{L:List AF}{i:Nat}{rows:Rs}{n:Int}{k:Rs->Option R}(h:∀ x0,∀ h:0<=n/\rows[n.toNat]? = some [.imm x0],Snd cx fn K F res bx (rA i h rfl::L) (k x0)):Snd cx fn K F res bx L (ixR rows (tg i n) fun l=>un_m l k):=⟨fun r e=>by
  obtain⟨row,h1,h2⟩:=YJ e;unfold un_m at h2;split at h2
  . exact(h _ h1).ok r h2
  . cases h2⟩
def qu9 {α:Type}(row:List Cell)(k0:Int->Int->Int->Int->Int->Int->Int->Option α)(k1:Int->Int->Rs->Int->Int->Int->Int->Int->Option α):Option α:=match row with
  |[.val (.int .i64 x0),.val (.int .i64 x1),.nil,.val (.int .i64 x3),.val (.int .u64 x4),.val (.int .i64 x5),.val (.int .i64 x6),.val (.int .i64 x7)]=>k0 x0 x1 x3 x4 x5 x6 x7
  |[.val (.int .i64 x0),.val (.int .i64 x1),.imm x2,.val (.int .i64 x3),.val (.int .u64 x4),.val (.int .i64 x5),.val (.int .i64 x6),.val (.int .i64 x7)]=>k1 x0 x1 x2 x3 x4 x5 x6 x7
  |_=>none
theorem qv3 {α:Type}{row:List Cell}{k0:Int->Int->Int->Int->Int->Int->Int->Option α}{k1:Int->Int->Rs->Int->Int->Int->Int->Int->Option α}{r:α}(h:qu9 row k0 k1=some r):(∃ x0 x1 x3 x4 x5 x6 x7,row=[.val (.int .i64 x0),.val (.int .i64 x1),.nil,.val (.int .i64 x3),.val (.int .u64 x4),.val (.int .i64 x5),.val (.int .i64 x6),.val (.int .i64 x7)]/\k0 x0 x1 x3 x4 x5 x6 x7=some r)\/(∃ x0 x1 x2 x3 x4 x5 x6 x7,row=[.val (.int .i64 x0),.val (.int .i64 x1),.imm x2,.val (.int .i64 x3),.val (.int .u64 x4),.val (.int .i64 x5),.val (.int .i64 x6),.val (.int .i64 x7)]/\k1 x0 x1 x2 x3 x4 x5 x6 x7=some r):=by
  unfold qu9 at h;split at h
  . exact .inl ⟨_,_,_,_,_,_,_,rfl,h⟩
  . exact .inr (⟨_,_,_,_,_,_,_,_,rfl,h⟩)
  . cases h
def qtJ:R55->ARes
 |r=>.ret (cbc r)
noncomputable def qsu (k:Nat)(rec:S55->Option R55):S55->Option R55
 |.e a b c d=>
  bif tg 5 (decide (b<1))then
   rec (tg 5 (.h0 true a b c d))
  else
   bif tg 9 (decide (b>4))then
    rec (tg 5 (.h0 true a b c d))
   else
    bif tg 14 (decide (c<0))then
     rec (tg 5 (.h0 true a b c d))
    else
     bif tg 19 (decide (c>=8))then
      rec (tg 5 (.h0 true a b c d))
     else
      bif tg 24 (decide (d<(-1)))then
       rec (tg 5 (.h0 true a b c d))
      else
       rec (tg 5 (.h0 (decide (d>=8)) a b c d))
 |.h0 a b _ c d=>
  bif a then
   some false
  else
   bif tg 34 (b==41)then
    some (c==0)
   else
    bif tg 41 (b==25)then
     some (d==0)
    else
     bif tg 47 (b==42)then
      some true
     else
      bif tg 51 (decide (b>=26))then
       some (decide (b<=31))
      else
       some false
noncomputable def g55 (k:Nat)(a b c d:Int):Option R55:=itS qsu k (.e a b c d)
def P55:S55->R55->Prop
 |.e a b c d=>Fe Y55 qtJ nB [.ag [ic a,ic b,ic c,ic d]] []
 |.h0 a b c d e=>Fk Y55 qtJ nB [1,0,1,2] ([.deadv,pL 1]++rd 28++[cbc a]++rd 27) [(.loc 1,[ic b,ic c,ic d,ic e])]
theorem ok55:∀ k s r,itS qsu k s=some r->P55 s r:=okU trivial
instance {k:Nat} {a b c d:Int}:EvI (g55 k a b c d) 55 [.ag [ic a,ic b,ic c,ic d]] [] qtJ nB:=eI ok55
def qsg:R104->ARes
 |r=>.ret (.c (.val (.int .u64 r)))
noncomputable def qzd (k:Nat)(rec:S104->Option R104):S104->Option R104
 |.e a=>
  bif tg 5 (decide ((IntKind.u64.wrap ((BitVec.ofInt 64 a &&& ~~~ BitVec.ofInt 64 9223372036854775808).toNat:Int))>9218868437227405312))then
   some 9221120237041090560
  else
   some a
noncomputable def g104 (k:Nat)(a:Int):Option R104:=itS qzd k (.e a)
def P104:S104->R104->Prop
 |.e a=>Fe Y104 qsg nB [.c (.val (.int .u64 a))] []
theorem qEo:∀ k s r,itS qzd k s=some r->P104 s r:=okU trivial
instance {k:Nat} {a:Int}:EvI (g104 k a) 104 [.c (.val (.int .u64 a))] [] qsg nB:=eI qEo
def qtK:R56->ARes
 |(a,b)=>.ret (.ag [ic a,.val (.int .u64 b)])
noncomputable def qsv (k:Nat)(rec:S56->Option R56):S56->Option R56
 |.e a b=>
  bif tg 6 (a==1)then
   some (a,b)
  else
   bif tg 11 (a==2)then
    rec (tg 10 (.h0 (decide (b<2)) 0 0 a b))
   else
    rec (tg 10 (.h0 false 0 0 a b))
 |.h0 a b c d e=>
  bif a then
   rec (tg 2 (.h1 a b c d e))
  else
   bif tg 19 (d==3)then
    rec (tg 2 (.h1 (decide (e<64)) b c d e))
   else
    rec (tg 2 (.h1 false b c d e))
 |.h1 a _ _ b c=>
  bif a then
   some (b,c)
  else
   bif tg 29 (b==4)then
    (tg 32 (g104 k c)).bind fun d=>
    some (4,d)
   else
    some (0,0)
noncomputable def g56 (k:Nat)(a b:Int):Option R56:=itS qsv k (.e a b)
def P56:S56->R56->Prop
 |.e a b=>Fe Y56 qtK nB [.ag [ic a,.val (.int .u64 b)]] []
 |.h0 a b c d e=>Fk Y56 qtK nB [1,0,0,1,1,0,1,2] ([.deadv,pL 1,pL 2]++rd 5++[cbc a]++rd 26) [(.loc 2,[ic b,.val (.int .u64 c)]),(.loc 1,[ic d,.val (.int .u64 e)])]
 |.h1 a b c d e=>Fk Y56 qtK nB [1,0,0,1,1,1,2] ([.deadv,pL 1,pL 2]++rd 5++[cbc a]++rd 26) [(.loc 2,[ic b,.val (.int .u64 c)]),(.loc 1,[ic d,.val (.int .u64 e)])]
theorem ok56:∀ k s r,itS qsv k s=some r->P56 s r:=okU trivial
instance {k:Nat} {a b:Int}:EvI (g56 k a b) 56 [.ag [ic a,.val (.int .u64 b)]] [] qtK nB:=eI ok56
def qAT:R57->ARes
 |(r,_,_,_,_,_)=>.ret (cbc r)
def bx57 (b0_0 b0_1:Int):R57->List (List Cell)
 |(_,a,b,c,d,e)=>[[ic b0_0,ic b0_1,.imm a,.imm b,.imm c,.mp d,.mp e]]
noncomputable def qvz (k:Nat)(rec:S57->Option R57):S57->Option R57
 |.e a b c d e f g i j l m=>
  bif decide (b>=0)then
   rec (.h0 (decide (b<e)) (a==50) a b c d e f g i j l m)
  else
   rec (.h0 false (a==50) a b c d e f g i j l m)
 |.h0 a b c d e f g i j l m n o=>
  bif b then
   bif a then
    bif f==0 then
     bif decide (e>=0)then
      some (decide (e<(j.length:Int)),j,l,m,n,o)
     else
      some (false,j,l,m,n,o)
    else
     some (false,j,l,m,n,o)
   else
    some (false,j,l,m,n,o)
  else
   bif c==51 then
    bif a then
     bif f==0 then
      bif decide (e>=0)then
       some (decide (e<(l.length:Int)),j,l,m,n,o)
      else
       some (false,j,l,m,n,o)
     else
      some (false,j,l,m,n,o)
    else
     some (false,j,l,m,n,o)
   else
    bif c==53 then
     bif d==0 then
      bif decide (e>=0)then
       bif decide (e<i)then
        (yU Tryz.prog 3 (.int .i64 f) n).bind fun p=>
        optC p (
          some (false,j,l,m,n,o)) fun q=>
         un_b q fun t=>
         some (t,j,l,m,n,o)
       else
        some (false,j,l,m,n,o)
      else
       some (false,j,l,m,n,o)
     else
      some (false,j,l,m,n,o)
    else
     bif c==54 then
      bif a then
       bif f==0 then
        (yU Tryz.prog 3 (.int .i64 e) o).bind fun u=>
        optC u (
          some (false,j,l,m,n,o)) fun v=>
         un_b v fun w=>
         some (w,j,l,m,n,o)
       else
        some (false,j,l,m,n,o)
      else
       some (false,j,l,m,n,o)
     else
      bif c==52 then
       bif d==0 then
        bif f==0 then
         (yU Tryz.prog 3 (.int .i64 e) n).bind fun x=>
         optC x (
           some (false,j,l,m,n,o)) fun y=>
          un_b y fun z=>
          some (z,j,l,m,n,o)
        else
         some (false,j,l,m,n,o)
       else
        some (false,j,l,m,n,o)
      else
       bif c==6 then
        rec (.h1 a true c d e f g i j l m n o)
       else
        bif decide (c>=15)then
         rec (.h1 a (decide (c<=17)) c d e f g i j l m n o)
        else
         rec (.h1 a false c d e f g i j l m n o)
 |.h1 a b c _ d e _ _ f g i j l=>
  bif b then
   bif a then
    bif e==0 then
     (yU Tryz.prog 3 (.int .i64 d) j).bind fun m=>
     optC m (
       some (false,f,g,i,j,l)) fun n=>
      un_b n fun o=>
      some (o,f,g,i,j,l)
    else
     some (false,f,g,i,j,l)
   else
    some (false,f,g,i,j,l)
  else
   bif decide (c>=1)then
    bif decide (c<=14)then
     bif a then
      (yU Tryz.prog 3 (.int .i64 d) j).bind fun p=>
      optC p (
        some (false,f,g,i,j,l)) fun q=>
       un_b q fun t=>
       bif t then
        (yU Tryz.prog 3 (.int .i64 e) j).bind fun u=>
        optC u (
          some (false,f,g,i,j,l)) fun v=>
         un_b v fun w=>
         some (w,f,g,i,j,l)
       else
        some (false,f,g,i,j,l)
     else
      some (false,f,g,i,j,l)
    else
     some (false,f,g,i,j,l)
   else
    some (false,f,g,i,j,l)
noncomputable def g57 (k:Nat)(a b c d e f:Int)(g i j:Rs)(l m:Es):Option R57:=itS qvz k (.e a b c d e f g i j l m)
def P57:S57->R57->Prop
 |.e a b c d e f g i j l m=>Fe Y57 qAT (bx57 e f) [pP 0,.ag [ic a,ic b,ic c,ic d]] [[ic e,ic f,.imm g,.imm i,.imm j,.mp l,.mp m]]
 |.h0 a b c d e f g i j l m n o=>Fk Y57 qAT (bx57 g i) [1,1,0,0,1,2] ([pP 0,.deadv,.deadv,pL 3,.deadv,cbc a]++rd 13++[cbc b]++rd 180) [(.loc 3,[ic c,ic d,ic e,ic f]),(.par 0,[ic g,ic i,.imm j,.imm l,.imm m,.mp n,.mp o])]
 |.h1 a b c d e f g i j l m n o=>Fk Y57 qAT (bx57 g i) [1,1,0,0,1,1,1,1,1,1,1,1,1,1,1,2] ([pP 0,.deadv,.deadv,pL 3,.deadv,cbc a]++rd 136++[cbc b]++rd 57) [(.loc 3,[ic c,ic d,ic e,ic f]),(.par 0,[ic g,ic i,.imm j,.imm l,.imm m,.mp n,.mp o])]
abbrev E57 (a b c d e f:Int)(g i j:Rs)(l m:Es)(r:R57):Prop:=Ev Tryz.prog noHand 57 [pP 0,.ag [ic a,ic b,ic c,ic d]] [[ic e,ic f,.imm g,.imm i,.imm j,.mp l,.mp m]] (qAT r) (bx57 e f r)
theorem qEg {a b c d e f:Int}{g i j:Rs}{l m:Es}{r:R57}(h:P57 (.e a b c d e f g i j l m) r):E57 a b c d e f g i j l m r:=evF h
theorem qEw {k:Nat}{rec:S57->Option R57}(ih:∀ s r,rec s=some r->P57 s r):∀ (s:S57) (r:R57),(match s with|.e ..=>True|_=>False)->qvz k rec s=some r->P57 s r
 |.e ..,r,_,h=>by
  replace h:=qa h;rcases h with⟨a,h⟩|⟨a,h⟩
  . exact mA 1 (ih _ _ h) 8 [tT 8 a] 200 1606938044258990275541962092341162602522202993782792834777046
  . exact mA 1 (ih _ _ h) 8 [tF 8 a] 200 1606938044258990275541962092341162602522202993782792834777046
 |.h0 ..,_,hf,_=>hf.elim
 |.h1 ..,_,hf,_=>hf.elim
theorem qDw {k:Nat}{rec:S57->Option R57}(ih:∀ s r,rec s=some r->P57 s r):∀ (s:S57) (r:R57),(match s with|.h0 ..=>True|_=>False)->qvz k rec s=some r->P57 s r
 |.h0 ..,r,_,h=>by
  replace h:=qa h;rcases h with⟨rfl,h⟩|⟨rfl,h⟩
  .
   replace h:=qa h;rcases h with⟨rfl,h⟩|⟨rfl,h⟩
   .
    replace h:=qa h;rcases h with⟨a,h⟩|⟨a,h⟩
    . replace h:=qa h;rcases h with⟨b,h⟩|⟨b,h⟩
      . cases h;exact mF 1 [tT 27 a,tT 32 b]
      . cases h;exact mF 1 [tT 27 a,tF 32 b]
    . cases h;exact mF 1 [tF 27 a]
   . cases h;exact mF 1 []
  .
   replace h:=qa h;rcases h with⟨a,h⟩|⟨a,h⟩
   .
    replace h:=qa h;rcases h with⟨rfl,h⟩|⟨rfl,h⟩
    .
     replace h:=qa h;rcases h with⟨b,h⟩|⟨b,h⟩
     . replace h:=qa h;rcases h with⟨c,h⟩|⟨c,h⟩
       . cases h;exact mF 1 [tT 48 a,tT 53 b,tT 58 c]
       . cases h;exact mF 1 [tT 48 a,tT 53 b,tF 58 c]
     . cases h;exact mF 1 [tT 48 a,tF 53 b]
    . cases h;exact mF 1 [tT 48 a]
   .
    replace h:=qa h;rcases h with⟨b,h⟩|⟨b,h⟩
    .
     replace h:=qa h;rcases h with⟨c,h⟩|⟨c,h⟩
     .
      replace h:=qa h;rcases h with⟨d,h⟩|⟨d,h⟩
      . replace h:=qa h;rcases h with⟨e,h⟩|⟨e,h⟩
        . replace h:=qh h;obtain⟨_,f,h⟩:=h;replace h:=qgU h;rcases h with⟨_,rfl,h⟩|⟨rfl,h⟩
          . replace h:=qvF h;obtain⟨g,rfl,h⟩:=h;cases h;exact mF 1 [tF 48 a,tT 74 b,tT 77 c,tT 81 d,tT 91 e,⟨(some 100,.look (some [bc g])),[_],⟨f,trivial⟩⟩]
          . cases h;exact mF 1 [tF 48 a,tT 74 b,tT 77 c,tT 81 d,tT 91 e,⟨(some 100,.look none),[_],⟨f,trivial⟩⟩]
        . cases h;exact mF 1 [tF 48 a,tT 74 b,tT 77 c,tT 81 d,tF 91 e]
      . cases h;exact mF 1 [tF 48 a,tT 74 b,tT 77 c,tF 81 d]
     . cases h;exact mF 1 [tF 48 a,tT 74 b,tF 77 c]
    .
     replace h:=qa h;rcases h with⟨c,h⟩|⟨c,h⟩
     .
      replace h:=qa h;rcases h with⟨rfl,h⟩|⟨rfl,h⟩
      . replace h:=qa h;rcases h with⟨d,h⟩|⟨d,h⟩
        . replace h:=qh h;obtain⟨_,i,h⟩:=h;replace h:=qgU h;rcases h with⟨_,rfl,h⟩|⟨rfl,h⟩
          . replace h:=qvF h;obtain⟨j,rfl,h⟩:=h;cases h;exact mF 1 [tF 48 a,tF 74 b,tT 105 c,tT 110 d,⟨(some 119,.look (some [bc j])),[_],⟨i,trivial⟩⟩]
          . cases h;exact mF 1 [tF 48 a,tF 74 b,tT 105 c,tT 110 d,⟨(some 119,.look none),[_],⟨i,trivial⟩⟩]
        . cases h;exact mF 1 [tF 48 a,tF 74 b,tT 105 c,tF 110 d]
      . cases h;exact mF 1 [tF 48 a,tF 74 b,tT 105 c]
     .
      replace h:=qa h;rcases h with⟨d,h⟩|⟨d,h⟩
      .
       replace h:=qa h;rcases h with⟨e,h⟩|⟨e,h⟩
       . replace h:=qa h;rcases h with⟨i,h⟩|⟨i,h⟩
         . replace h:=qh h;obtain⟨_,l,h⟩:=h;replace h:=qgU h;rcases h with⟨_,rfl,h⟩|⟨rfl,h⟩
           . replace h:=qvF h;obtain⟨m,rfl,h⟩:=h;cases h;exact mF 1 [tF 48 a,tF 74 b,tF 105 c,tT 124 d,tT 127 e,tT 131 i,⟨(some 140,.look (some [bc m])),[_],⟨l,trivial⟩⟩]
           . cases h;exact mF 1 [tF 48 a,tF 74 b,tF 105 c,tT 124 d,tT 127 e,tT 131 i,⟨(some 140,.look none),[_],⟨l,trivial⟩⟩]
         . cases h;exact mF 1 [tF 48 a,tF 74 b,tF 105 c,tT 124 d,tT 127 e,tF 131 i]
       . cases h;exact mF 1 [tF 48 a,tF 74 b,tF 105 c,tT 124 d,tF 127 e]
      . replace h:=qa h;rcases h with⟨e,h⟩|⟨e,h⟩
        . exact mA 1 (ih _ _ h) 15 [tF 48 a,tF 74 b,tF 105 c,tF 124 d,tT 145 e] 200 1606938044258990269966775792708506817138273425620702458806230
        . replace h:=qa h;rcases h with⟨i,h⟩|⟨i,h⟩
          . exact mA 1 (ih _ _ h) 15 [tF 48 a,tF 74 b,tF 105 c,tF 124 d,tF 145 e,tT 149 i] 200 1606938044258990269966775792708506817138273425620702458806230
          . exact mA 1 (ih _ _ h) 15 [tF 48 a,tF 74 b,tF 105 c,tF 124 d,tF 145 e,tF 149 i] 200 1606938044258990269966775792708506817138273425620702458806230
 |.e ..,_,hf,_=>hf.elim
 |.h1 ..,_,hf,_=>hf.elim
theorem qDx {k:Nat}{rec:S57->Option R57}(ih:∀ s r,rec s=some r->P57 s r):∀ (s:S57) (r:R57),(match s with|.h1 ..=>True|_=>False)->qvz k rec s=some r->P57 s r
 |.h1 ..,r,_,h=>by
  replace h:=qa h;rcases h with⟨rfl,h⟩|⟨rfl,h⟩
  .
   replace h:=qa h;rcases h with⟨rfl,h⟩|⟨rfl,h⟩
   .
    replace h:=qa h;rcases h with⟨a,h⟩|⟨a,h⟩
    . replace h:=qh h;obtain⟨_,b,h⟩:=h;replace h:=qgU h;rcases h with⟨_,rfl,h⟩|⟨rfl,h⟩
      . replace h:=qvF h;obtain⟨c,rfl,h⟩:=h;cases h;exact mF 1 [tT 160 a,⟨(some 169,.look (some [bc c])),[_],⟨b,trivial⟩⟩]
      . cases h;exact mF 1 [tT 160 a,⟨(some 169,.look none),[_],⟨b,trivial⟩⟩]
    . cases h;exact mF 1 [tF 160 a]
   . cases h;exact mF 1 []
  .
   replace h:=qa h;rcases h with⟨a,h⟩|⟨a,h⟩
   .
    replace h:=qa h;rcases h with⟨d,h⟩|⟨d,h⟩
    .
     replace h:=qa h;rcases h with⟨rfl,h⟩|⟨rfl,h⟩
     .
      replace h:=qh h;obtain⟨_,e,h⟩:=h;replace h:=qgU h;rcases h with⟨_,rfl,h⟩|⟨rfl,h⟩
      . replace h:=qvF h;obtain⟨_,rfl,h⟩:=h;replace h:=qa h;rcases h with⟨rfl,h⟩|⟨rfl,h⟩
        . replace h:=qh h;obtain⟨_,f,h⟩:=h;replace h:=qgU h;rcases h with⟨_,rfl,h⟩|⟨rfl,h⟩
          . replace h:=qvF h;obtain⟨g,rfl,h⟩:=h;cases h;exact mF 1 [tT 173 a,tT 177 d,⟨(some 189,.look (some [bc true])),[_],⟨e,trivial⟩⟩,⟨(some 198,.look (some [bc g])),[_],⟨f,trivial⟩⟩]
          . cases h;exact mF 1 [tT 173 a,tT 177 d,⟨(some 189,.look (some [bc true])),[_],⟨e,trivial⟩⟩,⟨(some 198,.look none),[_],⟨f,trivial⟩⟩]
        . cases h;exact mF 1 [tT 173 a,tT 177 d,⟨(some 189,.look (some [bc false])),[_],⟨e,trivial⟩⟩]
      . cases h;exact mF 1 [tT 173 a,tT 177 d,⟨(some 189,.look none),[_],⟨e,trivial⟩⟩]
     . cases h;exact mF 1 [tT 173 a,tT 177 d]
    . cases h;exact mF 1 [tT 173 a,tF 177 d]
   . cases h;exact mF 1 [tF 173 a]
 |.e ..,_,hf,_=>hf.elim
 |.h0 ..,_,hf,_=>hf.elim
theorem ok57:∀ k s r,itS qvz k s=some r->P57 s r:=qF fun k rec ih s r h=>match s,h with
 |.e ..,h=>qEw ih _ _ trivial h
 |.h0 ..,h=>qDw ih _ _ trivial h
 |.h1 ..,h=>qDx ih _ _ trivial h
theorem ev57 {k:Nat}{a b c d e f:Int}{g i j:Rs}{l m:Es}{r:R57}(h:g57 k a b c d e f g i j l m=some r):E57 a b c d e f g i j l m r:=qEg (ok57 _ _ _ h)
instance {k:Nat} {a b c d e f:Int} {g i j:Rs} {l m:Es}:EvI (g57 k a b c d e f g i j l m) 57 [pP 0,.ag [ic a,ic b,ic c,ic d]] [[ic e,ic f,.imm g,.imm i,.imm j,.mp l,.mp m]] qAT (bx57 e f):=⟨fun r h=>ev57 h⟩
noncomputable def qve (k:Nat)(rec:S19->Option R19):S19->Option R19
 |.e a b c d e=>
  bif decide (a<1)then
   rec (.h0 true a b c d e)
  else
   bif decide (a>1024)then
    rec (.h0 true a b c d e)
   else
    bif decide (b<0)then
     rec (.h0 true a b c d e)
    else
     bif decide (b>256)then
      rec (.h0 true a b c d e)
     else
      bif decide ((e.length:Int)<1)then
       rec (.h0 true a b c d e)
      else
       rec (.h0 (decide ((e.length:Int)>1024)) a b c d e)
 |.h0 a b c d e f=>
  bif a then
   some false
  else
   rec (.h1 d (d.length:Int) 0 b c d e f)
 |.h1 a b c d e f g i=>
  bif decide (c<b)then
   ixR a c fun j=>
   qvU j fun l m n o=>
   (g55 k l m n o).bind fun p=>
   bif !p then
    some false
   else
    rec (.h1 a b (IntKind.i64.wrap (c+1)) d e f g i)
  else
   rec (.h2 g (g.length:Int) 0 d e f g i)
 |.h2 a b c d e f g i=>
  bif decide (c<b)then
   ixR a c fun j=>
   qx5 j fun l m=>
   (g56 k l m).bind fun n=>
   tup2 n fun o p=>
   bif !(o==l&&(p==m&&true))then
    some false
   else
    rec (.h2 a b (IntKind.i64.wrap (c+1)) d e f g i)
  else
   rec (.h3 i (i.length:Int) 0 d e f g i [] [] d e f g i)
 |.h3 a b c d e f g i j l m n o p q=>
  bif decide (c<b)then
   ixR a c fun t=>
   qvU t fun u v w x=>
   (g57 k u v w x d e f g i j l).bind fun y=>
   tup6 y fun z a1 b1 c1 d1 e1=>
   bif !z then
    rec (.h4 a b c true u v w x d e a1 b1 c1 d1 e1 m n o p q)
   else
    rec (.h4 a b c ((u==52)!=(c==(IntKind.i64.wrap ((q.length:Int)-1)))) u v w x d e a1 b1 c1 d1 e1 m n o p q)
  else
   some true
 |.h4 a b c d e f g _ i j l m n o p q t u v w=>
  bif d then
   some false
  else
   bif e==53 then
    (xL Tryz.prog 3 (.int .i64 g) [bc true] p).bind fun x=>
    rec (.h5 a b c i j l m n o x q t u v w)
   else
    bif e != 52 then
     (xL Tryz.prog 3 (.int .i64 f) [bc true] o).bind fun y=>
     rec (.h5 a b c i j l m n y p q t u v w)
    else
     rec (.h5 a b c i j l m n o p q t u v w)
 |.h5 a b c d e f g i j l m n o p q=>rec (.h3 a b (IntKind.i64.wrap (c+1)) d e f g i j l m n o p q)
noncomputable def g19 (k:Nat)(a b:Int)(c d e:Rs):Option R19:=itS qve k (.e a b c d e)
def P19:S19->R19->Prop
 |.e a b c d e=>Fe Y19 qtJ nB [.ag [ic a,ic b,.imm c,.imm d,.imm e]] []
 |.h0 a b c d e f=>Fk Y19 qtJ nB [1,0,1,2] ([.deadv,pL 1]++rd 37++[cbc a]++rd 71) [(.loc 1,[ic b,ic c,.imm d,.imm e,.imm f])]
 |.h1 a b c d e f g i=>Fk Y19 qtJ nB [1,1,0,1,0,4] ([.deadv,pL 1]++rd 39++[cm a,cic b,cic c]++rd 67) [(.loc 1,[ic d,ic e,.imm f,.imm g,.imm i])]
 |.h2 a b c d e f g i=>Fk Y19 qtJ nB [1,1,1,0,1,0,4] ([.deadv,pL 1]++rd 50++[cm a,cic b,cic c]++rd 56) [(.loc 1,[ic d,ic e,.imm f,.imm g,.imm i])]
 |.h3 a b c d e f g i j l m n o p q=>Fk Y19 qtJ nB [1,1,1,1,1,0,1,0,4] ([.deadv,pL 1]++rd 5++[pL 67]++rd 61++[cm a,cic b,cic c]++rd 39) [(.loc 67,[ic d,ic e,.imm f,.imm g,.imm i,.mp j,.mp l]),(.loc 1,[ic m,ic n,.imm o,.imm p,.imm q])]
 |.h4 a b c d e f g i j l m n o p q t u v w x=>Fk Y19 qtJ nB [1,1,1,1,1,0,1,0,0,1,1,0,0,1,0,1,2] ([.deadv,pL 1]++rd 5++[pL 67,.deadv,pL 9]++rd 59++[cm a,cic b,cic c]++rd 19++[cbc d]++rd 19) [(.loc 9,[ic e,ic f,ic g,ic i]),(.loc 67,[ic j,ic l,.imm m,.imm n,.imm o,.mp p,.mp q]),(.loc 1,[ic t,ic u,.imm v,.imm w,.imm x])]
 |.h5 a b c d e f g i j l m n o p q=>Fk Y19 qtJ nB [1,1,1,1,1,0,1,0,0,1,1,1,2] ([.deadv,pL 1]++rd 5++[pL 67]++rd 61++[cm a,cic b,cic c]++rd 39) [(.loc 67,[ic d,ic e,.imm f,.imm g,.imm i,.mp j,.mp l]),(.loc 1,[ic m,ic n,.imm o,.imm p,.imm q])]
abbrev E19 (a b:Int)(c d e:Rs)(r:R19):Prop:=Ev Tryz.prog noHand 19 [.ag [ic a,ic b,.imm c,.imm d,.imm e]] [] (qtJ r) (nB r)
theorem qEf {a b:Int}{c d e:Rs}{r:R19}(h:P19 (.e a b c d e) r):E19 a b c d e r:=evF h
theorem ok19:∀ k s r,itS qve k s=some r->P19 s r:=qF fun k rec ih s r h=>match s,h with
 |.e ..,h=>by
  replace h:=qa h;rcases h with⟨a,h⟩|⟨a,h⟩
  . exact mA 0 (ih _ _ h) 5 [tT 12 a] 111 2596148429267413814264698408796157
  .
   replace h:=qa h;rcases h with⟨b,h⟩|⟨b,h⟩
   . exact mA 0 (ih _ _ h) 5 [tF 12 a,tT 16 b] 111 2596148429267413814264698408796157
   .
    replace h:=qa h;rcases h with⟨c,h⟩|⟨c,h⟩
    . exact mA 0 (ih _ _ h) 5 [tF 12 a,tF 16 b,tT 21 c] 111 2596148429267413814264698408796157
    .
     replace h:=qa h;rcases h with⟨d,h⟩|⟨d,h⟩
     . exact mA 0 (ih _ _ h) 5 [tF 12 a,tF 16 b,tF 21 c,tT 26 d] 111 2596148429267413814264698408796157
     . replace h:=qa h;rcases h with⟨e,h⟩|⟨e,h⟩
       . exact mA 0 (ih _ _ h) 5 [tF 12 a,tF 16 b,tF 21 c,tF 26 d,tT 32 e] 111 2596148429267413814264698408796157
       . exact mA 0 (ih _ _ h) 5 [tF 12 a,tF 16 b,tF 21 c,tF 26 d,tF 32 e] 111 2596148429267413814264698408796157
 |.h0 ..,h=>by
  replace h:=qa h;rcases h with⟨rfl,h⟩|⟨rfl,h⟩
  . cases h;exact mF 0 []
  . exact mA 0 (ih _ _ h) 7 [] 111 2596148429267413814249855001821181
 |.h1 ..,h=>by
  replace h:=qa h;rcases h with⟨a,h⟩|⟨a,h⟩
  . replace h:=YJ h;obtain⟨_,b,h⟩:=h;replace h:=qvD h;obtain⟨_,_,_,_,rfl,h⟩:=h;replace h:=qh h;obtain⟨_,c,h⟩:=h;replace h:=qa h;rcases h with⟨d,h⟩|⟨d,h⟩
    . cases h;exact mF 0 [tT 44 a,rA 45 b,cA 48 (evI c),tT 49 d]
    . exact mG 0 (ih _ _ h) 16 [tT 44 a,rA 45 b,cA 48 (evI c),tF 49 d] 111 2596148429267413814249855001821181 [4] []
  . exact mA 0 (ih _ _ h) 11 [tF 44 a] 111 2596148429267413782740050773016573
 |.h2 ..,h=>by
  replace h:=qa h;rcases h with⟨a,h⟩|⟨a,h⟩
  . replace h:=YJ h;obtain⟨_,b,h⟩:=h;replace h:=qx6 h;obtain⟨_,_,rfl,h⟩:=h;obtain⟨_,c,h⟩:=b2 h;replace h:=qa h;rcases h with⟨d,h⟩|⟨d,h⟩
    . cases h;exact mF 0 [tT 55 a,rA 56 b,cA 59 (evI c),tT 61 d]
    . exact mG 0 (ih _ _ h) 16 [tT 55 a,rA 56 b,cA 59 (evI c),tF 61 d] 111 2596148429267413782740050773016573 [6] []
  . exact mA 0 (ih _ _ h) 13 [tF 55 a] 111 2596148429263281743592737225047933
 |.h3 ..,h=>by
  replace h:=qa h;rcases h with⟨a,h⟩|⟨a,h⟩
  . replace h:=YJ h;obtain⟨_,b,h⟩:=h;replace h:=qvD h;obtain⟨_,_,_,_,rfl,h⟩:=h;obtain⟨_,c,h⟩:=b6 h;replace h:=qa h;rcases h with⟨d,h⟩|⟨d,h⟩
    . exact mA 0 (ih _ _ h) 13 [tT 72 a,rA 74 b,cA 78 (evI c),tT 79 d] 111 2596145953383203172832187426798973
    . exact mA 0 (ih _ _ h) 13 [tT 72 a,rA 74 b,cA 78 (evI c),tF 79 d] 111 2596145953383203172832187426798973
  . cases h;exact mF 0 [tF 72 a]
 |.h4 ..,h=>by
  replace h:=qa h;rcases h with⟨rfl,h⟩|⟨rfl,h⟩
  . cases h;exact mF 0 []
  .
   replace h:=qa h;rcases h with⟨a,h⟩|⟨a,h⟩
   . replace h:=qh h;obtain⟨b,c,h⟩:=h;exact mG 0 (ih _ _ h) 7 [tT 94 a,⟨(none,.put b),[_],⟨c,trivial⟩⟩] 111 2596148429263281743592737225047933 [9] []
   . replace h:=qa h;rcases h with⟨d,h⟩|⟨d,h⟩
     . replace h:=qh h;obtain⟨e,f,h⟩:=h;exact mG 0 (ih _ _ h) 10 [tF 94 a,tT 103 d,⟨(none,.put e),[_],⟨f,trivial⟩⟩] 111 2596148429263281743592737225047933 [9] []
     . exact mG 0 (ih _ _ h) 10 [tF 94 a,tF 103 d] 111 2596148429263281743592737225047933 [9] []
 |.h5 ..,h=>by exact mA 0 (ih _ _ h) 1 [] 111 2596148429263281743592737225047933
theorem ev19 {k:Nat}{a b:Int}{c d e:Rs}{r:R19}(h:g19 k a b c d e=some r):E19 a b c d e r:=qEf (ok19 _ _ _ h)
instance {k:Nat} {a b:Int} {c d e:Rs}:EvI (g19 k a b c d e) 19 [.ag [ic a,ic b,.imm c,.imm d,.imm e]] [] qtJ nB:=⟨fun r h=>ev19 h⟩
def qu3:R105->ARes
 |r=>.ret (cic r)
noncomputable def qwL (k:Nat)(rec:S105->Option R105):S105->Option R105
 |.e a=>rec (tg 9 (.h0 1 a (a.length:Int) 0))
 |.h0 a b c d=>
  bif tg 9 (decide (d<c))then
   ixR b (tg 10 d) fun e=>
   qu7 e fun _ _ _ _ _ _ _ f=>
   rec (tg 13 (rg [5] [] (.h0 (if (IntKind.i64.wrap (a+f):Int)<1025 then IntKind.i64.wrap (a+f)else 1025) b c (IntKind.i64.wrap (d+1)))))
  else
   some a
noncomputable def g105 (k:Nat)(a:Rs):Option R105:=itS qwL k (.e a)
def P105:S105->R105->Prop
 |.e a=>Fe Y105 qu3 nB [cm a] []
 |.h0 a b c d=>Fk Y105 qu3 nB [1,1,0,1,0,4] (rd 3++[cic a,.deadv,.deadv,cm b,cic c,cic d]++rd 10) []
theorem qEp:∀ k s r,itS qwL k s=some r->P105 s r:=okU (And.intro @qx4 trivial)
instance {k:Nat} {a:Rs}:EvI (g105 k a) 105 [cm a] [] qu3 nB:=eI qEp
noncomputable def qzg (k:Nat)(rec:S200->Option R200):S200->Option R200
 |.e a=>
  bif tg 4 (a==1)then
   some true
  else
   some (a==4)
noncomputable def g200 (k:Nat)(a:Int):Option R200:=itS qzg k (.e a)
def P200:S200->R200->Prop
 |.e a=>Fe Y200 qtJ nB [cic a] []
theorem qEv:∀ k s r,itS qzg k s=some r->P200 s r:=okU trivial
instance {k:Nat} {a:Int}:EvI (g200 k a) 200 [cic a] [] qtJ nB:=eI qEv
noncomputable def qvE (k:Nat)(rec:S157->Option R157):S157->Option R157
 |.e a b=>
  bif tg 7 (a==6)then
   (tg 10 (g200 k b)).bind fun c=>
   rec (tg 6 (.h0 a b c))
  else
   rec (tg 6 (.h0 a b false))
 |.h0 a b c=>
  bif c then
   some b
  else
   bif tg 15 (a==15)then
    rec (tg 3 (.h1 a b (b==2)))
   else
    rec (tg 3 (.h1 a b false))
 |.h1 a b c=>
  bif c then
   some 2
  else
   bif tg 22 (a==16)then
    rec (tg 3 (.h2 a b (b==1)))
   else
    rec (tg 3 (.h2 a b false))
 |.h2 a b c=>
  bif c then
   some 4
  else
   bif tg 29 (a==17)then
    rec (tg 3 (.h3 (b==4)))
   else
    rec (tg 3 (.h3 false))
 |.h3 a=>
  bif a then
   some 2
  else
   some 0
noncomputable def g157 (k:Nat)(a b:Int):Option R157:=itS qvE k (.e a b)
def P157:S157->R157->Prop
 |.e a b=>Fe Y157 qu3 nB [cic a,cic b] []
 |.h0 a b c=>Fk Y157 qu3 nB [1,0,0,1,2] ([cic a,cic b]++rd 3++[cbc c]++rd 28) []
 |.h1 a b c=>Fk Y157 qu3 nB [1,0,0,1,1,1,2] ([cic a,cic b]++rd 11++[cbc c]++rd 20) []
 |.h2 a b c=>Fk Y157 qu3 nB [1,0,0,1,1,1,1,1,2] ([cic a,cic b]++rd 18++[cbc c]++rd 13) []
 |.h3 a=>Fk Y157 qu3 nB [1,0,0,1,1,1,1,1,1,1,2] (rd 27++[cbc a]++rd 6) []
theorem qEt:∀ k s r,itS qvE k s=some r->P157 s r:=okU trivial
instance {k:Nat} {a b:Int}:EvI (g157 k a b) 157 [cic a,cic b] [] qu3 nB:=eI qEt
noncomputable def qvl (k:Nat)(rec:S158->Option R158):S158->Option R158
 |.e a b=>
  bif tg 7 (decide (a>=1))then
   bif tg 10 (decide (a<=4))then
    (tg 14 (g200 k b)).bind fun c=>
    rec (tg 7 (.h0 a b c))
   else
    rec (tg 7 (.h0 a b false))
  else
   rec (tg 7 (.h0 a b false))
 |.h0 a b c=>
  bif c then
   rec (tg 2 (.h1 a b c))
  else
   bif tg 17 (a==5)then
    rec (tg 2 (.h1 a b (b==1)))
   else
    rec (tg 2 (.h1 a b false))
 |.h1 a b c=>
  bif c then
   some b
  else
   bif tg 25 (a==7)then
    bif tg 32 (decide (b>=1))then
     rec (tg 4 (.h2 a b (decide (b<=4))))
    else
     rec (tg 4 (.h2 a b false))
   else
    bif tg 28 (a==8)then
     bif tg 32 (decide (b>=1))then
      rec (tg 4 (.h2 a b (decide (b<=4))))
     else
      rec (tg 4 (.h2 a b false))
    else
     rec (tg 4 (.h2 a b false))
 |.h2 a b c=>
  bif c then
   rec (tg 2 (.h3 a b c))
  else
   bif tg 39 (decide (a>=9))then
    bif tg 42 (decide (a<=12))then
     (tg 46 (g200 k b)).bind fun d=>
     rec (tg 2 (.h3 a b d))
    else
     rec (tg 2 (.h3 a b false))
   else
    rec (tg 2 (.h3 a b false))
 |.h3 a b c=>
  bif c then
   some 2
  else
   bif tg 50 (a==13)then
    rec (tg 3 (.h4 (b==2)))
   else
    bif tg 53 (a==14)then
     rec (tg 3 (.h4 (b==2)))
    else
     rec (tg 3 (.h4 false))
 |.h4 a=>
  bif a then
   some 2
  else
   some 0
noncomputable def g158 (k:Nat)(a b:Int):Option R158:=itS qvl k (.e a b)
def P158:S158->R158->Prop
 |.e a b=>Fe Y158 qu3 nB [cic a,cic b] []
 |.h0 a b c=>Fk Y158 qu3 nB [1,0,0,0,1,2] ([cic a,cic b]++rd 3++[cbc c]++rd 53) []
 |.h1 a b c=>Fk Y158 qu3 nB [1,0,0,1,2] ([cic a,cic b]++rd 3++[cbc c]++rd 53) []
 |.h2 a b c=>Fk Y158 qu3 nB [1,0,0,1,1,0,1,2] ([cic a,cic b]++rd 21++[cbc c]++rd 35) []
 |.h3 a b c=>Fk Y158 qu3 nB [1,0,0,1,1,1,2] ([cic a,cic b]++rd 21++[cbc c]++rd 35) []
 |.h4 a=>Fk Y158 qu3 nB [1,0,0,1,1,1,1,1,2] (rd 48++[cbc a]++rd 10) []
theorem qEu:∀ k s r,itS qvl k s=some r->P158 s r:=okU trivial
instance {k:Nat} {a b:Int}:EvI (g158 k a b) 158 [cic a,cic b] [] qu3 nB:=eI qEu
noncomputable def qwM (k:Nat)(rec:S106->Option R106):S106->Option R106
 |.e a b=>
  bif tg 8 ((b.length:Int)==1)then
   ixR b (tg 11 0) fun c=>
   un_i c fun d=>
   (tg 13 (g157 k a d)).bind fun e=>
   some e
  else
   bif tg 15 ((b.length:Int)==2)then
    ixR b (tg 17 0) fun f=>
    un_i f fun g=>
    ixR b (tg 20 1) fun i=>
    un_i i fun j=>
    bif tg 22 (g==j)then
     ag 2 25 <|
     (tg 27 (g158 k a g)).bind fun l=>
     some l
    else
     rec (tg 17 (.h0))
   else
    rec (tg 14 (.h0))
 |.h0=>some 0
noncomputable def g106 (k:Nat)(a:Int)(b:Rs):Option R106:=itS qwM k (.e a b)
def P106:S106->R106->Prop
 |.e a b=>Fe Y106 qu3 nB [cic a,cm b] []
 |.h0=>Fk Y106 qu3 nB [1,1,2] (rd 28) []
theorem qEq:∀ k s r,itS qwM k s=some r->P106 s r:=okU (And.intro @qA8 trivial)
instance {k:Nat} {a:Int} {b:Rs}:EvI (g106 k a b) 106 [cic a,cm b] [] qu3 nB:=eI qEq
def qxZ:R58->ARes
 |(a,b,c,d,e,f,g,i,_,_,_,_,_)=>.ret (.ag [ic a,ic b,.imm c,ic d,.val (.int .u64 e),ic f,ic g,ic i])
def bx58 (b0_0 b0_1:Int):R58->List (List Cell)
 |(_,_,_,_,_,_,_,_,a,b,c,d,e)=>[[ic b0_0,ic b0_1,.imm a,.imm b,.imm c,.ptr ⟨⟨.par 1,[]⟩,1,0⟩,.ptr ⟨⟨.par 2,[]⟩,1,0⟩],[.mpb d],[.mpb e]]
noncomputable def qvp (k:Nat)(rec:S58->Option R58):S58->Option R58
 |.e a b c d e f g i j l m=>
  (yU Tryz.prog 3 (.int .i64 c) l).bind fun n=>
  optC n (
    bif a != 6 then
     rec (.h0 [[ic 0,ic 0,.nil,ic 0,.val (.int .u64 0),ic 0,ic 0,ic 0]] (decide (a<15)) 0 0 0 0 0 0 0 a b c d e f g i j l m)
    else
     rec (.h0 [[ic 0,ic 0,.nil,ic 0,.val (.int .u64 0),ic 0,ic 0,ic 0]] false 0 0 0 0 0 0 0 a b c d e f g i j l m)) fun o=>
   qu7 o fun p q t u v w x y=>
   bif a != 6 then
    rec (.h0 [[ic p,ic q,.imm t,ic u,.val (.int .u64 v),ic w,ic x,ic y]] (decide (a<15)) 0 0 0 0 0 0 0 a b c d e f g i j l m)
   else
    rec (.h0 [[ic p,ic q,.imm t,ic u,.val (.int .u64 v),ic w,ic x,ic y]] false 0 0 0 0 0 0 0 a b c d e f g i j l m)
 |.h0 a b c d e f g i j l m n o p q t u v w x=>
  bif b then
   (yU Tryz.prog 3 (.int .i64 o) w).bind fun y=>
   optC y (
     gd (apOk 80 8 a [[ic 0,ic 0,.nil,ic 0,.val (.int .u64 0),ic 0,ic 0,ic 0]]) <|
     rec (.h1 (a++[[ic 0,ic 0,.nil,ic 0,.val (.int .u64 0),ic 0,ic 0,ic 0]]) c d e f g i j l m n o p q t u v w x)) fun z=>
    qu7 z fun a1 b1 c1 d1 e1 f1 g1 i1=>
    gd (apOk 80 8 a [[ic a1,ic b1,.imm c1,ic d1,.val (.int .u64 e1),ic f1,ic g1,ic i1]]) <|
    rec (.h1 (a++[[ic a1,ic b1,.imm c1,ic d1,.val (.int .u64 e1),ic f1,ic g1,ic i1]]) c d e f g i j l m n o p q t u v w x)
  else
   rec (.h1 a c d e f g i j l m n o p q t u v w x)
 |.h1 a b c d e f g i j l m n o p q t u v w=>
  (g105 k (qG a)).bind fun x=>
  bif x==1025 then
   rec (.h2 j 0 [] 0 0 0 0 x o p q t u v w)
  else
   rec (.h3 a [] (a.length:Int) 0 j 0 [] 0 0 0 0 x b c d e f g i j l m n o p q t u v w)
 |.h2 a b c d e f g i _ _ j l m n o=>some (a,b,c,d,e,f,g,i,j,l,m,n,o)
 |.h3 a b c d e f g i j l m n o p q t u v w x y z a1 b1 c1 d1 e1 f1 g1 i1=>
  bif decide (d<c)then
   ixR a d fun j1=>
   qu9 j1 (fun l1 m1 n1 o1 p1 q1 _=>
    gd (apOk 72 7 g [[ic l1,ic m1,.nil,ic n1,.val (.int .u64 o1),ic p1,ic q1]]) <|
    gd (apOk 8 1 b [[ic m1]]) <|
    rec (.h4 a (b++[[ic m1]]) c d e f (g++[[ic l1,ic m1,.nil,ic n1,.val (.int .u64 o1),ic p1,ic q1]]) i j l m n o p q t u v w x y z a1 b1 c1 d1 e1 f1 g1 i1)) (fun l1 m1 t1 n1 o1 p1 q1 _=>
    gd (apOk 72 7 g [[ic l1,ic m1,.imm t1,ic n1,.val (.int .u64 o1),ic p1,ic q1]]) <|
    gd (apOk 8 1 b [[ic m1]]) <|
    rec (.h4 a (b++[[ic m1]]) c d e f (g++[[ic l1,ic m1,.imm t1,ic n1,.val (.int .u64 o1),ic p1,ic q1]]) i j l m n o p q t u v w x y z a1 b1 c1 d1 e1 f1 g1 i1))
  else
   (g106 k x (qG b)).bind fun u1=>
   rec (.h5 e u1 (qG g) i j l m n b1 c1 d1 e1 f1 g1 i1)
 |.h4 a b c d e f g i j l m n o p q t u v w x y z a1 b1 c1 d1 e1 f1 g1 i1=>rec (.h3 a b c (IntKind.i64.wrap (d+1)) e f g i j l m n o p q t u v w x y z a1 b1 c1 d1 e1 f1 g1 i1)
 |.h5 a b c d e f g i _ _ j l m n o=>some (a,b,c,d,e,f,g,i,j,l,m,n,o)
noncomputable def g58 (k:Nat)(a b c d e f:Int)(g i j:Rs)(l m:Es):Option R58:=itS qvp k (.e a b c d e f g i j l m)
def P58:S58->R58->Prop
 |.e a b c d e f g i j l m=>Fe Y58 qxZ (bx58 e f) [pP 0,.ag [ic a,ic b,ic c,ic d]] [[ic e,ic f,.imm g,.imm i,.imm j,.ptr ⟨⟨.par 1,[]⟩,1,0⟩,.ptr ⟨⟨.par 2,[]⟩,1,0⟩],[.mpb l],[.mpb m]]
 |.h0 a b c d e f g i j l m n o p q t u v w x=>Fk Y58 qxZ (bx58 p q) [1,1,0,1,2] ([pP 0,.deadv,.deadv,pL 3,pL 4,.c (.own 8 a)]++rd 19++[cbc b]++rd 49) [(.loc 4,[ic c,ic d,.nil,ic e,.val (.int .u64 f),ic g,ic i,ic j]),(.loc 3,[ic l,ic m,ic n,ic o]),(.par 0,[ic p,ic q,.imm t,.imm u,.imm v,.ptr ⟨⟨.par 1,[]⟩,1,0⟩,.ptr ⟨⟨.par 2,[]⟩,1,0⟩]),(.par 1,[.mpb w]),(.par 2,[.mpb x])]
 |.h1 a b c d e f g i j l m n o p q t u v w=>Fk Y58 qxZ (bx58 o p) [1,1,1,2] (rd 3++[pL 3,pL 4,.c (.own 8 a)]++rd 69) [(.loc 4,[ic b,ic c,.nil,ic d,.val (.int .u64 e),ic f,ic g,ic i]),(.loc 3,[ic j,ic l,ic m,ic n]),(.par 0,[ic o,ic p,.imm q,.imm t,.imm u,.ptr ⟨⟨.par 1,[]⟩,1,0⟩,.ptr ⟨⟨.par 2,[]⟩,1,0⟩]),(.par 1,[.mpb v]),(.par 2,[.mpb w])]
 |.h2 a b c d e f g i j l m n o p q=>Fk Y58 qxZ (bx58 j l) [1,1,1,1,0,1,0,1,2] (rd 4++[pL 4]++rd 70) [(.loc 4,[ic a,ic b,.imm c,ic d,.val (.int .u64 e),ic f,ic g,ic i]),(.par 0,[ic j,ic l,.imm m,.imm n,.imm o,.ptr ⟨⟨.par 1,[]⟩,1,0⟩,.ptr ⟨⟨.par 2,[]⟩,1,0⟩]),(.par 1,[.mpb p]),(.par 2,[.mpb q])]
 |.h3 a b c d e f g i j l m n o p q t u v w x y z a1 b1 c1 d1 e1 f1 g1 i1=>Fk Y58 qxZ (bx58 b1 c1) [1,1,1,1,1,1,0,1,0,4] (rd 3++[pL 3,pL 4,.c (.own 8 a),pL 6,.c (.own 1 b)]++rd 38++[.c (.ref ⟨⟨.slot 5,[]⟩,0,0⟩),cic c,cic d]++rd 26) [(.loc 6,[ic e,ic f,.own 7 g,ic i,.val (.int .u64 j),ic l,ic m,ic n]),(.loc 4,[ic o,ic p,.nil,ic q,.val (.int .u64 t),ic u,ic v,ic w]),(.loc 3,[ic x,ic y,ic z,ic a1]),(.par 0,[ic b1,ic c1,.imm d1,.imm e1,.imm f1,.ptr ⟨⟨.par 1,[]⟩,1,0⟩,.ptr ⟨⟨.par 2,[]⟩,1,0⟩]),(.par 1,[.mpb g1]),(.par 2,[.mpb i1])]
 |.h4 a b c d e f g i j l m n o p q t u v w x y z a1 b1 c1 d1 e1 f1 g1 i1=>Fk Y58 qxZ (bx58 b1 c1) [1,1,1,1,1,1,0,1,0,0,1,1,1,2] (rd 3++[pL 3,pL 4,.c (.own 8 a),pL 6,.c (.own 1 b)]++rd 38++[.c (.ref ⟨⟨.slot 5,[]⟩,0,0⟩),cic c,cic d]++rd 26) [(.loc 6,[ic e,ic f,.own 7 g,ic i,.val (.int .u64 j),ic l,ic m,ic n]),(.loc 4,[ic o,ic p,.nil,ic q,.val (.int .u64 t),ic u,ic v,ic w]),(.loc 3,[ic x,ic y,ic z,ic a1]),(.par 0,[ic b1,ic c1,.imm d1,.imm e1,.imm f1,.ptr ⟨⟨.par 1,[]⟩,1,0⟩,.ptr ⟨⟨.par 2,[]⟩,1,0⟩]),(.par 1,[.mpb g1]),(.par 2,[.mpb i1])]
 |.h5 a b c d e f g i j l m n o p q=>Fk Y58 qxZ (bx58 j l) [1,1,1,1,1,1,1,1,1,2] (rd 4++[pL 4]++rd 70) [(.loc 4,[ic a,ic b,.imm c,ic d,.val (.int .u64 e),ic f,ic g,ic i]),(.par 0,[ic j,ic l,.imm m,.imm n,.imm o,.ptr ⟨⟨.par 1,[]⟩,1,0⟩,.ptr ⟨⟨.par 2,[]⟩,1,0⟩]),(.par 1,[.mpb p]),(.par 2,[.mpb q])]
abbrev E58 (a b c d e f:Int)(g i j:Rs)(l m:Es)(r:R58):Prop:=Ev Tryz.prog noHand 58 [pP 0,.ag [ic a,ic b,ic c,ic d]] [[ic e,ic f,.imm g,.imm i,.imm j,.ptr ⟨⟨.par 1,[]⟩,1,0⟩,.ptr ⟨⟨.par 2,[]⟩,1,0⟩],[.mpb l],[.mpb m]] (qxZ r) (bx58 e f r)
theorem qEh {a b c d e f:Int}{g i j:Rs}{l m:Es}{r:R58}(h:P58 (.e a b c d e f g i j l m) r):E58 a b c d e f g i j l m r:=evF h
theorem ok58:∀ k s r,itS qvp k s=some r->P58 s r:=qF fun k rec ih s r h=>match s,h with
 |.e ..,h=>by
  replace h:=qh h;obtain⟨_,a,h⟩:=h;replace h:=qgU h;rcases h with⟨_,rfl,h⟩|⟨rfl,h⟩
  . replace h:=qvi h;obtain⟨b,c,d,e,f,g,i,j,rfl,h⟩:=h;replace h:=qa h;rcases h with⟨l,h⟩|⟨l,h⟩
    . exact mA 3 (ih _ _ h) 7 [⟨(some 16,.look (some [ic b,ic c,.imm d,ic e,.val (.int .u64 f),ic g,ic i,ic j])),[_],⟨a,trivial⟩⟩,tT 20 l] 75 37778931862957128155078
    . exact mA 3 (ih _ _ h) 7 [⟨(some 16,.look (some [ic b,ic c,.imm d,ic e,.val (.int .u64 f),ic g,ic i,ic j])),[_],⟨a,trivial⟩⟩,tF 20 l] 75 37778931862957128155078
  . replace h:=qa h;rcases h with⟨m,h⟩|⟨m,h⟩
    . exact mA 3 (ih _ _ h) 7 [⟨(some 16,.look none),[_],⟨a,trivial⟩⟩,tT 20 m] 75 37778931862957128155078
    . exact mA 3 (ih _ _ h) 7 [⟨(some 16,.look none),[_],⟨a,trivial⟩⟩,tF 20 m] 75 37778931862957128155078
 |.h0 ..,h=>by
  replace h:=qa h;rcases h with⟨rfl,h⟩|⟨rfl,h⟩
  . replace h:=qh h;obtain⟨_,a,h⟩:=h;replace h:=qgU h;rcases h with⟨_,rfl,h⟩|⟨rfl,h⟩
    . replace h:=qvi h;obtain⟨b,c,d,e,f,g,i,j,rfl,h⟩:=h;replace h:=zo h;obtain⟨l,h⟩:=h;exact mA 3 (ih _ _ h) 2 [⟨(some 33,.look (some [ic b,ic c,.imm d,ic e,.val (.int .u64 f),ic g,ic i,ic j])),[_],⟨a,trivial⟩⟩,⟨(some 35,.okE false),[_],⟨okF [[ic b,ic c,.imm d,ic e,.val (.int .u64 f),ic g,ic i,ic j]] l,trivial⟩⟩] 75 37778931862957161709511
    . replace h:=zo h;obtain⟨m,h⟩:=h;exact mA 3 (ih _ _ h) 2 [⟨(some 33,.look none),[_],⟨a,trivial⟩⟩,⟨(some 35,.okE false),[_],⟨okF [[ic 0,ic 0,.nil,ic 0,.val (.int .u64 0),ic 0,ic 0,ic 0]] m,trivial⟩⟩] 75 37778931862957161709511
  . exact mA 3 (ih _ _ h) 2 [] 75 37778931862957161709511
 |.h1 ..,h=>by
  replace h:=qh h;obtain⟨_,a,h⟩:=h;replace h:=qa h;rcases h with⟨b,h⟩|⟨b,h⟩
  . exact mG 3 (ih _ _ h) 8 [cT 40 (evI a) (rfl:true=true),tT 44 b] 75 37778931862957161709551 [6,3] [(⟨⟨.loc 4,[]⟩,0,2⟩,none)]
  . exact mG 3 (ih _ _ h) 14 [cT 40 (evI a) (rfl:true=true),tF 44 b] 75 37778931370375952465671 [] [(⟨⟨.slot 7,[]⟩,0,0⟩,some 1),(⟨⟨.loc 6,[]⟩,0,2⟩,some 7)]
 |.h2 ..,h=>by cases h;exact mF 3 []
 |.h3 ..,h=>by
  replace h:=qa h;rcases h with⟨a,h⟩|⟨a,h⟩
  . replace h:=YJ h;obtain⟨_,b,h⟩:=h;replace h:=qv3 h;rcases h with⟨c,d,e,f,g,i,j,rfl,h⟩|⟨c,d,l,e,f,g,i,j,rfl,h⟩
    . replace h:=zo h;obtain⟨m,h⟩:=h;replace h:=zo h;obtain⟨n,h⟩:=h;exact mG 3 (ih _ _ h) 14 [tT 49 a,⟨(some 50,.bnd),[_],⟨qot b,trivial⟩⟩,⟨(some 51,.ld [ic c,ic d,.nil,ic e,.val (.int .u64 f),ic g,ic i,ic j]),[_],⟨b.2,trivial⟩⟩,⟨(some 58,.okE false),[_],⟨okF [[ic c,ic d,.nil,ic e,.val (.int .u64 f),ic g,ic i]] m,trivial⟩⟩,⟨(some 66,.okE false),[_],⟨okF [[ic d]] n,trivial⟩⟩] 75 37778931370375952465671 [9] []
    . replace h:=zo h;obtain⟨m,h⟩:=h;replace h:=zo h;obtain⟨n,h⟩:=h;exact mG 3 (ih _ _ h) 14 [tT 49 a,⟨(some 50,.bnd),[_],⟨qot b,trivial⟩⟩,⟨(some 51,.ld [ic c,ic d,.imm l,ic e,.val (.int .u64 f),ic g,ic i,ic j]),[_],⟨b.2,trivial⟩⟩,⟨(some 58,.okE false),[_],⟨okF [[ic c,ic d,.imm l,ic e,.val (.int .u64 f),ic g,ic i]] m,trivial⟩⟩,⟨(some 66,.okE false),[_],⟨okF [[ic d]] n,trivial⟩⟩] 75 37778931370375952465671 [9] []
  . replace h:=qh h;obtain⟨_,b,h⟩:=h;exact mG 3 (ih _ _ h) 10 [tF 49 a,cT 71 (evI b) (rfl:true=true)] 75 37778931862957161709551 [6,3] []
 |.h4 ..,h=>by exact mA 3 (ih _ _ h) 1 [] 75 37778931370375952465671
 |.h5 ..,h=>by cases h;exact mF 3 []
theorem ev58 {k:Nat}{a b c d e f:Int}{g i j:Rs}{l m:Es}{r:R58}(h:g58 k a b c d e f g i j l m=some r):E58 a b c d e f g i j l m r:=qEh (ok58 _ _ _ h)
instance {k:Nat} {a b c d e f:Int} {g i j:Rs} {l m:Es}:EvI (g58 k a b c d e f g i j l m) 58 [pP 0,.ag [ic a,ic b,ic c,ic d]] [[ic e,ic f,.imm g,.imm i,.imm j,.ptr ⟨⟨.par 1,[]⟩,1,0⟩,.ptr ⟨⟨.par 2,[]⟩,1,0⟩],[.mpb l],[.mpb m]] qxZ (bx58 e f):=⟨fun r h=>ev58 h⟩
def qiT:R20->ARes
 |(_,_,_,_,_)=>.ret .undef
def bx20 (b0_0 b0_1:Int):R20->List (List Cell)
 |(a,b,c,d,e)=>[[ic b0_0,ic b0_1,.imm a,.imm b,.imm c,.ptr ⟨⟨.par 1,[]⟩,1,0⟩,.ptr ⟨⟨.par 2,[]⟩,1,0⟩],[.mpb d],[.mpb e]]
noncomputable def yY (k:Nat)(rec:S20->Option R20):S20->Option R20
 |.e a b c d e f g i j l m=>
  bif a==50 then
   ixR g c fun n=>
   qvU n fun o p q t=>
   (xL Tryz.prog 3 (.int .i64 b) [ic o,ic p,.imm [],ic 0,.val (.int .u64 0),ic q,ic t,ic 1] l).bind fun u=>
   some (g,i,j,u,m)
  else
   bif a==51 then
    ixR i c fun v=>
    qx5 v fun w x=>
    (xL Tryz.prog 3 (.int .i64 b) [ic 40,ic w,.imm [],ic w,.val (.int .u64 x),ic 0,ic 0,ic 1] l).bind fun y=>
    some (g,i,j,y,m)
   else
    bif a==53 then
     (yU Tryz.prog 3 (.int .i64 d) l).bind fun z=>
     optC z (
       (xL Tryz.prog 3 (.int .i64 c) [ic 0,ic 0,.imm [],ic 0,.val (.int .u64 0),ic 0,ic 0,ic 0] m).bind fun y=>
       some (g,i,j,l,y)) fun a1=>
      qu7 a1 fun b1 c1 d1 e1 f1 g1 i1 j1=>
      (xL Tryz.prog 3 (.int .i64 c) [ic b1,ic c1,.imm d1,ic e1,.val (.int .u64 f1),ic g1,ic i1,ic j1] m).bind fun l1=>
      some (g,i,j,l,l1)
    else
     bif a==54 then
      (yU Tryz.prog 3 (.int .i64 c) m).bind fun m1=>
      optC m1 (
        (xL Tryz.prog 3 (.int .i64 b) [ic 0,ic 0,.imm [],ic 0,.val (.int .u64 0),ic 0,ic 0,ic 0] l).bind fun n1=>
        some (g,i,j,n1,m)) fun o1=>
       qu7 o1 fun p1 q1 t1 u1 v1 w1 x1 y1=>
       (xL Tryz.prog 3 (.int .i64 b) [ic p1,ic q1,.imm t1,ic u1,.val (.int .u64 v1),ic w1,ic x1,ic y1] l).bind fun z1=>
       some (g,i,j,z1,m)
     else
      (g58 k a b c d e f g i j l m).bind fun a2=>
      qCM a2 fun b2 c2 d2 e2 f2 g2 i2 j2 l2 m2 n2 o2 p2=>
      (xL Tryz.prog 3 (.int .i64 b) [ic b2,ic c2,.imm d2,ic e2,.val (.int .u64 f2),ic g2,ic i2,ic j2] o2).bind fun l1=>
      some (l2,m2,n2,l1,p2)
noncomputable def g20 (k:Nat)(a b c d e f:Int)(g i j:Rs)(l m:Es):Option R20:=itS yY k (.e a b c d e f g i j l m)
def P20:S20->R20->Prop
 |.e a b c d e f g i j l m=>Fe Y20 qiT (bx20 e f) [pP 0,.ag [ic a,ic b,ic c,ic d]] [[ic e,ic f,.imm g,.imm i,.imm j,.ptr ⟨⟨.par 1,[]⟩,1,0⟩,.ptr ⟨⟨.par 2,[]⟩,1,0⟩],[.mpb l],[.mpb m]]
abbrev E20 (a b c d e f:Int)(g i j:Rs)(l m:Es)(r:R20):Prop:=Ev Tryz.prog noHand 20 [pP 0,.ag [ic a,ic b,ic c,ic d]] [[ic e,ic f,.imm g,.imm i,.imm j,.ptr ⟨⟨.par 1,[]⟩,1,0⟩,.ptr ⟨⟨.par 2,[]⟩,1,0⟩],[.mpb l],[.mpb m]] (qiT r) (bx20 e f r)
theorem qop {a b c d e f:Int}{g i j:Rs}{l m:Es}{r:R20}(h:P20 (.e a b c d e f g i j l m) r):E20 a b c d e f g i j l m r:=evF h
theorem ok20:∀ k s r,itS yY k s=some r->P20 s r:=qF fun k rec ih s r h=>match s,h with
 |.e a b c d e f ..,h=>by
  replace h:=qa h;rcases h with⟨g,h⟩|⟨g,h⟩
  . replace h:=YJ h;obtain⟨_,i,h⟩:=h;replace h:=qvD h;obtain⟨j,l,m,_,rfl,h⟩:=h;replace h:=qh h;obtain⟨n,o,h⟩:=h;cases h;exact mF 3 [tT 18 g,rA 26 i,⟨(none,.st),[_,_,_,_],⟨(cA40:∃ c0,cellAt [[ic 0,ic 0,ic 0,ic 0]] 0 0=some c0),(cA41:∃ c0,cellAt [[ic j,ic 0,ic 0,ic 0]] 0 1=some c0),(cA42:∃ c0,cellAt [[ic j,ic l,ic 0,ic 0]] 0 2=some c0),(cA43:∃ c0,cellAt [[ic j,ic l,ic m,ic 0]] 0 3=some c0),trivial⟩⟩,⟨(none,.put n),[_],⟨o,trivial⟩⟩]
  .
   replace h:=qa h;rcases h with⟨p,h⟩|⟨p,h⟩
   . replace h:=YJ h;obtain⟨_,q,h⟩:=h;replace h:=qx6 h;obtain⟨t,_,rfl,h⟩:=h;replace h:=qh h;obtain⟨u,v,h⟩:=h;cases h;exact mF 3 [tF 18 g,tT 45 p,rA 53 q,⟨(none,.st),[_,_],⟨(cA20:∃ c0,cellAt [[ic 0,.val (.int .u64 0)]] 0 0=some c0),(cA21:∃ c0,cellAt [[ic t,.val (.int .u64 0)]] 0 1=some c0),trivial⟩⟩,⟨(none,.put u),[_],⟨v,trivial⟩⟩]
   .
    replace h:=qa h;rcases h with⟨i,h⟩|⟨i,h⟩
    . replace h:=qh h;obtain⟨_,w,h⟩:=h;replace h:=qgU h;rcases h with⟨_,rfl,h⟩|⟨rfl,h⟩
      . replace h:=qvi h;obtain⟨x,y,z,a1,b1,c1,d1,e1,rfl,h⟩:=h;replace h:=qh h;obtain⟨f1,g1,h⟩:=h;cases h;exact mF 3 [tF 18 g,tF 45 p,tT 67 i,⟨(some 80,.look (some [ic x,ic y,.imm z,ic a1,.val (.int .u64 b1),ic c1,ic d1,ic e1])),[_],⟨w,trivial⟩⟩,⟨(none,.put f1),[_],⟨g1,trivial⟩⟩]
      . replace h:=qh h;obtain⟨u,v,h⟩:=h;cases h;exact mF 3 [tF 18 g,tF 45 p,tT 67 i,⟨(some 80,.look none),[_],⟨w,trivial⟩⟩,⟨(none,.put u),[_],⟨v,trivial⟩⟩]
    .
     replace h:=qa h;rcases h with⟨q,h⟩|⟨q,h⟩
     . replace h:=qh h;obtain⟨_,o,h⟩:=h;replace h:=qgU h;rcases h with⟨_,rfl,h⟩|⟨rfl,h⟩
       . replace h:=qvi h;obtain⟨i1,j1,l1,m1,n1,o1,p1,q1,rfl,h⟩:=h;replace h:=qh h;obtain⟨t1,u1,h⟩:=h;cases h;exact mF 3 [tF 18 g,tF 45 p,tF 67 i,tT 82 q,⟨(some 95,.look (some [ic i1,ic j1,.imm l1,ic m1,.val (.int .u64 n1),ic o1,ic p1,ic q1])),[_],⟨o,trivial⟩⟩,⟨(none,.put t1),[_],⟨u1,trivial⟩⟩]
       . replace h:=qh h;obtain⟨v1,w1,h⟩:=h;cases h;exact mF 3 [tF 18 g,tF 45 p,tF 67 i,tT 82 q,⟨(some 95,.look none),[_],⟨o,trivial⟩⟩,⟨(none,.put v1),[_],⟨w1,trivial⟩⟩]
     . replace h:=qh h;obtain⟨_,o,h⟩:=h;replace h:=qBD h;obtain⟨x1,y1,z1,a2,b2,c2,d2,e2,f2,g2,i2,_,j2,rfl,h⟩:=h;replace h:=qh h;obtain⟨f1,g1,h⟩:=h;cases h;exact mF 3 [tF 18 g,tF 45 p,tF 67 i,tF 82 q,⟨(some 9999,.alt 3 8),[_],⟨(rfl:(⟨[pP 0,.ag [ic a,ic b,ic c,ic d],.undef,pL 3,.undef,.undef,pL 3,cic a,pP 0,pP 0,.c (.ptr ⟨⟨.par 0,[]⟩,0,5⟩),.c (.ptr ⟨⟨.par 1,[]⟩,1,0⟩),.c (.ptr ⟨⟨.loc 3,[]⟩,0,1⟩),cic b,pP 0,.ag [ic a,ic b,ic c,ic d],.ag [ic x1,ic y1,.imm z1,ic a2,.val (.int .u64 b2),ic c2,ic d2,ic e2],cbc false,cbc false]++rep 25 .undef++[cbc false,cbc false]++rep 20 .undef++[cbc false,cbc false]++rep 13 .undef++[cbc false,cbc false]++rep 13 .undef,[(.loc 3,[ic a,ic b,ic c,ic d]),(.par 0,[ic e,ic f,.imm f2,.imm g2,.imm i2,.ptr ⟨⟨.par 1,[]⟩,1,0⟩,.ptr ⟨⟨.par 2,[]⟩,1,0⟩]),(.par 1,[.mpb f1]),(.par 2,[.mpb j2])]⟩:Fr)=⟨[pP 0,.ag [ic a,ic b,ic c,ic d],.undef,pL 3,.undef,.undef,pL 3,cic a,pP 0,pP 0,.c (.ptr ⟨⟨.par 0,[]⟩,0,5⟩),.c (.ptr ⟨⟨.par 1,[]⟩,1,0⟩),.c (.ptr ⟨⟨.loc 3,[]⟩,0,1⟩),cic b,pP 0,.ag [ic a,ic b,ic c,ic d],.ag [ic x1,ic y1,.imm z1,ic a2,.val (.int .u64 b2),ic c2,ic d2,ic e2],cbc false,cbc false]++rep 25 .undef++[cbc false,cbc false]++rep 20 .undef++[cbc false,cbc false]++rep 13 .undef++[cbc false,cbc false]++rep 13 .undef,[(.loc 3,[ic a,ic b,ic c,ic d]),(.par 0,[ic e,ic f,.imm f2,.imm g2,.imm i2,.ptr ⟨⟨.par 1,[]⟩,1,0⟩,.ptr ⟨⟨.par 2,[]⟩,1,0⟩]),(.par 1,[.mpb f1]),(.par 2,[.mpb j2])]⟩),trivial⟩⟩,cA 16 (evI o),⟨(none,.put f1),[_],⟨g1,trivial⟩⟩,cA 16 (evI o),⟨(none,.put f1),[_],⟨g1,trivial⟩⟩]
theorem ev20 {k:Nat}{a b c d e f:Int}{g i j:Rs}{l m:Es}{r:R20}(h:g20 k a b c d e f g i j l m=some r):E20 a b c d e f g i j l m r:=qop (ok20 _ _ _ h)
instance {k:Nat} {a b c d e f:Int} {g i j:Rs} {l m:Es}:EvI (g20 k a b c d e f g i j l m) 20 [pP 0,.ag [ic a,ic b,ic c,ic d]] [[ic e,ic f,.imm g,.imm i,.imm j,.ptr ⟨⟨.par 1,[]⟩,1,0⟩,.ptr ⟨⟨.par 2,[]⟩,1,0⟩],[.mpb l],[.mpb m]] qiT (bx20 e f):=⟨fun r h=>ev20 h⟩
def qtD:R21->ARes
 |(a,b,c,d,e,f,g)=>.ret (.ag [ic a,ic b,.imm c,ic d,.val (.int .u64 e),ic f,ic g])
noncomputable def qq0 (k:Nat)(rec:S21->Option R21):S21->Option R21
 |.e a b c d e f g=>rec (tg 9 (rg [] [(⟨⟨.slot 3,[]⟩,0,0⟩,some 7)] (.h0 [] c (c.length:Int) 0 0 0 0 0 0 0 a b c d e f g)))
 |.h0 a b c d e f g i j l m n o p q t u=>
  bif tg 10 (decide (d<c))then
   ixR b (tg 11 d) fun v=>
   qvv v fun w x y z a1 b1 c1=>
   (tg 15 (rec (.e w x y z a1 b1 c1))).bind fun d1=>
   tup7 d1 fun e1 f1 g1 i1 j1 l1 m1=>
   gd (tg 17 (apOk 72 7 a [[ic e1,ic f1,.imm g1,ic i1,.val (.int .u64 j1),ic l1,ic m1]])) <|
   rec (tg 13 (rg [5] [] (.h0 (a++[[ic e1,ic f1,.imm g1,ic i1,.val (.int .u64 j1),ic l1,ic m1]]) b c (IntKind.i64.wrap (d+1)) e f g i j l m n o p q t u)))
  else
   some (m,n,qG a,p,q,t,u)
noncomputable def g21 (k:Nat)(a b:Int)(c:Rs)(d e f g:Int):Option R21:=itS qq0 k (.e a b c d e f g)
def P21:S21->R21->Prop
 |.e a b c d e f g=>Fe Y21 qtD nB [.ag [ic a,ic b,.imm c,ic d,.val (.int .u64 e),ic f,ic g]] []
 |.h0 a b c d e f g i j l m n o p q t u=>Fk Y21 qtD nB [1,1,0,1,0,4] ([.deadv,pL 1,pL 2,.c (.own 7 a)]++rd 3++[cm b,cic c,cic d]++rd 12) [(.loc 2,[ic e,ic f,.nil,ic g,.val (.int .u64 i),ic j,ic l]),(.loc 1,[ic m,ic n,.imm o,ic p,.val (.int .u64 q),ic t,ic u])]
instance {a b:Int} {c:Rs} {d e f g:Int}:EvS P21 id (.e a b c d e f g) 21 [.ag [ic a,ic b,.imm c,ic d,.val (.int .u64 e),ic f,ic g]] [] qtD nB:=⟨fun o h v e=>evF (h v e)⟩
theorem ok21:∀ k s r,itS qq0 k s=some r->P21 s r:=okU (And.intro @qwF trivial)
instance {k:Nat} {a b:Int} {c:Rs} {d e f g:Int}:EvI (g21 k a b c d e f g) 21 [.ag [ic a,ic b,.imm c,ic d,.val (.int .u64 e),ic f,ic g]] [] qtD nB:=eI ok21
def res7:R7->ARes
 |(a,b,c,d,e,f,g,i)=>.ret ⟨.tup [true,false],[[ic a,ic b,.imm c,ic d,.val (.int .u64 e),ic f,ic g],[bc i]]⟩
noncomputable def qm4 (k:Nat)(rec:S7->Option R7):S7->Option R7
 |.e a b c d e=>
  (g19 k a b c d e).bind fun f=>
  bif !f then
   rec (.h0 false 0 0 [] 0 0 0 0)
  else
   gd (slOk 0 (IntKind.i64.wrap ((e.length:Int)-1)) e 4) <|
   rec (.h1 (IntKind.i64.wrap ((e.length:Int)-1)) (List.drop (Int.toNat 0) (List.take (Int.toNat (IntKind.i64.wrap ((e.length:Int)-1))) e)) ((List.drop (Int.toNat 0) (List.take (Int.toNat (IntKind.i64.wrap ((e.length:Int)-1))) e)).length:Int) 0 a b c d e [] [] 0 0 0 0 0 0 a b c d e)
 |.h0 a b c d e f g i=>some (b,c,d,e,f,g,i,a)
 |.h1 a b c d e f g i j l m n o p q t u v w x y z=>
  bif decide (d<c)then
   ixR b d fun a1=>
   qvU a1 fun b1 c1 d1 e1=>
   (g20 k b1 c1 d1 e1 e f g i j m l).bind fun f1=>
   tup5 f1 fun g1 i1 j1 l1 m1=>
   rec (.h1 a b c (IntKind.i64.wrap (d+1)) e f g1 i1 j1 m1 l1 n o p q t u v w x y z)
  else
   ixR z a fun a1=>
   qvU a1 fun b1 c1 d1 e1=>
   (yU Tryz.prog 3 (.int .i64 d1) m).bind fun n1=>
   optC n1 (
     rec (.h2 false 0 0 [] 0 0 0 0 0 n o p q t u)) fun o1=>
    qu7 o1 fun p1 q1 t1 u1 v1 w1 x1 y1=>
    rec (.h2 (y1==1025) p1 q1 t1 u1 v1 w1 x1 y1 n o p q t u)
 |.h2 a b c d e f g i ..=>
  bif a then
   rec (.h3 false 0 0 [] 0 0 0 0)
  else
   (g21 k b c d e f g i).bind fun j=>
   tup7 j fun l m n o p q t=>
   rec (.h4 true l m n o p q t)
 |.h3 a b c d e f g i=>some (b,c,d,e,f,g,i,a)
 |.h4 a b c d e f g i=>some (b,c,d,e,f,g,i,a)
noncomputable def g7 (k:Nat)(a b:Int)(c d e:Rs):Option R7:=itS qm4 k (.e a b c d e)
def P7:S7->R7->Prop
 |.e a b c d e=>Fe Y7 res7 nB [.ag [ic a,ic b,.imm c,.imm d,.imm e]] []
 |.h0 a b c d e f g i=>Fk Y7 res7 nB [1,0,1,0,1,2] ([.deadv,.deadv,pL 2,cbc a]++rd 49) [(.loc 2,[ic b,ic c,.imm d,ic e,.val (.int .u64 f),ic g,ic i])]
 |.h1 a b c d e f g i j l m n o p q t u v w x y z=>Fk Y7 res7 nB [1,1,1,1,0,1,0,4] ([.deadv,pL 1,pL 2,.deadv,pL 17,cic a]++rd 19++[cm b,cic c,cic d]++rd 25) [(.loc 17,[ic e,ic f,.imm g,.imm i,.imm j,.ptr ⟨⟨.loc 14,[]⟩,1,0⟩,.ptr ⟨⟨.loc 15,[]⟩,1,0⟩]),(.loc 15,[.mpb l]),(.loc 14,[.mpb m]),(.loc 2,[ic n,ic o,.nil,ic p,.val (.int .u64 q),ic t,ic u]),(.loc 1,[ic v,ic w,.imm x,.imm y,.imm z])]
 |.h2 a b c d e f g i j l m n o p q=>Fk Y7 res7 nB [1,1,1,1,1,1,0,1,2] ([.deadv,.deadv,pL 2]++rd 5++[pL 8]++rd 39++[cbc a]++rd 4) [(.loc 8,[ic b,ic c,.imm d,ic e,.val (.int .u64 f),ic g,ic i,ic j]),(.loc 2,[ic l,ic m,.nil,ic n,.val (.int .u64 o),ic p,ic q])]
 |.h3 a b c d e f g i=>Fk Y7 res7 nB [1,1,1,1,1,1,0,1,0,1,2] ([.deadv,.deadv,pL 2,cbc a]++rd 49) [(.loc 2,[ic b,ic c,.imm d,ic e,.val (.int .u64 f),ic g,ic i])]
 |.h4 a b c d e f g i=>Fk Y7 res7 nB [1,1,1,1,1,1,1,1,2] ([.deadv,.deadv,pL 2,cbc a]++rd 49) [(.loc 2,[ic b,ic c,.imm d,ic e,.val (.int .u64 f),ic g,ic i])]
abbrev E7 (a b:Int)(c d e:Rs)(r:R7):Prop:=Ev Tryz.prog noHand 7 [.ag [ic a,ic b,.imm c,.imm d,.imm e]] [] (res7 r) (nB r)
theorem evr7 {a b:Int}{c d e:Rs}{r:R7}(h:P7 (.e a b c d e) r):E7 a b c d e r:=evF h
theorem ok7:∀ k s r,itS qm4 k s=some r->P7 s r:=qF fun k rec ih s r h=>match s,h with
 |.e ..,h=>by
  replace h:=qh h;obtain⟨_,a,h⟩:=h;replace h:=qa h;rcases h with⟨b,h⟩|⟨b,h⟩
  . exact mG 0 (ih _ _ h) 8 [cA 10 (evI a),tT 11 b] 53 9007199254740979 [1] [(⟨⟨.loc 2,[]⟩,0,2⟩,none)]
  . replace h:=zo h;obtain⟨c,h⟩:=h;exact mA 0 (ih _ _ h) 16 [cA 10 (evI a),tF 11 b,⟨(some 25,.ok),[_],⟨of_decide_eq_true c,trivial⟩⟩] 53 9007199019859913
 |.h0 ..,h=>by cases h;exact mF 0 []
 |.h1 ..,h=>by
  replace h:=qa h;rcases h with⟨a,h⟩|⟨a,h⟩
  . replace h:=YJ h;obtain⟨_,b,h⟩:=h;replace h:=qvD h;obtain⟨_,_,_,_,rfl,h⟩:=h;obtain⟨_,c,h⟩:=b5 h;exact mG 0 (ih _ _ h) 13 [tT 28 a,rA 29 b,cA 33 (evI c)] 53 9007199019859913 [7] []
  . replace h:=YJ h;obtain⟨_,b,h⟩:=h;replace h:=qvD h;obtain⟨_,_,_,_,rfl,h⟩:=h;replace h:=qh h;obtain⟨_,c,h⟩:=h;replace h:=qgU h;rcases h with⟨_,rfl,h⟩|⟨rfl,h⟩
    . replace h:=qvi h;obtain⟨d,e,f,g,i,j,l,m,rfl,h⟩:=h;exact mG 0 (ih _ _ h) 11 [tF 28 a,rA 42 b,⟨(some 45,.look (some [ic d,ic e,.imm f,ic g,.val (.int .u64 i),ic j,ic l,ic m])),[_],⟨c,trivial⟩⟩] 53 8725724278030075 [17,15,14,1] []
    . exact mG 0 (ih _ _ h) 11 [tF 28 a,rA 42 b,⟨(some 45,.look none),[_],⟨c,trivial⟩⟩] 53 8725724278030075 [17,15,14,1] [(⟨⟨.loc 8,[]⟩,0,2⟩,none)]
 |.h2 ..,h=>by
  replace h:=qa h;rcases h with⟨rfl,h⟩|⟨rfl,h⟩
  . exact mG 0 (ih _ _ h) 3 [] 53 9007199254740979 [8] [(⟨⟨.loc 2,[]⟩,0,2⟩,none)]
  . obtain⟨_,a,h⟩:=b7 h;exact mG 0 (ih _ _ h) 4 [cA 52 (evI a)] 53 9007199254740979 [8] []
 |.h3 ..,h=>by cases h;exact mF 0 []
 |.h4 ..,h=>by cases h;exact mF 0 []
theorem ev7 {k:Nat}{a b:Int}{c d e:Rs}{r:R7}(h:g7 k a b c d e=some r):E7 a b c d e r:=evr7 (ok7 _ _ _ h)
instance {k:Nat} {a b:Int} {c d e:Rs}:EvI (g7 k a b c d e) 7 [.ag [ic a,ic b,.imm c,.imm d,.imm e]] [] res7 nB:=⟨fun r h=>ev7 h⟩
noncomputable def qFR (k:Nat)(rec:S76->Option R76):S76->Option R76
 |.e a b=>some (a,b)
noncomputable def g76 (k:Nat)(a b:Int):Option R76:=itS qFR k (.e a b)
def P76:S76->R76->Prop
 |.e a b=>Fe Y76 qtK nB [.ag [ic a,.val (.int .u64 b)]] []
theorem ok76:∀ k s r,itS qFR k s=some r->P76 s r:=okU trivial
instance {k:Nat} {a b:Int}:EvI (g76 k a b) 76 [.ag [ic a,.val (.int .u64 b)]] [] qtK nB:=eI ok76
def qjx:R41->ARes
 |(a,b,c)=>.ret (.ag [ic a,ic b,.imm c])
noncomputable def Zy (k:Nat)(rec:S41->Option R41):S41->Option R41
 |.e a b c=>rec (tg 9 (rg [1] [(⟨⟨.loc 3,[]⟩,0,2⟩,some 2)] (.h0 c (c.length:Int) 0 a b [] 0 0)))
 |.h0 a b c d e f g i=>
  bif tg 15 (decide (c<b))then
   ixR a (tg 16 c) fun j=>
   qx5 j fun l m=>
   (tg 21 (g76 k l m)).bind fun n=>
   tup2 n fun o p=>
   gd (tg 23 (apOk 16 2 f [[ic o,.val (.int .u64 p)]])) <|
   rec (tg 13 (rg [5] [] (.h0 a b (IntKind.i64.wrap (c+1)) d e (f++[[ic o,.val (.int .u64 p)]]) g i)))
  else
   some (d,e,qG f)
noncomputable def g41 (k:Nat)(a b:Int)(c:Rs):Option R41:=itS Zy k (.e a b c)
def P41:S41->R41->Prop
 |.e a b c=>Fe Y41 qjx nB [.ag [ic a,ic b,.imm c]] []
 |.h0 a b c d e f g i=>Fk Y41 qjx nB [1,1,0,1,0,4] ([.deadv,.deadv,pL 2,pL 3]++rd 8++[cm a,cic b,cic c]++rd 12) [(.loc 3,[ic d,ic e,.own 2 f]),(.loc 2,[ic g,ic i,.nil])]
theorem ok41:∀ k s r,itS Zy k s=some r->P41 s r:=okU (And.intro @qBF trivial)
instance {k:Nat} {a b:Int} {c:Rs}:EvI (g41 k a b c) 41 [.ag [ic a,ic b,.imm c]] [] qjx nB:=eI ok41
def qcN:R13->ARes
 |r=>.ret (.c (.own 3 r))
noncomputable def zx (k:Nat)(rec:S13->Option R13):S13->Option R13
 |.e a=>rec (tg 9 (rg [] [(⟨⟨.slot 3,[]⟩,0,0⟩,some 3)] (.h0 [] a (a.length:Int) 0)))
 |.h0 a b c d=>
  bif tg 9 (decide (d<c))then
   ixR b (tg 10 d) fun e=>
   qEY e fun f g i=>
   (tg 14 (g41 k f g i)).bind fun j=>
   tup3 j fun l m n=>
   gd (tg 16 (apOk 40 3 a [[ic l,ic m,.imm n]])) <|
   rec (tg 13 (rg [5] [] (.h0 (a++[[ic l,ic m,.imm n]]) b c (IntKind.i64.wrap (d+1)))))
  else
   some a
noncomputable def g13 (k:Nat)(a:Rs):Option R13:=itS zx k (.e a)
def P13:S13->R13->Prop
 |.e a=>Fe Y13 qcN nB [cm a] []
 |.h0 a b c d=>Fk Y13 qcN nB [1,1,0,1,0,4] (rd 3++[.c (.own 3 a),.deadv,.deadv,cm b,cic c,cic d]++rd 10) []
theorem ok13:∀ k s r,itS zx k s=some r->P13 s r:=okU (And.intro @qE7 trivial)
instance {k:Nat} {a:Rs}:EvI (g13 k a) 13 [cm a] [] qcN nB:=eI ok13
noncomputable def qzf (k:Nat)(rec:S131->Option R131):S131->Option R131
 |.e a=>
  bif tg 6 ((IntKind.u64.wrap ((BitVec.ofInt 64 (Int.fdiv a (2 ^ 52)) &&& BitVec.ofInt 64 2047).toNat:Int))==2047)then
   some ((IntKind.u64.wrap ((BitVec.ofInt 64 a &&& BitVec.ofInt 64 4503599627370495).toNat:Int))!=0)
  else
   some false
noncomputable def g131 (k:Nat)(a:Int):Option R131:=itS qzf k (.e a)
def P131:S131->R131->Prop
 |.e a=>Fe Y131 qtJ nB [.c (.val (.int .u64 a))] []
theorem qEs:∀ k s r,itS qzf k s=some r->P131 s r:=okU trivial
instance {k:Nat} {a:Int}:EvI (g131 k a) 131 [.c (.val (.int .u64 a))] [] qtJ nB:=eI qEs
noncomputable def qq6 (k:Nat)(rec:S81->Option R81):S81->Option R81
 |.e a=>
  (tg 4 (g131 k a)).bind fun b=>
  bif b then
   some 9221120237041090560
  else
   some a
noncomputable def g81 (k:Nat)(a:Int):Option R81:=itS qq6 k (.e a)
def P81:S81->R81->Prop
 |.e a=>Fe Y81 qsg nB [.c (.val (.int .u64 a))] []
theorem ok81:∀ k s r,itS qq6 k s=some r->P81 s r:=okU trivial
instance {k:Nat} {a:Int}:EvI (g81 k a) 81 [.c (.val (.int .u64 a))] [] qsg nB:=eI ok81
noncomputable def qfc (k:Nat)(rec:S46->Option R46):S46->Option R46
 |.e a b=>
  bif a==1 then
   rec (.h0 true 0 0 a b)
  else
   bif a==2 then
    bif decide (b<=1)then
     rec (.h0 true 0 0 a b)
    else
     rec (.h0 false 0 0 a b)
   else
    bif a==3 then
     rec (.h0 (decide (b<=63)) 0 0 a b)
    else
     rec (.h0 false 0 0 a b)
 |.h0 a _ _ b c=>
  bif a then
   some (b,c)
  else
   bif b==4 then
    (g81 k c).bind fun d=>
    some (4,d)
   else
    some (0,0)
noncomputable def g46 (k:Nat)(a b:Int):Option R46:=itS qfc k (.e a b)
def P46:S46->R46->Prop
 |.e a b=>Fe Y46 qtK nB [.ag [ic a,.val (.int .u64 b)]] []
 |.h0 a b c d e=>Fk Y46 qtK nB [1,0,1,2] ([.deadv,pL 1,pL 2]++rd 22++[cbc a]++rd 9) [(.loc 2,[ic b,.val (.int .u64 c)]),(.loc 1,[ic d,.val (.int .u64 e)])]
abbrev E46 (a b:Int)(r:R46):Prop:=Ev Tryz.prog noHand 46 [.ag [ic a,.val (.int .u64 b)]] [] (qtK r) (nB r)
theorem qnS {a b:Int}{r:R46}(h:P46 (.e a b) r):E46 a b r:=evF h
theorem ok46:∀ k s r,itS qfc k s=some r->P46 s r:=qF fun k rec ih s r h=>match s,h with
 |.e a ..,h=>by
  replace h:=qa h;rcases h with⟨b,h⟩|⟨b,h⟩
  . exact mA 0 (ih _ _ h) 5 [tT 5 b] 35 34326183929
  .
   replace h:=qa h;rcases h with⟨c,h⟩|⟨c,h⟩
   . replace h:=qa h;rcases h with⟨d,h⟩|⟨d,h⟩
     . exact mA 0 (ih _ _ h) 5 [tF 5 b,tT 9 c,tT 13 d] 35 34326183929
     . exact mA 0 (ih _ _ h) 5 [tF 5 b,tT 9 c,tF 13 d,tF 19 (show(a==3)=false from by rw[eq_of_beq c];rfl)] 35 34326183929
   . replace h:=qa h;rcases h with⟨d,h⟩|⟨d,h⟩
     . exact mA 0 (ih _ _ h) 5 [tF 5 b,tF 9 c,tT 19 d] 35 34326183929
     . exact mA 0 (ih _ _ h) 5 [tF 5 b,tF 9 c,tF 19 d] 35 34326183929
 |.h0 ..,h=>by
  replace h:=qa h;rcases h with⟨rfl,h⟩|⟨rfl,h⟩
  . cases h;exact mF 0 []
  . replace h:=qa h;rcases h with⟨a,h⟩|⟨a,h⟩
    . replace h:=qh h;obtain⟨_,b,h⟩:=h;cases h;exact mF 0 [tT 29 a,cA 32 (evI b)]
    . cases h;exact mF 0 [tF 29 a]
theorem ev46 {k:Nat}{a b:Int}{r:R46}(h:g46 k a b=some r):E46 a b r:=qnS (ok46 _ _ _ h)
instance {k:Nat} {a b:Int}:EvI (g46 k a b) 46 [.ag [ic a,.val (.int .u64 b)]] [] qtK nB:=⟨fun r h=>ev46 h⟩
noncomputable def qEL (k:Nat)(rec:S47->Option R47):S47->Option R47
 |.e a b c=>
  bif tg 8 (decide (b<0))then
   rec (tg 5 (.h0 a b c true 0 0))
  else
   bif tg 13 (decide (b>=(a.length:Int)))then
    rec (tg 5 (.h0 a b c true 0 0))
   else
    bif tg 17 (decide (c<(-1)))then
     rec (tg 5 (.h0 a b c true 0 0))
    else
     ixR a (tg 23 b) fun d=>
     qEY d fun _ _ e=>
     rec (tg 5 (.h0 a b c (decide (c>=(e.length:Int))) 0 0))
 |.h0 a b c d ..=>
  bif d then
   some (0,0)
  else
   bif tg 31 (c==(-1))then
    ixR a (tg 34 b) fun e=>
    qEY e fun _ f g=>
    some (1,IntKind.u64.wrap f)
   else
    ixR a (tg 41 b) fun e=>
    qEY e fun _ f g=>
    ixR g (tg 45 c) fun i=>
    qx5 i fun j l=>
    (tg 47 (g46 k j l)).bind fun m=>
    tup2 m fun n o=>
    some (n,o)
noncomputable def g47 (k:Nat)(a:Rs)(b c:Int):Option R47:=itS qEL k (.e a b c)
def P47:S47->R47->Prop
 |.e a b c=>Fe Y47 qtK nB [cm a,cic b,cic c] []
 |.h0 a b c d e f=>Fk Y47 qtK nB [1,0,1,2] ([cm a,cic b,cic c]++rd 3++[pL 6]++rd 21++[cbc d]++rd 19) [(.loc 6,[ic e,.val (.int .u64 f)])]
theorem ok47:∀ k s r,itS qEL k s=some r->P47 s r:=okU (And.intro @qE7 (And.intro @qBF trivial))
instance {k:Nat} {a:Rs} {b c:Int}:EvI (g47 k a b c) 47 [cm a,cic b,cic c] [] qtK nB:=eI ok47
end
end Ab
end Go.Proofs.YtjnefcbeemkkeaaGreat
