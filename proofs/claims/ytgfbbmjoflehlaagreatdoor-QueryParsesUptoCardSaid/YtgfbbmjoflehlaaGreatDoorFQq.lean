/-
  Functions' ways, printed by a program: what each computes, and that this is what the interpreter computes.
-/
import Derived.Test.YtgfbbmjoflehlaaGreatDoorStq
import Derived.KernelRfl
set_option linter.all false
set_option maxRecDepth 10000
set_option maxHeartbeats 8000000
namespace Go.Proofs.YtgfbbmjoflehlaaGreatDoor
namespace Ab
variable [vo]
inductive S107 where
 |e (a:Int)
 |h0 (a:Int)(b:Bool)
 |h1 (a:Int)(b:Bool)
 |h2 (a:Bool)
inductive S126 where
 |e (a:Int)(b:By)(c d e:Int)
 |h0 (a:By)(b:Int)(c:By)(d e f:Int)
 |h1 (a:By)(b:Bool)(c:Int)(d:By)(e f g:Int)
inductive S108 where
 |e (a:Int)(b:Rs)(c d:Int)(e f:By)(g:Int)
 |h0 (a:Bool)(b:Int)(c:Rs)(d e:Int)(f g:By)(i:Int)
inductive S87 where
 |e (a:Int)(b:Rs)(c d:Int)(e f:By)(g:Int)
 |h0 (a:Bool)(b:Int)(c:Rs)(d e:Int)(f g:By)(i:Int)
 |h1 (a:Rs)(b c:Int)
inductive S48 where
 |e (a:Int)(b:Rs)(c d:Int)(e f:By)(g:Int)
 |h0 (a:Int)(b:Rs)(c d:Int)
inductive S109 where
 |e (a:Int)
 |h0 (a:Int)(b:Bool)
 |h1 (a:Int)(b:Bool)
 |h2 (a:Int)(b:Bool)
inductive S112 where
 |e (a:Int)(b:Rs)(c d:Int)(e f:By)(g:Int)
inductive S111 where
 |e (a:Int)
inductive S88 where
 |e_88 (a:Int)(b:Rs)(c d:Int)(e f:By)(g:Int)
 |e_110 (a:Int)(b:Rs)(c d:Int)(e f:By)(g i:Int)
inductive S59 where
 |e (a:Int)(b:Rs)(c d:Int)(e f:By)(g:Int)
inductive S26 where
 |e (a b:Rs)(c d:Int)(e:By)(f:Int)
 |h0 (a:Bool)(b c:Rs)(d e:Int)(f:By)(g:Int)
 |h1 (a:Rs)(b c:Int)(d e:Rs)(f g:Int)(i:By)(j:Int)
 |h2 (a:Rs)(b c:Int)(d:Rs)(e f:Int)(g i:Rs)(j l:Int)(m:By)(n:Int)
 |h3 (a:Rs)(b c:Int)
 |h4 (a:Rs)(b c:Int)(d:Rs)(e f:Int)(g:Bool)(i j:Rs)(l m:Int)(n:By)(o:Int)
 |h5 (a:Rs)(b c:Int)(d:Bool)
inductive S15 where
 |e (a b:Rs)(c d:Int)(e:By)(f:Int)
 |h0 (a:Int)(b:Rs)(c d:Int)
inductive S27 where
 |e (a b:Rs)(c d:Int)(e:By)(f:Int)
 |h0 (a:Bool)(b c:Rs)(d e:Int)(f:By)(g:Int)
 |h1 (a:Rs)(b c:Int)
inductive S29 where
 |e (a:Rs)
 |h0 (a b:Rs)(c d:Int)
inductive S30 where
 |e (a:Rs)
 |h0 (a:Rs)(b c d:Int)(e:Rs)(f g:Int)(i j:By)(l:Int)
 |h1 (a:Rs)(b c d:Int)(e:Rs)(f g:Int)(i j:By)(l:Int)
 |h2 (a:Rs)(b c d:Int)(e:Rs)(f g:Int)(i j:By)(l:Int)
attribute [local irreducible] cond gd ixR sxI aixS Option.bind
noncomputable section
def qE {α:Type}(row:List Cell)(k:Int->Rs->Int->Int->ByteArray->ByteArray->Int->Option α):Option α:=match row with
  |[.val (.int .i64 x0),.imm x1,.val (.int .i64 x2),.val (.int .i64 x3),.val (.string x4),.val (.string x5),.val (.int .i64 x6)]=>k x0 x1 x2 x3 x4 x5 x6
  |_=>none
theorem qu1 {R:Type}{cx:Cx}{fn:Func}{K:List TItem}{F:Fr}{res:R->ARes}{bx:R->List (List Cell)}{L:List AF}{i:Nat}{rows:Rs}{n:Int}{k:Int->Rs->Int->Int->ByteArray->ByteArray->Int->Option R}(h:∀ x0 x1 x2 x3 x4 x5 x6,∀ h:0<=n/\rows[n.toNat]? = some [.val (.int .i64 x0),.imm x1,.val (.int .i64 x2),.val (.int .i64 x3),.val (.string x4),.val (.string x5),.val (.int .i64 x6)],Snd cx fn K F res bx (rA i h rfl::L) (k x0 x1 x2 x3 x4 x5 x6)):Snd cx fn K F res bx L (ixR rows (tg i n) fun l=>qE l k):=⟨fun r e=>by
  obtain⟨row,h1,h2⟩:=YJ e;unfold qE at h2;split at h2
  . exact(h _ _ _ _ _ _ _ h1).ok r h2
  . cases h2⟩
def qaM {α:Type}(row:List Cell)(k:Int->ByteArray->Int->Int->Int->Option α):Option α:=match row with
  |[.val (.int .i64 x0),.val (.string x1),.val (.int .i64 x2),.val (.int .i64 x3),.val (.int .i64 x4)]=>k x0 x1 x2 x3 x4
  |_=>none
theorem qvg {R:Type}{cx:Cx}{fn:Func}{K:List TItem}{F:Fr}{res:R->ARes}{bx:R->List (List Cell)}{L:List AF}{i:Nat}{rows:Rs}{n:Int}{k:Int->ByteArray->Int->Int->Int->Option R}(h:∀ x0 x1 x2 x3 x4,∀ h:0<=n/\rows[n.toNat]? = some [.val (.int .i64 x0),.val (.string x1),.val (.int .i64 x2),.val (.int .i64 x3),.val (.int .i64 x4)],Snd cx fn K F res bx (rA i h rfl::L) (k x0 x1 x2 x3 x4)):Snd cx fn K F res bx L (ixR rows (tg i n) fun l=>qaM l k):=⟨fun r e=>by
  obtain⟨row,h1,h2⟩:=YJ e;unfold qaM at h2;split at h2
  . exact(h _ _ _ _ _ h1).ok r h2
  . cases h2⟩
def qvQ {α:Type}(row:List Cell)(k:Int->ByteArray->ByteArray->Int->Option α):Option α:=match row with
  |[.val (.int .i64 x0),.val (.string x1),.val (.string x2),.val (.int .i64 x3)]=>k x0 x1 x2 x3
  |_=>none
theorem qvK {R:Type}{cx:Cx}{fn:Func}{K:List TItem}{F:Fr}{res:R->ARes}{bx:R->List (List Cell)}{L:List AF}{i:Nat}{rows:Rs}{n:Int}{k:Int->ByteArray->ByteArray->Int->Option R}(h:∀ x0 x1 x2 x3,∀ h:0<=n/\rows[n.toNat]? = some [.val (.int .i64 x0),.val (.string x1),.val (.string x2),.val (.int .i64 x3)],Snd cx fn K F res bx (rA i h rfl::L) (k x0 x1 x2 x3)):Snd cx fn K F res bx L (ixR rows (tg i n) fun l=>qvQ l k):=⟨fun r e=>by
  obtain⟨row,h1,h2⟩:=YJ e;unfold qvQ at h2;split at h2
  . exact(h _ _ _ _ h1).ok r h2
  . cases h2⟩
def un_m {α:Type}(row:List Cell)(k:Rs->Option α):Option α:=match row with
  |[.imm x0]=>k x0
  |_=>none
theorem qwI {R:Type}{cx:Cx}{fn:Func}{K:List TItem}{F:Fr}{res:R->ARes}{bx:R->List (List Cell)}{L:List AF}{i:Nat}{rows:Rs}{n:Int}{k:Rs->Option R}(h:∀ x0,∀ h:0<=n/\rows[n.toNat]? = some [.imm x0],Snd cx fn K F res bx (rA i h rfl::L) (k x0)):Snd cx fn K F res bx L (ixR rows (tg i n) fun l=>un_m l k):=⟨fun r e=>by
  obtain⟨row,h1,h2⟩:=YJ e;unfold un_m at h2;split at h2
  . exact(h _ h1).ok r h2
  . cases h2⟩
def un_s {α:Type}(row:List Cell)(k:ByteArray->Option α):Option α:=match row with
  |[.val (.string x0)]=>k x0
  |_=>none
theorem qv2 {R:Type}{cx:Cx}{fn:Func}{K:List TItem}{F:Fr}{res:R->ARes}{bx:R->List (List Cell)}{L:List AF}{i:Nat}{rows:Rs}{n:Int}{k:ByteArray->Option R}(h:∀ x0,∀ h:0<=n/\rows[n.toNat]? = some [.val (.string x0)],Snd cx fn K F res bx (lA (i+1) h::bA i h::L) (k x0)):Snd cx fn K F res bx L (ixR rows (tg i (tg 3 n)) fun l=>un_s l k):=⟨fun r e=>by
  obtain⟨row,h1,h2⟩:=YJ e;unfold un_s at h2;split at h2
  . exact(h _ h1).ok r h2
  . cases h2⟩
theorem qCO {R:Type}{cx:Cx}{fn:Func}{K:List TItem}{F:Fr}{res:R->ARes}{bx:R->List (List Cell)}{L:List AF}{i:Nat}{rows:Rs}{n:Int}{k:ByteArray->Option R}(h:∀ x0,∀ h:0<=n/\rows[n.toNat]? = some [.val (.string x0)],Snd cx fn K F res bx (rA i h rfl::L) (k x0)):Snd cx fn K F res bx L (ixR rows (tg i n) fun l=>un_s l k):=⟨fun r e=>by
  obtain⟨row,h1,h2⟩:=YJ e;unfold un_s at h2;split at h2
  . exact(h _ h1).ok r h2
  . cases h2⟩
def un_y {α:Type}(row:List Cell)(k:Int->Option α):Option α:=match row with
  |[.val (.int .u8 x0)]=>k x0
  |_=>none
theorem qsN {α:Type}{row:List Cell}{k:Int->Option α}{r:α}(h:un_y row k=some r):∃ x0,row=[.val (.int .u8 x0)]/\k x0=some r:=by
  unfold un_y at h;split at h
  . exact⟨_,rfl,h⟩
  . cases h
abbrev R107:=Int
def qx1:R107->ARes
 |r=>.ret (cic r)
def qz8 (k:Nat)(rec:S107->Option R107):S107->Option R107
 |.e a=>
  bif tg 5 (a==6)then
   rec (tg 6 (.h0 a true))
  else
   bif tg 8 (a==15)then
    rec (tg 6 (.h0 a true))
   else
    bif tg 12 (a==16)then
     rec (tg 6 (.h0 a true))
    else
     rec (tg 6 (.h0 a (a==17)))
 |.h0 a b=>
  bif b then
   some 1
  else
   bif tg 20 (decide (a>=1))then
    rec (tg 3 (.h1 a (decide (a<=14))))
   else
    rec (tg 3 (.h1 a false))
 |.h1 a b=>
  bif b then
   some 2
  else
   bif tg 27 (decide (a>=20))then
    rec (tg 3 (.h2 (decide (a<=31))))
   else
    rec (tg 3 (.h2 false))
 |.h2 a=>
  bif a then
   some 0
  else
   some (-1)
def g107 (k:Nat)(a:Int):Option R107:=itS qz8 k (.e a)
def P107:S107->R107->Prop
 |.e a=>Fe Y107 qx1 nB [cic a] []
 |.h0 a b=>Fk Y107 qx1 nB [1,0,0,1,2] ([cic a,.deadv,.deadv,cbc b]++rd 28) []
 |.h1 a b=>Fk Y107 qx1 nB [1,0,0,1,1,1,2] ([cic a]++rd 17++[cbc b]++rd 13) []
 |.h2 a=>Fk Y107 qx1 nB [1,0,0,1,1,1,1,1,2] (rd 25++[cbc a]++rd 6) []
theorem qFb:∀ k s r,itS qz8 k s=some r->P107 s r:=okU trivial
instance {k:Nat} {a:Int}:EvI (g107 k a) 107 [cic a] [] qx1 nB:=eI qFb
abbrev R126:=By
def qyF:R126->ARes
 |r=>.ret (csc r)
def qAd (k:Nat)(rec:S126->Option R126):S126->Option R126
 |.e a b c d e=>
  bif tg 7 (a==3)then
   (tg 10 (fmtX c)).bind fun f=>
   some f
  else
   bif tg 12 (a==4)then
    (tg 15 (fmtX c)).bind fun g=>
    rec (tg 17 (.h0 g a b c d e))
   else
    bif tg 50 (a==5)then
     gd (tg 53 (decide ((strB [39]).size+b.size<=1000000000))) <|
     gd (tg 54 (decide (((strB [39])++b).size+(strB [39]).size<=1000000000))) <|
     some (((strB [39])++b)++(strB [39]))
    else
     some b
 |.h0 a b c d e f=>
  bif tg 20 (decide ((a.size:Int)<=e))then
   gd (tg 22 (decide ((strB [48]).size+a.size<=1000000000))) <|
   rec (tg 9 (.h0 ((strB [48])++a) b c d e f))
  else
   bif tg 25 (decide (e<0))then
    rec (tg 9 (.h1 a true b c d e f))
   else
    rec (tg 9 (.h1 a (decide ((a.size:Int)<e)) b c d e f))
 |.h1 a b _ _ _ c ..=>
  bif b then
   some (strB [])
  else
   gd (tg 39 (tg 0 (decide (0<=(0:Int)/\(0:Int)<=(IntKind.i64.wrap ((a.size:Int)-c))/\(IntKind.i64.wrap ((a.size:Int)-c))<=(a.size:Int))))) <|
   gd (tg 40 (decide ((a.extract (Int.toNat (0:Int)) (Int.toNat (IntKind.i64.wrap ((a.size:Int)-c)))).size+(strB [46]).size<=1000000000))) <|
   gd (tg 47 (tg 0 (decide (0<=(IntKind.i64.wrap ((a.size:Int)-c))/\(IntKind.i64.wrap ((a.size:Int)-c))<=(a.size:Int)/\(a.size:Int)<=(a.size:Int))))) <|
   gd (tg 48 (decide (((a.extract (Int.toNat (0:Int)) (Int.toNat (IntKind.i64.wrap ((a.size:Int)-c))))++(strB [46])).size+(a.extract (Int.toNat (IntKind.i64.wrap ((a.size:Int)-c))) (Int.toNat (a.size:Int))).size<=1000000000))) <|
   some (((a.extract (Int.toNat (0:Int)) (Int.toNat (IntKind.i64.wrap ((a.size:Int)-c))))++(strB [46]))++(a.extract (Int.toNat (IntKind.i64.wrap ((a.size:Int)-c))) (Int.toNat (a.size:Int))))
def g126 (k:Nat)(a:Int)(b:By)(c d e:Int):Option R126:=itS qAd k (.e a b c d e)
def P126:S126->R126->Prop
 |.e a b c d e=>Fe Y126 qyF nB [.ag [ic a,sc b,ic c,ic d,ic e]] []
 |.h0 a b c d e f=>Fk Y126 qyF nB [1,0,1,0,1,1,1,0,1,0,0,4] ([.deadv,pL 1,.deadv,csc a]++rd 53) [(.loc 1,[ic b,sc c,ic d,ic e,ic f])]
 |.h1 a b c d e f g=>Fk Y126 qyF nB [1,0,1,0,1,1,1,0,1,1,0,1,2] ([.deadv,pL 1,.deadv,csc a]++rd 28++[cbc b]++rd 24) [(.loc 1,[ic c,sc d,ic e,ic f,ic g])]
theorem qFi:∀ k s r,itS qAd k s=some r->P126 s r:=okU trivial
instance {k:Nat} {a:Int} {b:By} {c d e:Int}:EvI (g126 k a b c d e) 126 [.ag [ic a,sc b,ic c,ic d,ic e]] [] qyF nB:=eI qFi
abbrev R108:=Bool
def qzQ:R108->ARes
 |r=>.ret (cbc r)
def qz9 (k:Nat)(rec:S108->Option R108):S108->Option R108
 |.e a b c d e f g=>
  bif tg 7 (decide (a>=23))then
   bif tg 11 (decide (a<=31))then
    bif tg 17 (a != 23)then
     (tg 27 (YF e)).bind fun i=>
     bif tg 28 (true != i)then
      rec (tg 9 (.h0 true a b c d e f g))
     else
      (tg 42 (YF f)).bind fun j=>
      bif j then
       bif tg 48 ((a != 25)!=true)then
        rec (tg 9 (.h0 true a b c d e f g))
       else
        bif tg 52 (!(a != 25))then
         rec (tg 9 (.h0 (!(f.toList==(strB []).toList)) a b c d e f g))
        else
         rec (tg 9 (.h0 false a b c d e f g))
      else
       bif tg 48 ((a != 25)!=(f.toList==(strB [84,73,77,69]).toList))then
        rec (tg 9 (.h0 true a b c d e f g))
       else
        bif tg 52 (!(a != 25))then
         rec (tg 9 (.h0 (!(f.toList==(strB []).toList)) a b c d e f g))
        else
         rec (tg 9 (.h0 false a b c d e f g))
    else
     (tg 27 (YF e)).bind fun i=>
     bif tg 28 (true != i)then
      rec (tg 9 (.h0 true a b c d e f g))
     else
      (tg 42 (YF f)).bind fun j=>
      bif j then
       rec (tg 9 (.h0 true a b c d e f g))
      else
       bif tg 48 (false != (f.toList==(strB [84,73,77,69]).toList))then
        rec (tg 9 (.h0 true a b c d e f g))
       else
        rec (tg 9 (.h0 (!(f.toList==(strB []).toList)) a b c d e f g))
   else
    (tg 27 (YF e)).bind fun l=>
    bif tg 28 (false != l)then
     rec (tg 9 (.h0 true a b c d e f g))
    else
     bif tg 35 (!(e.toList==(strB []).toList))then
      rec (tg 9 (.h0 true a b c d e f g))
     else
      (tg 42 (YF f)).bind fun j=>
      bif j then
       rec (tg 9 (.h0 true a b c d e f g))
      else
       bif tg 48 (false != (f.toList==(strB [84,73,77,69]).toList))then
        rec (tg 9 (.h0 true a b c d e f g))
       else
        rec (tg 9 (.h0 (!(f.toList==(strB []).toList)) a b c d e f g))
  else
   (tg 27 (YF e)).bind fun m=>
   bif tg 28 (false != m)then
    rec (tg 9 (.h0 true a b c d e f g))
   else
    bif tg 35 (!(e.toList==(strB []).toList))then
     rec (tg 9 (.h0 true a b c d e f g))
    else
     (tg 42 (YF f)).bind fun n=>
     bif n then
      rec (tg 9 (.h0 true a b c d e f g))
     else
      bif tg 48 (false != (f.toList==(strB [84,73,77,69]).toList))then
       rec (tg 9 (.h0 true a b c d e f g))
      else
       rec (tg 9 (.h0 (!(f.toList==(strB []).toList)) a b c d e f g))
 |.h0 a b _ c d ..=>
  bif a then
   some false
  else
   bif tg 62 (b==20)then
    bif tg 65 (decide (c>=0))then
     some (d==0)
    else
     some false
   else
    bif tg 72 (b==22)then
     bif tg 75 (decide (c>=0))then
      bif tg 79 (decide (c<=1))then
       some (d==0)
      else
       some false
     else
      some false
    else
     bif tg 87 (b==21)then
      bif tg 90 (decide (c>=0))then
       bif tg 94 (decide (d>=1))then
        bif tg 99 (decide (d<=14))then
         (tg 107 (g126 k 4 (strB []) c d 0)).bind fun e=>
         some (decide ((e.size:Int)<=16))
        else
         some false
       else
        some false
      else
       some false
     else
      bif tg 113 (c==0)then
       some (d==0)
      else
       some false
def g108 (k:Nat)(a:Int)(b:Rs)(c d:Int)(e f:By)(g:Int):Option R108:=itS qz9 k (.e a b c d e f g)
def P108:S108->R108->Prop
 |.e a b c d e f g=>Fe Y108 qzQ nB [.ag [ic a,.imm b,ic c,ic d,sc e,sc f,ic g]] []
 |.h0 a b c d e f g i=>Fk Y108 qzQ nB [1,1,1,0,1,2] ([.deadv,pL 1]++rd 56++[cbc a]++rd 60) [(.loc 1,[ic b,.imm c,ic d,ic e,sc f,sc g,ic i])]
theorem qFc:∀ k s r,itS qz9 k s=some r->P108 s r:=okU trivial
instance {k:Nat} {a:Int} {b:Rs} {c d:Int} {e f:By} {g:Int}:EvI (g108 k a b c d e f g) 108 [.ag [ic a,.imm b,ic c,ic d,sc e,sc f,ic g]] [] qzQ nB:=eI qFc
abbrev R87:=Bool
def qBT (k:Nat)(rec:S87->Option R87):S87->Option R87
 |.e a b c d e f g=>
  (tg 7 (g107 k a)).bind fun i=>
  bif tg 11 (i != (b.length:Int))then
   rec (tg 5 (.h0 true a b c d e f g))
  else
   (tg 14 (g108 k a b c d e f g)).bind fun j=>
   rec (tg 5 (.h0 (!j) a b c d e f g))
 |.h0 a _ b ..=>
  bif a then
   some false
  else
   rec (tg 7 (rg [1] [] (.h1 b (b.length:Int) 0)))
 |.h1 a b c=>
  bif tg 21 (decide (c<b))then
   ixR a (tg 22 c) fun d=>
   qE d fun e f g i j l m=>
   (tg 25 (rec (.e e f g i j l m))).bind fun n=>
   bif tg 26 (!n)then
    some false
   else
    rec (tg 16 (rg [4] [] (.h1 a b (IntKind.i64.wrap (c+1)))))
  else
   some true
def g87 (k:Nat)(a:Int)(b:Rs)(c d:Int)(e f:By)(g:Int):Option R87:=itS qBT k (.e a b c d e f g)
def P87:S87->R87->Prop
 |.e a b c d e f g=>Fe Y87 qzQ nB [.ag [ic a,.imm b,ic c,ic d,sc e,sc f,ic g]] []
 |.h0 a b c d e f g i=>Fk Y87 qzQ nB [1,0,1,2] ([.deadv,pL 1]++rd 14++[cbc a]++rd 11) [(.loc 1,[ic b,.imm c,ic d,ic e,sc f,sc g,ic i])]
 |.h1 a b c=>Fk Y87 qzQ nB [1,1,0,1,0,4] (rd 18++[cm a,cic b,cic c]++rd 7) []
instance {a:Int} {b:Rs} {c d:Int} {e f:By} {g:Int}:EvS P87 id (.e a b c d e f g) 87 [.ag [ic a,.imm b,ic c,ic d,sc e,sc f,ic g]] [] qzQ nB:=⟨fun o h v e=>evF (h v e)⟩
theorem ok87:∀ k s r,itS qBT k s=some r->P87 s r:=okU (And.intro @qu1 trivial)
instance {k:Nat} {a:Int} {b:Rs} {c d:Int} {e f:By} {g:Int}:EvI (g87 k a b c d e f g) 87 [.ag [ic a,.imm b,ic c,ic d,sc e,sc f,ic g]] [] qzQ nB:=eI ok87
abbrev R48:=Int
def qpX (k:Nat)(rec:S48->Option R48):S48->Option R48
 |.e _ a ..=>rec (tg 9 (rg [1] [] (.h0 1 a (a.length:Int) 0)))
 |.h0 a b c d=>
  bif tg 10 (decide (d<c))then
   ixR b (tg 11 d) fun e=>
   qE e fun f g i j l m n=>
   (tg 15 (rec (.e f g i j l m n))).bind fun o=>
   rec (tg 13 (rg [5] [] (.h0 (IntKind.i64.wrap (a+o)) b c (IntKind.i64.wrap (d+1)))))
  else
   some a
def g48 (k:Nat)(a:Int)(b:Rs)(c d:Int)(e f:By)(g:Int):Option R48:=itS qpX k (.e a b c d e f g)
def P48:S48->R48->Prop
 |.e a b c d e f g=>Fe Y48 qx1 nB [.ag [ic a,.imm b,ic c,ic d,sc e,sc f,ic g]] []
 |.h0 a b c d=>Fk Y48 qx1 nB [1,1,0,1,0,4] (rd 3++[cic a]++rd 3++[cm b,cic c,cic d]++rd 9) []
instance {a:Int} {b:Rs} {c d:Int} {e f:By} {g:Int}:EvS P48 id (.e a b c d e f g) 48 [.ag [ic a,.imm b,ic c,ic d,sc e,sc f,ic g]] [] qx1 nB:=⟨fun o h v e=>evF (h v e)⟩
theorem ok48:∀ k s r,itS qpX k s=some r->P48 s r:=okU (And.intro @qu1 trivial)
instance {k:Nat} {a:Int} {b:Rs} {c d:Int} {e f:By} {g:Int}:EvI (g48 k a b c d e f g) 48 [.ag [ic a,.imm b,ic c,ic d,sc e,sc f,ic g]] [] qx1 nB:=eI ok48
abbrev R109:=Int×Int×Int
def qx2:R109->ARes
 |(a,b,c)=>.ret ⟨.tup [false,false,false],[[ic a],[ic b],[ic c]]⟩
def qAa (k:Nat)(rec:S109->Option R109):S109->Option R109
 |.e a=>
  bif tg 7 (a==14)then
   some (1,1,2)
  else
   bif tg 10 (a==13)then
    some (2,2,3)
   else
    bif tg 13 (a==15)then
     some (3,3,3)
    else
     bif tg 16 (decide (a>=7))then
      rec (tg 15 (.h0 a (decide (a<=12))))
     else
      rec (tg 15 (.h0 a false))
 |.h0 a b=>
  bif b then
   some (4,5,5)
  else
   bif tg 23 (a==1)then
    rec (tg 3 (.h1 a true))
   else
    rec (tg 3 (.h1 a (a==2)))
 |.h1 a b=>
  bif b then
   some (5,5,6)
  else
   bif tg 30 (decide (a>=3))then
    rec (tg 3 (.h2 a (decide (a<=5))))
   else
    rec (tg 3 (.h2 a false))
 |.h2 a b=>
  bif b then
   some (6,6,7)
  else
   bif tg 37 (a==6)then
    some (7,7,7)
   else
    some (8,1,1)
def g109 (k:Nat)(a:Int):Option R109:=itS qAa k (.e a)
def P109:S109->R109->Prop
 |.e a=>Fe Y109 qx2 nB [cic a] []
 |.h0 a b=>Fk Y109 qx2 nB [1,0,0,1,1,1,1,1,1,1,2] ([cic a]++rd 13++[cbc b]++rd 23) []
 |.h1 a b=>Fk Y109 qx2 nB [1,0,0,1,1,1,1,1,1,1,1,1,2] ([cic a]++rd 20++[cbc b]++rd 16) []
 |.h2 a b=>Fk Y109 qx2 nB [1,0,0,1,1,1,1,1,1,1,1,1,1,1,2] ([cic a]++rd 27++[cbc b]++rd 9) []
theorem qFd:∀ k s r,itS qAa k s=some r->P109 s r:=okU trivial
instance {k:Nat} {a:Int}:EvI (g109 k a) 109 [cic a] [] qx2 nB:=eI qFd
abbrev R112:=By
def qAc (k:Nat)(rec:S112->Option R112):S112->Option R112
 |.e a _ b c d e ..=>
  bif tg 6 (a==20)then
   (tg 10 (g126 k 3 (strB []) b 0 0)).bind fun f=>
   some f
  else
   bif tg 12 (a==21)then
    (tg 18 (g126 k 4 (strB []) b c 0)).bind fun g=>
    some g
   else
    bif tg 20 (a==22)then
     aixS [strB [70,65,76,83,69],strB [84,82,85,69]] (tg 24 b) fun i=>
     some i
    else
     bif tg 26 (a==23)then
      gd (tg 29 (decide ((strB [39]).size+d.size<=1000000000))) <|
      gd (tg 30 (decide (((strB [39])++d).size+(strB [39]).size<=1000000000))) <|
      some (((strB [39])++d)++(strB [39]))
     else
      bif tg 32 (a==24)then
       gd (tg 35 (decide (d.size+(strB [46]).size<=1000000000))) <|
       gd (tg 38 (decide ((d++(strB [46])).size+e.size<=1000000000))) <|
       some ((d++(strB [46]))++e)
      else
       bif tg 40 (a==25)then
        gd (tg 43 (decide ((strB [67,79,85,78,84,40]).size+d.size<=1000000000))) <|
        gd (tg 44 (decide (((strB [67,79,85,78,84,40])++d).size+(strB [41]).size<=1000000000))) <|
        some (((strB [67,79,85,78,84,40])++d)++(strB [41]))
       else
        aixS [strB [70,73,82,83,84],strB [76,65,83,84],strB [83,85,77],strB [77,73,78],strB [77,65,88],strB [77,69,65,78]] (tg 49 (IntKind.i64.wrap (a-26))) fun j=>
        gd (tg 50 (decide (j.size+(strB [40]).size<=1000000000))) <|
        gd (tg 53 (decide ((j++(strB [40])).size+d.size<=1000000000))) <|
        gd (tg 54 (decide (((j++(strB [40]))++d).size+(strB [46]).size<=1000000000))) <|
        gd (tg 57 (decide ((((j++(strB [40]))++d)++(strB [46])).size+e.size<=1000000000))) <|
        gd (tg 58 (decide (((((j++(strB [40]))++d)++(strB [46]))++e).size+(strB [41]).size<=1000000000))) <|
        some (((((j++(strB [40]))++d)++(strB [46]))++e)++(strB [41]))
def g112 (k:Nat)(a:Int)(b:Rs)(c d:Int)(e f:By)(g:Int):Option R112:=itS qAc k (.e a b c d e f g)
def P112:S112->R112->Prop
 |.e a b c d e f g=>Fe Y112 qyF nB [.ag [ic a,.imm b,ic c,ic d,sc e,sc f,ic g]] []
theorem qFf:∀ k s r,itS qAc k s=some r->P112 s r:=okU trivial
instance {k:Nat} {a:Int} {b:Rs} {c d:Int} {e f:By} {g:Int}:EvI (g112 k a b c d e f g) 112 [.ag [ic a,.imm b,ic c,ic d,sc e,sc f,ic g]] [] qyF nB:=eI qFf
abbrev R111:=By
def qAb (k:Nat)(rec:S111->Option R111):S111->Option R111
 |.e a=>
  aixS [strB [],strB [43],strB [45],strB [42],strB [47],strB [37],strB [45],strB [61],strB [33,61],strB [60],strB [60,61],strB [62],strB [62,61],strB [65,78,68],strB [79,82],strB [78,79,84,32],strB [82,69,65,76],strB [73,83,78,65,78]] (tg 5 a) fun b=>
  some b
def g111 (k:Nat)(a:Int):Option R111:=itS qAb k (.e a)
def P111:S111->R111->Prop
 |.e a=>Fe Y111 qyF nB [cic a] []
theorem qFe:∀ k s r,itS qAb k s=some r->P111 s r:=okU trivial
instance {k:Nat} {a:Int}:EvI (g111 k a) 111 [cic a] [] qyF nB:=eI qFe
abbrev R88:=By×Int
def qCB:R88->ARes
 |(a,b)=>.ret ⟨.tup [false,false],[[sc a],[ic b]]⟩
def qBU (k:Nat)(rec:S88->Option R88):S88->Option R88
 |.e_88 a b c d e f g=>
  (tg 16 (g109 k a)).bind fun i=>
  tup3 i fun _ j l=>
  bif tg 24 ((b.length:Int)==1)then
   ixR b (tg 28 0) fun m=>
   qE m fun n o p q t u v=>
   (tg 31 (rec (.e_110 n o p q t u v j))).bind fun w=>
   tup2 w fun x y=>
   bif tg 36 (a==16)then
    gd (tg 43 (decide ((strB [40]).size+x.size<=1000000000))) <|
    gd (tg 44 (decide (((strB [40])++x).size+(strB [41]).size<=1000000000))) <|
    (tg 47 (g111 k a)).bind fun z=>
    gd (tg 49 (decide (z.size+(((strB [40])++x)++(strB [41])).size<=1000000000))) <|
    some ((z++(((strB [40])++x)++(strB [41]))),IntKind.i64.wrap (y+1))
   else
    bif tg 40 (a==17)then
     gd (tg 43 (decide ((strB [40]).size+x.size<=1000000000))) <|
     gd (tg 44 (decide (((strB [40])++x).size+(strB [41]).size<=1000000000))) <|
     (tg 47 (g111 k a)).bind fun a1=>
     gd (tg 49 (decide (a1.size+(((strB [40])++x)++(strB [41])).size<=1000000000))) <|
     some ((a1++(((strB [40])++x)++(strB [41]))),IntKind.i64.wrap (y+1))
    else
     (tg 47 (g111 k a)).bind fun b1=>
     gd (tg 49 (decide (b1.size+x.size<=1000000000))) <|
     some ((b1++x),IntKind.i64.wrap (y+1))
  else
   bif tg 53 ((b.length:Int)==2)then
    ixR b (tg 57 0) fun c1=>
    qE c1 fun d1 e1 f1 g1 i1 j1 l1=>
    (tg 60 (rec (.e_110 d1 e1 f1 g1 i1 j1 l1 j))).bind fun m1=>
    tup2 m1 fun n1 o1=>
    ixR b (tg 66 1) fun p1=>
    qE p1 fun q1 t1 u1 v1 w1 x1 y1=>
    (tg 69 (rec (.e_110 q1 t1 u1 v1 w1 x1 y1 l))).bind fun a1=>
    tup2 a1 fun z1 a2=>
    gd (tg 73 (decide (n1.size+(strB [32]).size<=1000000000))) <|
    (tg 76 (g111 k a)).bind fun b2=>
    gd (tg 77 (decide ((n1++(strB [32])).size+b2.size<=1000000000))) <|
    gd (tg 78 (decide (((n1++(strB [32]))++b2).size+(strB [32]).size<=1000000000))) <|
    gd (tg 80 (decide ((((n1++(strB [32]))++b2)++(strB [32])).size+z1.size<=1000000000))) <|
    some (((((n1++(strB [32]))++b2)++(strB [32]))++z1),(if (a2:Int)>o1 then a2 else o1))
   else
    (tg 85 (g112 k a b c d e f g)).bind fun c2=>
    some (c2,0)
 |.e_110 a b c d e f g i=>
  (tg 13 (rec (.e_88 a b c d e f g))).bind fun j=>
  tup2 j fun l m=>
  (tg 19 (g109 k a)).bind fun n=>
  tup3 n fun o _ _=>
  bif tg 25 (decide (o<i))then
   gd (tg 27 (decide ((strB [40]).size+l.size<=1000000000))) <|
   gd (tg 28 (decide (((strB [40])++l).size+(strB [41]).size<=1000000000))) <|
   some ((((strB [40])++l)++(strB [41])),IntKind.i64.wrap (m+1))
  else
   some (l,m)
def g88 (k:Nat)(a:Int)(b:Rs)(c d:Int)(e f:By)(g:Int):Option R88:=itS qBU k (.e_88 a b c d e f g)
def P88:S88->R88->Prop
 |.e_88 a b c d e f g=>Fe Y88 qCB nB [.ag [ic a,.imm b,ic c,ic d,sc e,sc f,ic g]] []
 |.e_110 a b c d e f g i=>Fe Y110 qCB nB [.ag [ic a,.imm b,ic c,ic d,sc e,sc f,ic g],cic i] []
instance {a:Int} {b:Rs} {c d:Int} {e f:By} {g:Int}:EvS P88 id (.e_88 a b c d e f g) 88 [.ag [ic a,.imm b,ic c,ic d,sc e,sc f,ic g]] [] qCB nB:=⟨fun o h v e=>evF (h v e)⟩
instance {a:Int} {b:Rs} {c d:Int} {e f:By} {g i:Int}:EvS P88 id (.e_110 a b c d e f g i) 110 [.ag [ic a,.imm b,ic c,ic d,sc e,sc f,ic g],cic i] [] qCB nB:=⟨fun o h v e=>evF (h v e)⟩
theorem ok88:∀ k s r,itS qBU k s=some r->P88 s r:=okU (And.intro @qu1 trivial)
instance {k:Nat} {a:Int} {b:Rs} {c d:Int} {e f:By} {g:Int}:EvI (g88 k a b c d e f g) 88 [.ag [ic a,.imm b,ic c,ic d,sc e,sc f,ic g]] [] qCB nB:=eI ok88
abbrev R59:=By×Int
def qBQ (k:Nat)(rec:S59->Option R59):S59->Option R59
 |.e a b c d e f g=>
  (tg 7 (g87 k a b c d e f g)).bind fun i=>
  bif tg 8 (!i)then
   some (strB [],3)
  else
   (tg 10 (g48 k a b c d e f g)).bind fun j=>
   bif tg 11 (decide (j>200))then
    some (strB [],2)
   else
    (tg 14 (g88 k a b c d e f g)).bind fun l=>
    tup2 l fun m n=>
    bif tg 20 (decide ((m.size:Int)>4000))then
     some (strB [],2)
    else
     bif tg 23 (decide (n>30))then
      some (strB [],14)
     else
      some (m,0)
def g59 (k:Nat)(a:Int)(b:Rs)(c d:Int)(e f:By)(g:Int):Option R59:=itS qBQ k (.e a b c d e f g)
def P59:S59->R59->Prop
 |.e a b c d e f g=>Fe Y59 qCB nB [.ag [ic a,.imm b,ic c,ic d,sc e,sc f,ic g]] []
theorem ok59:∀ k s r,itS qBQ k s=some r->P59 s r:=okU trivial
instance {k:Nat} {a:Int} {b:Rs} {c d:Int} {e f:By} {g:Int}:EvI (g59 k a b c d e f g) 59 [.ag [ic a,.imm b,ic c,ic d,sc e,sc f,ic g]] [] qCB nB:=eI ok59
abbrev R26:=Bool
def qsr (k:Nat)(rec:S26->Option R26):S26->Option R26
 |.e a b c d e f=>
  bif tg 14 ((a.length:Int)==0)then
   rec (tg 5 (.h0 true a b c d e f))
  else
   bif tg 18 (decide (c<1))then
    rec (tg 5 (.h0 true a b c d e f))
   else
    bif tg 23 (decide (c>3))then
     rec (tg 5 (.h0 true a b c d e f))
    else
     bif tg 28 (decide (d<0))then
      rec (tg 5 (.h0 true a b c d e f))
     else
      bif tg 33 (decide (d>1152921504606846976))then
       rec (tg 5 (.h0 true a b c d e f))
      else
       bif tg 38 (!(e.toList==(strB []).toList))then
        (tg 42 (YF e)).bind fun g=>
        rec (tg 5 (.h0 (!g) a b c d e f))
       else
        rec (tg 5 (.h0 false a b c d e f))
 |.h0 a b c d e f g=>
  bif a then
   some false
  else
   rec (tg 7 (.h1 b (b.length:Int) 0 b c d e f g))
 |.h1 a b c d e f g i j=>
  bif tg 50 (decide (c<b))then
   ixR a (tg 51 c) fun l=>
   un_m l fun m=>
   bif tg 55 ((m.length:Int)==0)then
    some false
   else
    rec (tg 19 (.h2 a b c m (m.length:Int) 0 d e f g i j))
  else
   rec (tg 11 (rg [1] [] (.h3 e (e.length:Int) 0)))
 |.h2 a b c d e f g i j l m n=>
  bif tg 59 (decide (f<e))then
   ixR d (tg 60 f) fun o=>
   qvQ o fun p q t _=>
   bif tg 64 (decide (p<1))then
    rec (tg 12 (rg [6] [] (.h4 a b c d e f true g i j l m n)))
   else
    bif tg 68 (decide (p>3))then
     rec (tg 12 (rg [6] [] (.h4 a b c d e f true g i j l m n)))
    else
     (tg 73 (YF q)).bind fun u=>
     bif tg 74 (!u)then
      rec (tg 12 (rg [6] [] (.h4 a b c d e f true g i j l m n)))
     else
      (tg 79 (YF t)).bind fun v=>
      rec (tg 12 (rg [6] [] (.h4 a b c d e f (!v) g i j l m n)))
  else
   rec (tg 8 (.h1 a b (IntKind.i64.wrap (c+1)) g i j l m n))
 |.h3 a b c=>
  bif tg 88 (decide (c<b))then
   ixR a (tg 89 c) fun d=>
   qE d fun e f g i j l m=>
   (tg 93 (g59 k e f g i j l m)).bind fun n=>
   tup2 n fun _ o=>
   bif tg 97 (o==3)then
    rec (tg 14 (rg [8] [] (.h5 a b c true)))
   else
    rec (tg 14 (rg [8] [] (.h5 a b c (e==13))))
  else
   some true
 |.h4 a b c d e f g i j l m n o=>
  bif g then
   some false
  else
   rec (tg 4 (.h2 a b c d e (IntKind.i64.wrap (f+1)) i j l m n o))
 |.h5 a b c d=>
  bif d then
   some false
  else
   rec (tg 4 (.h3 a b (IntKind.i64.wrap (c+1))))
def g26 (k:Nat)(a b:Rs)(c d:Int)(e:By)(f:Int):Option R26:=itS qsr k (.e a b c d e f)
def P26:S26->R26->Prop
 |.e a b c d e f=>Fe Y26 qzQ nB [.ag [.imm a,.imm b,ic c,ic d,sc e,ic f]] []
 |.h0 a b c d e f g=>Fk Y26 qzQ nB [1,0,1,2] ([.deadv,pL 1]++rd 43++[cbc a]++rd 58) [(.loc 1,[.imm b,.imm c,ic d,ic e,sc f,ic g])]
 |.h1 a b c d e f g i j=>Fk Y26 qzQ nB [1,1,0,1,0,4] ([.deadv,pL 1]++rd 45++[cm a,cic b,cic c]++rd 54) [(.loc 1,[.imm d,.imm e,ic f,ic g,sc i,ic j])]
 |.h2 a b c d e f g i j l m n=>Fk Y26 qzQ nB [1,1,0,1,0,0,1,1,0,0,1,1,1,0,4] ([.deadv,pL 1]++rd 45++[cm a,cic b,cic c]++rd 6++[cm d,cic e,cic f]++rd 45) [(.loc 1,[.imm g,.imm i,ic j,ic l,sc m,ic n])]
 |.h3 a b c=>Fk Y26 qzQ nB [1,1,1,0,1,0,4] (rd 85++[cm a,cic b,cic c]++rd 16) []
 |.h4 a b c d e f g i j l m n o=>Fk Y26 qzQ nB [1,1,0,1,0,0,1,1,0,0,1,1,1,0,0,1,1,0,0,1,1,2] ([.deadv,pL 1]++rd 45++[cm a,cic b,cic c]++rd 6++[cm d,cic e,cic f]++rd 22++[cbc g]++rd 22) [(.loc 1,[.imm i,.imm j,ic l,ic m,sc n,ic o])]
 |.h5 a b c d=>Fk Y26 qzQ nB [1,1,1,0,1,0,0,1,1,0,0,1,1,1,2] (rd 85++[cm a,cic b,cic c]++rd 14++[cbc d,.deadv]) []
theorem ok26:∀ k s r,itS qsr k s=some r->P26 s r:=okU (And.intro @qu1 (And.intro @qvK (And.intro @qwI trivial)))
instance {k:Nat} {a b:Rs} {c d:Int} {e:By} {f:Int}:EvI (g26 k a b c d e f) 26 [.ag [.imm a,.imm b,ic c,ic d,sc e,ic f]] [] qzQ nB:=eI ok26
abbrev R15:=Int
def Zu (k:Nat)(rec:S15->Option R15):S15->Option R15
 |.e _ a ..=>rec (tg 9 (rg [1] [] (.h0 (if (IntKind.i64.wrap ((a.length:Int)-1):Int)>0 then IntKind.i64.wrap ((a.length:Int)-1)else 0) a (a.length:Int) 0)))
 |.h0 a b c d=>
  bif tg 15 (decide (d<c))then
   ixR b (tg 16 d) fun e=>
   qE e fun f g i j l m n=>
   (tg 20 (g48 k f g i j l m n)).bind fun o=>
   rec (tg 13 (rg [5] [] (.h0 (IntKind.i64.wrap (a+o)) b c (IntKind.i64.wrap (d+1)))))
  else
   some a
def g15 (k:Nat)(a b:Rs)(c d:Int)(e:By)(f:Int):Option R15:=itS Zu k (.e a b c d e f)
def P15:S15->R15->Prop
 |.e a b c d e f=>Fe Y15 qx1 nB [.ag [.imm a,.imm b,ic c,ic d,sc e,ic f]] []
 |.h0 a b c d=>Fk Y15 qx1 nB [1,1,0,1,0,4] (rd 3++[cic a]++rd 8++[cm b,cic c,cic d]++rd 9) []
theorem ok15:∀ k s r,itS Zu k s=some r->P15 s r:=okU (And.intro @qu1 trivial)
instance {k:Nat} {a b:Rs} {c d:Int} {e:By} {f:Int}:EvI (g15 k a b c d e f) 15 [.ag [.imm a,.imm b,ic c,ic d,sc e,ic f]] [] qx1 nB:=eI ok15
abbrev R27:=Bool
def qj8 (k:Nat)(rec:S27->Option R27):S27->Option R27
 |.e a b c d e f=>
  bif tg 8 (decide ((a.length:Int)>4))then
   rec (tg 5 (.h0 true a b c d e f))
  else
   (tg 11 (g15 k a b c d e f)).bind fun g=>
   rec (tg 5 (.h0 (decide (g>200)) a b c d e f))
 |.h0 a b ..=>
  bif a then
   some true
  else
   rec (tg 7 (rg [1] [] (.h1 b (b.length:Int) 0)))
 |.h1 a b c=>
  bif tg 18 (decide (c<b))then
   ixR a (tg 19 c) fun d=>
   un_m d fun e=>
   bif tg 23 (decide ((e.length:Int)>8))then
    some true
   else
    rec (tg 16 (.h1 a b (IntKind.i64.wrap (c+1))))
  else
   some false
def g27 (k:Nat)(a b:Rs)(c d:Int)(e:By)(f:Int):Option R27:=itS qj8 k (.e a b c d e f)
def P27:S27->R27->Prop
 |.e a b c d e f=>Fe Y27 qzQ nB [.ag [.imm a,.imm b,ic c,ic d,sc e,ic f]] []
 |.h0 a b c d e f g=>Fk Y27 qzQ nB [1,0,1,2] ([.deadv,pL 1]++rd 11++[cbc a]++rd 11) [(.loc 1,[.imm b,.imm c,ic d,ic e,sc f,ic g])]
 |.h1 a b c=>Fk Y27 qzQ nB [1,1,0,1,0,4] (rd 15++[cm a,cic b,cic c]++rd 7) []
theorem ok27:∀ k s r,itS qj8 k s=some r->P27 s r:=okU (And.intro @qwI trivial)
instance {k:Nat} {a b:Rs} {c d:Int} {e:By} {f:Int}:EvI (g27 k a b c d e f) 27 [.ag [.imm a,.imm b,ic c,ic d,sc e,ic f]] [] qzQ nB:=eI ok27
abbrev R29:=By
def qfO (k:Nat)(rec:S29->Option R29):S29->Option R29
 |.e a=>rec (tg 9 (rg [] [(⟨⟨.slot 3,[]⟩,0,0⟩,some 1)] (.h0 [] a (a.length:Int) 0)))
 |.h0 a b c d=>
  bif tg 9 (decide (d<c))then
   ixR b (tg 10 d) fun e=>
   qvQ e fun f g i _=>
   aixS [strB [],strB [],strB [],strB [33]] (tg 16 f) fun j=>
   gd (tg 19 (decide (j.size+g.size<=1000000000))) <|
   aixS [strB [],strB [],strB [43],strB []] (tg 23 f) fun l=>
   gd (tg 24 (decide ((j++g).size+l.size<=1000000000))) <|
   gd (tg 25 (decide (((j++g)++l).size+(strB [32]).size<=1000000000))) <|
   gd (tg 28 (decide ((((j++g)++l)++(strB [32])).size+i.size<=1000000000))) <|
   gd (tg 30 (apOk 16 1 a [[sc ((((j++g)++l)++(strB [32]))++i)]])) <|
   rec (tg 13 (rg [5] [] (.h0 (a++[[sc ((((j++g)++l)++(strB [32]))++i)]]) b c (IntKind.i64.wrap (d+1)))))
  else
   (tg 33 (tg 2 (qAz (qG a) (strB [44,32])))).bind fun m=>
   gd (tg 34 (decide ((strB [83,69,81,40]).size+m.size<=1000000000))) <|
   gd (tg 35 (decide (((strB [83,69,81,40])++m).size+(strB [41]).size<=1000000000))) <|
   some (((strB [83,69,81,40])++m)++(strB [41]))
def g29 (k:Nat)(a:Rs):Option R29:=itS qfO k (.e a)
def P29:S29->R29->Prop
 |.e a=>Fe Y29 qyF nB [cm a] []
 |.h0 a b c d=>Fk Y29 qyF nB [1,1,0,1,0,4] (rd 3++[.c (.own 1 a),.deadv,.deadv,cm b,cic c,cic d]++rd 27) []
theorem ok29:∀ k s r,itS qfO k s=some r->P29 s r:=okU (And.intro @qvK trivial)
instance {k:Nat} {a:Rs}:EvI (g29 k a) 29 [cm a] [] qyF nB:=eI ok29
abbrev R30:=By×Int
def qe8 (k:Nat)(rec:S30->Option R30):S30->Option R30
 |.e a=>
  bif tg 11 ((a.length:Int)==0)then
   some (strB [],0)
  else
   ixR a (tg 13 0) fun b=>
   qE b fun c d e f g i j=>
   gd (tg 16 (tg 2 (slOk 1 (a.length:Int) a 7))) <|
   rec (tg 14 (.h0 (List.drop (Int.toNat 1) (List.take (Int.toNat (a.length:Int)) a)) ((List.drop (Int.toNat 1) (List.take (Int.toNat (a.length:Int)) a)).length:Int) 0 c d e f g i j))
 |.h0 a b c d e f g i j l=>
  bif tg 19 (decide (c<b))then
   ixR a (tg 20 c) fun m=>
   qE m fun n o p q t u v=>
   rec (tg 12 (rg [6] [] (.h1 a b c 13 [[ic d,.imm e,ic f,ic g,sc i,sc j,ic l],[ic n,.imm o,ic p,ic q,sc t,sc u,ic v]] 0 0 (strB []) (strB []) 0)))
  else
   (tg 29 (g59 k d e f g i j l)).bind fun w=>
   tup2 w fun x y=>
   gd (tg 33 (decide ((strB [32,87,72,69,82,69,32]).size+x.size<=1000000000))) <|
   some (((strB [32,87,72,69,82,69,32])++x),y)
 |.h1 a b c d e f g i j l=>rec (tg 1 (.h2 a b (IntKind.i64.wrap (c+1)) d e f g i j l))
 |.h2 a b c d e f g i j l=>
  bif tg 19 (decide (c<b))then
   ixR a (tg 20 c) fun m=>
   qE m fun n o p q t u v=>
   rec (tg 12 (rg [6] [] (.h1 a b c 13 [[ic d,.imm (qG e),ic f,ic g,sc i,sc j,ic l],[ic n,.imm o,ic p,ic q,sc t,sc u,ic v]] 0 0 (strB []) (strB []) 0)))
  else
   (tg 29 (tg 2 (g59 k d (qG e) f g i j l))).bind fun w=>
   tup2 w fun x y=>
   gd (tg 33 (decide ((strB [32,87,72,69,82,69,32]).size+x.size<=1000000000))) <|
   some (((strB [32,87,72,69,82,69,32])++x),y)
def g30 (k:Nat)(a:Rs):Option R30:=itS qe8 k (.e a)
def P30:S30->R30->Prop
 |.e a=>Fe Y30 qCB nB [cm a] []
 |.h0 a b c d e f g i j l=>Fk Y30 qCB nB [1,1,1,0,1,0,4] (rd 4++[pL 4]++rd 11++[cm a,cic b,cic c]++rd 16) [(.loc 4,[ic d,.imm e,ic f,ic g,sc i,sc j,ic l])]
 |.h1 a b c d e f g i j l=>Fk Y30 qCB nB [1,1,1,0,1,0,0,1,1,1,2] (rd 4++[pL 4]++rd 11++[cm a,cic b,cic c]++rd 16) [(.loc 4,[ic d,.own 7 e,ic f,ic g,sc i,sc j,ic l])]
 |.h2 a b c d e f g i j l=>Fk Y30 qCB nB [1,1,1,0,1,0,4] (rd 4++[pL 4]++rd 11++[cm a,cic b,cic c]++rd 16) [(.loc 4,[ic d,.own 7 e,ic f,ic g,sc i,sc j,ic l])]
theorem ok30:∀ k s r,itS qe8 k s=some r->P30 s r:=okU (And.intro @qu1 trivial)
instance {k:Nat} {a:Rs}:EvI (g30 k a) 30 [cm a] [] qCB nB:=eI ok30
end
end Ab
end Go.Proofs.YtgfbbmjoflehlaaGreatDoor
