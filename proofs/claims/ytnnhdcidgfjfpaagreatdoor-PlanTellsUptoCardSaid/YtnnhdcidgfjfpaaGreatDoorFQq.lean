/-
  Functions' ways, printed by a program: what each computes, and that this is what the interpreter computes.
-/
import Derived.Test.YtnnhdcidgfjfpaaGreatDoorDoq
import Derived.KernelRfl
set_option linter.all false
set_option maxRecDepth 10000
set_option maxHeartbeats 8000000
namespace Go.Proofs.YtnnhdcidgfjfpaaGreatDoor
namespace Ab
variable [Glob]
inductive S44 where
 |e (a:Int)
abbrev R44:=Bool
inductive S85 where
 |e (a:Int)
abbrev R85:=Bool
inductive S89 where
 |e (a:Int)
abbrev R89:=Bool
inductive S86 where
 |e (a:By)(b:Int)(c:Bool)
 |h0 (a:By)(b:Int)(c:Bool)(d:Int)
 |h1 (a:By)(b:Int)(c:Bool)(d:Int)(e:Bool)
abbrev R86:=Int
inductive S117 where
 |e
abbrev R117:=Rs
inductive S87 where
 |e (a:By)
 |h0 (a:By)(b:Rs)(c d:Int)
abbrev R87:=Bool
inductive S88 where
 |e (a:By)
 |h0 (a:By)(b:Bool)
 |h1 (a:By)(b:Int)
 |h2 (a:By)(b:Int)(c:Bool)
abbrev R88:=Bool
inductive S76 where
 |e (a:Int)
 |h0 (a:Int)(b:By)(c:Int)
 |h1 (a:Int)(b:By)(c:Int)
abbrev R76:=By
inductive S118 where
 |e (a:By)
 |h0 (a b:By)(c:Bool)
 |h1 (a b:By)
 |h2 (a b:By)(c d:Int)
 |h3 (a b:By)(c d:Int)(e:Bool)
 |h4 (a b:By)(c:Int)
abbrev R118:=Int×Bool
inductive S90 where
 |e (a:By)(b:Int)
 |h0 (a:By)(b c:Int)(d:By)(e:Int)(f:Bool)(g:Int)(i:By)(j l m:Int)
 |h1 (a:By)(b c:Int)(d:By)(e f:Int)(g:By)(i j l:Int)
 |h2 (a:By)(b c:Int)(d:By)(e:Int)(f:Bool)(g:Int)(i:By)(j l m:Int)
 |h3 (a b c:Int)(d:Rs)(e f g:Int)(i:By)(j l m:Int)
abbrev R90:=Int×By×Int×Int×Int×Int
inductive S45 where
 |e (a:By)(b:Int)
 |h0 (a:Int)(b:By)(c:Bool)(d:Int)(e:By)(f g i:Int)
 |h1 (a:By)(b:Int)(c:Rs)(d e f:Int)(g:By)(i j l:Int)
 |h2 (a:By)(b:Int)(c:By)(d:Rs)(e f:Int)(g:Bool)(i:Int)(j:By)(l m n:Int)
abbrev R45:=Int×By×Int×Int×Int×Int
inductive S20 where
 |e (a:By)
 |h0 (a:Rs)(b c:Int)
 |h1 (a:By)(b:Rs)(c:Int)
 |h2 (a:By)(b:Rs)(c:Int)
 |h3 (a:By)(b:Rs)(c:Int)(d:Bool)
 |h4 (a:Rs)(b c:Int)
 |h5 (a:Rs)(b c:Int)
abbrev R20:=Rs×Int×Int
inductive S47 where
 |e (a:Rs)(b c d e f g:Int)(i:By)(j:Int)
abbrev R47:=Int×By×Int×Int×Int×Rs
inductive S23 where
 |e (a:By)(b:Rs)(c d e f g i:Int)(j:By)(l:Int)
abbrev R23:=Bool×Rs
inductive S26 where
 |e (a:Int)(b:Rs)(c d e f g i:Int)(j:By)(l:Int)
abbrev R26:=Rs×Int×Int
inductive S21 where
 |e (a:By)(b:Rs)(c d e f g i:Int)(j:By)(l:Int)
abbrev R21:=Rs×Int×Int×Int
inductive S47b where
 |e (a:Rs)(b c d e:Int)(f g:Rs)(i j:Int)(l:By)(m:Int)
abbrev R47b:=Int×By×Int×Int×Int×Rs×Rs×Rs
inductive S26b where
 |e (a:Int)(b:Rs)(c d e f:Int)(g i:Rs)(j l:Int)(m:By)(n:Int)
abbrev R26b:=Rs×Int×Int×Rs×Rs
inductive S50b where
 |e (a:Int)(b:Rs)(c d e f:Int)(g i:Rs)(j l:Int)(m:By)(n:Int)
abbrev R50b:=Rs×Int×Int×Rs×Rs
inductive S23b where
 |e (a:By)(b:Rs)(c d e f:Int)(g i:Rs)(j l:Int)(m:By)(n:Int)
abbrev R23b:=Bool×Rs×Rs×Rs
inductive S51b where
 |e (a:Rs)(b c d e:Int)(f g:Rs)(i j:Int)(l:By)(m:Int)
 |h0 (a:Bool)(b:Rs)(c d e f:Int)(g i:Rs)(j l:Int)(m:By)(n:Int)
abbrev R51b:=By×Rs×Int×Int×Int×Rs×Rs
inductive S21b where
 |e (a:By)(b:Rs)(c d e f:Int)(g i:Rs)(j l:Int)(m:By)(n:Int)
abbrev R21b:=Rs×Int×Int×Int×Rs×Rs
inductive S46b where
 |e (a:Int)(b:Rs)(c d e f:Int)(g i:Rs)(j l:Int)(m:By)(n:Int)
 |h0 (a:Bool)(b:Int)(c:By)(d e f g:Int)(i j:By)(l:Int)(m:Rs)(n o p q:Int)(t u:Rs)(v w:Int)(x:By)(y:Int)
 |h1 (a:Int)(b c:By)(d e:Int)(f g:By)(i:Int)(j:Rs)(l m n o:Int)(p q:Rs)(t u:Int)(v:By)(w:Int)
 |h2 (a:Bool)(b:Int)(c d:By)(e f:Int)(g i:By)(j:Int)(l:Rs)(m n o p:Int)(q t:Rs)(u v:Int)(w:By)(x:Int)
 |h3 (a:Int)(b c:By)(d e:Int)(f g:By)(i:Int)(j:Rs)(l m n o:Int)(p q:Rs)(t u:Int)(v:By)(w:Int)
abbrev R46b:=Int×By×By×Int×Rs×Int×Int×Int×Rs×Rs
inductive S22b where
 |e (a:Rs)(b c d e:Int)(f g:Rs)(i j:Int)(l:By)(m:Int)
 |h0 (a:Bool)(b:Rs)(c d e f:Int)(g i:Rs)(j l:Int)(m:By)(n:Int)
 |h1 (a:Rs)(b c d e:Int)(f g:Rs)(i j:Int)(l:By)(m:Int)
 |h2 (a b:Rs)(c d e f:Int)(g i:Rs)(j l:Int)(m:By)(n:Int)
 |h3 (a:Rs)(b:Bool)(c:Rs)(d e f g:Int)(i j:Rs)(l m:Int)(n:By)(o:Int)
 |h4 (a b:Rs)(c d e f:Int)(g i:Rs)(j l:Int)(m:By)(n:Int)
abbrev R22b:=Rs×Int×Int×Int×Rs×Rs
inductive S47c where
 |e (a:Rs)(b c d e:Int)
abbrev R47c:=Int×By×Int×Int×Int×Rs
inductive S23c where
 |e (a:By)(b:Rs)(c d e f:Int)
abbrev R23c:=Bool×Rs
inductive S26c where
 |e (a:Int)(b:Rs)(c d e f:Int)
abbrev R26c:=Rs×Int×Int
inductive S141 where
 |e (a:Rs)(b c d e:Int)
 |h0 (a:Int)(b:Rs)(c d e f:Int)
abbrev R141:=Int×Rs×Int×Int×Int×Int
inductive S161 where
 |e (a:Rs)(b c d e:Int)
abbrev R161:=By×Rs×Int×Int×Int
inductive S21c where
 |e (a:By)(b:Rs)(c d e f:Int)
abbrev R21c:=Rs×Int×Int×Int
inductive S142 where
 |e (a:Rs)(b c d e:Int)
 |h0 (a:By)(b:Bool)(c:Rs)(d e f g:Int)
abbrev R142:=By×By×Rs×Int×Int×Int
inductive S138 where
 |e
abbrev R138:=Rs
inductive S143b where
 |e (a:Rs)(b c d e f:Int)(g:Rs)(i j:Int)(l m:By)(n:Int)
 |h0 (a:Rs)(b c:Int)(d:Rs)(e f g i j:Int)(l:Rs)(m n:Int)(o p:By)(q:Int)
 |h1 (a:Int)(b:Rs)(c d:Int)(e:Bool)(f:Rs)(g i j l m:Int)(n:Rs)(o p:Int)(q t:By)(u:Int)
 |h2 (a:Rs)(b c:Int)(d:Rs)(e f g i j:Int)(l:Rs)(m n:Int)(o p:By)(q:Int)
 |h3 (a:Rs)(b c:Int)(d:Rs)(e f g i j:Int)(l:Rs)(m n:Int)(o p:By)(q:Int)
abbrev R143b:=Rs×Int×Int×Int×Int×Rs×By×By
inductive S111 where
 |e (a:Int)
 |h0 (a:Rs)(b:Int)
 |h1 (a:Rs)(b:Int)
 |h2 (a:Rs)(b:Int)
 |h3 (a:Rs)(b:Int)
 |h4 (a:Rs)(b:Int)
 |h5 (a:Rs)(b:Int)
abbrev R111:=Rs×Int
attribute [local irreducible] cond gd ixR sxI aixS Option.bind
noncomputable section
def un_i {α:Type}(row:List Cell)(k:Int->Option α):Option α:=match row with
  |[.val (.int .i64 a)]=>k a
  |_=>none
theorem qoC {α:Type}{row:List Cell}{k:Int->Option α}{r:α}(h:un_i row k=some r):∃ a,row=[.val (.int .i64 a)]/\k a=some r:=by
  unfold un_i at h;split at h
  . exact⟨_,rfl,h⟩
  . cases h
theorem qCA {R:Type}{cx:Cx}{b:Func}{K:List TItem}{F:Fr}{res:R->ARes}{c:R->List (List Cell)}{L:List AF}{i:Nat}{rows:Rs}{n:Int}{k:Int->Option R}(h:∀ d,∀ h:0<=n/\rows[n.toNat]? = some [.val (.int .i64 d)],Snd cx b K F res c (rA i h rfl::L) (k d)):Snd cx b K F res c L (ixR rows (tg i n) λl=>un_i l k):=⟨λr e=>by
  obtain⟨row,f,a⟩:=YJ e;unfold un_i at a;split at a
  . exact(h _ f).ok r a
  . cases a⟩
def qwz {α:Type}(row:List Cell)(k:Int->Int->Rs->Option α):Option α:=match row with
  |[.val (.int .i64 a),.val (.int .i64 b),.imm c]=>k a b c
  |_=>none
theorem qCB {α:Type}{row:List Cell}{k:Int->Int->Rs->Option α}{r:α}(h:qwz row k=some r):∃ a b c,row=[.val (.int .i64 a),.val (.int .i64 b),.imm c]/\k a b c=some r:=by
  unfold qwz at h;split at h
  . exact⟨_,_,_,rfl,h⟩
  . cases h
theorem qzy {R:Type}{cx:Cx}{b:Func}{K:List TItem}{F:Fr}{res:R->ARes}{c:R->List (List Cell)}{L:List AF}{i:Nat}{rows:Rs}{n:Int}{k:Int->Int->Rs->Option R}(h:∀ d f g,∀ h:0<=n/\rows[n.toNat]? = some [.val (.int .i64 d),.val (.int .i64 f),.imm g],Snd cx b K F res c (rA i h rfl::L) (k d f g)):Snd cx b K F res c L (ixR rows (tg i n) λl=>qwz l k):=⟨λr e=>by
  obtain⟨row,j,a⟩:=YJ e;unfold qwz at a;split at a
  . exact(h _ _ _ j).ok r a
  . cases a⟩
def qvr {α:Type}(row:List Cell)(k:Int->Int->Rs->Int->Int->Int->Int->Option α):Option α:=match row with
  |[.val (.int .i64 a),.val (.int .i64 b),.imm c,.val (.int .i64 d),.val (.int .u64 e),.val (.int .i64 f),.val (.int .i64 g)]=>k a b c d e f g
  |_=>none
theorem qv9 {R:Type}{cx:Cx}{b:Func}{K:List TItem}{F:Fr}{res:R->ARes}{c:R->List (List Cell)}{L:List AF}{i:Nat}{rows:Rs}{n:Int}{k:Int->Int->Rs->Int->Int->Int->Int->Option R}(h:∀ d f g j m o p,∀ h:0<=n/\rows[n.toNat]? = some [.val (.int .i64 d),.val (.int .i64 f),.imm g,.val (.int .i64 j),.val (.int .u64 m),.val (.int .i64 o),.val (.int .i64 p)],Snd cx b K F res c (rA i h rfl::L) (k d f g j m o p)):Snd cx b K F res c L (ixR rows (tg i n) λl=>qvr l k):=⟨λr e=>by
  obtain⟨row,q,a⟩:=YJ e;unfold qvr at a;split at a
  . exact(h _ _ _ _ _ _ _ q).ok r a
  . cases a⟩
def qvQ {α:Type}(row:List Cell)(k:Int->Int->Rs->Rs->Option α):Option α:=match row with
  |[.val (.int .i64 a),.val (.int .i64 b),.imm c,.imm d]=>k a b c d
  |_=>none
theorem qBi {α:Type}{row:List Cell}{k:Int->Int->Rs->Rs->Option α}{r:α}(h:qvQ row k=some r):∃ a b c d,row=[.val (.int .i64 a),.val (.int .i64 b),.imm c,.imm d]/\k a b c d=some r:=by
  unfold qvQ at h;split at h
  . exact⟨_,_,_,_,rfl,h⟩
  . cases h
theorem qyC {R:Type}{cx:Cx}{b:Func}{K:List TItem}{F:Fr}{res:R->ARes}{c:R->List (List Cell)}{L:List AF}{i:Nat}{rows:Rs}{n:Int}{k:Int->Int->Rs->Rs->Option R}(h:∀ d f g j,∀ h:0<=n/\rows[n.toNat]? = some [.val (.int .i64 d),.val (.int .i64 f),.imm g,.imm j],Snd cx b K F res c (rA i h rfl::L) (k d f g j)):Snd cx b K F res c L (ixR rows (tg i n) λl=>qvQ l k):=⟨λr e=>by
  obtain⟨row,m,a⟩:=YJ e;unfold qvQ at a;split at a
  . exact(h _ _ _ _ m).ok r a
  . cases a⟩
def qwO {α:Type}(row:List Cell)(k:Int->Int->Rs->Option α):Option α:=match row with
  |[.val (.int .i64 a),.val (.int .i64 b),.own 4 c]=>k a b c
  |_=>none
theorem qws {α:Type}{row:List Cell}{k:Int->Int->Rs->Option α}{r:α}(h:qwO row k=some r):∃ a b c,row=[.val (.int .i64 a),.val (.int .i64 b),.own 4 c]/\k a b c=some r:=by
  unfold qwO at h;split at h
  . exact⟨_,_,_,rfl,h⟩
  . cases h
def qE {α:Type}(row:List Cell)(k:Int->Rs->Int->Int->ByteArray->ByteArray->Int->Option α):Option α:=match row with
  |[.val (.int .i64 a),.imm b,.val (.int .i64 c),.val (.int .i64 d),.val (.string e),.val (.string f),.val (.int .i64 g)]=>k a b c d e f g
  |_=>none
theorem qu4 {R:Type}{cx:Cx}{b:Func}{K:List TItem}{F:Fr}{res:R->ARes}{c:R->List (List Cell)}{L:List AF}{i:Nat}{rows:Rs}{n:Int}{k:Int->Rs->Int->Int->ByteArray->ByteArray->Int->Option R}(h:∀ d f g j m o p,∀ h:0<=n/\rows[n.toNat]? = some [.val (.int .i64 d),.imm f,.val (.int .i64 g),.val (.int .i64 j),.val (.string m),.val (.string o),.val (.int .i64 p)],Snd cx b K F res c (rA i h rfl::L) (k d f g j m o p)):Snd cx b K F res c L (ixR rows (tg i n) λl=>qE l k):=⟨λr e=>by
  obtain⟨row,q,a⟩:=YJ e;unfold qE at a;split at a
  . exact(h _ _ _ _ _ _ _ q).ok r a
  . cases a⟩
def qaM {α:Type}(row:List Cell)(k:Int->ByteArray->Int->Int->Int->Option α):Option α:=match row with
  |[.val (.int .i64 a),.val (.string b),.val (.int .i64 c),.val (.int .i64 d),.val (.int .i64 e)]=>k a b c d e
  |_=>none
theorem qvx {R:Type}{cx:Cx}{b:Func}{K:List TItem}{F:Fr}{res:R->ARes}{c:R->List (List Cell)}{L:List AF}{i:Nat}{rows:Rs}{n:Int}{k:Int->ByteArray->Int->Int->Int->Option R}(h:∀ d f g j m,∀ h:0<=n/\rows[n.toNat]? = some [.val (.int .i64 d),.val (.string f),.val (.int .i64 g),.val (.int .i64 j),.val (.int .i64 m)],Snd cx b K F res c (rA i h rfl::L) (k d f g j m)):Snd cx b K F res c L (ixR rows (tg i n) λl=>qaM l k):=⟨λr e=>by
  obtain⟨row,o,a⟩:=YJ e;unfold qaM at a;split at a
  . exact(h _ _ _ _ _ o).ok r a
  . cases a⟩
def qxj {α:Type}(row:List Cell)(k:Int->ByteArray->ByteArray->Int->Option α):Option α:=match row with
  |[.val (.int .i64 a),.val (.string b),.val (.string c),.val (.int .i64 d)]=>k a b c d
  |_=>none
theorem qxk {R:Type}{cx:Cx}{b:Func}{K:List TItem}{F:Fr}{res:R->ARes}{c:R->List (List Cell)}{L:List AF}{i:Nat}{rows:Rs}{n:Int}{k:Int->ByteArray->ByteArray->Int->Option R}(h:∀ d f g j,∀ h:0<=n/\rows[n.toNat]? = some [.val (.int .i64 d),.val (.string f),.val (.string g),.val (.int .i64 j)],Snd cx b K F res c (rA i h rfl::L) (k d f g j)):Snd cx b K F res c L (ixR rows (tg i n) λl=>qxj l k):=⟨λr e=>by
  obtain⟨row,m,a⟩:=YJ e;unfold qxj at a;split at a
  . exact(h _ _ _ _ m).ok r a
  . cases a⟩
def un_m {α:Type}(row:List Cell)(k:Rs->Option α):Option α:=match row with
  |[.imm a]=>k a
  |_=>none
theorem qAq {R:Type}{cx:Cx}{b:Func}{K:List TItem}{F:Fr}{res:R->ARes}{c:R->List (List Cell)}{L:List AF}{i:Nat}{rows:Rs}{n:Int}{k:Rs->Option R}(h:∀ d,∀ h:0<=n/\rows[n.toNat]? = some [.imm d],Snd cx b K F res c (rA i h rfl::L) (k d)):Snd cx b K F res c L (ixR rows (tg i n) λl=>un_m l k):=⟨λr e=>by
  obtain⟨row,f,a⟩:=YJ e;unfold un_m at a;split at a
  . exact(h _ f).ok r a
  . cases a⟩
def un_s {α:Type}(row:List Cell)(k:ByteArray->Option α):Option α:=match row with
  |[.val (.string a)]=>k a
  |_=>none
theorem qwn {R:Type}{cx:Cx}{b:Func}{K:List TItem}{F:Fr}{res:R->ARes}{c:R->List (List Cell)}{L:List AF}{i:Nat}{rows:Rs}{n:Int}{k:ByteArray->Option R}(h:∀ d,∀ h:0<=n/\rows[n.toNat]? = some [.val (.string d)],Snd cx b K F res c (lA (i+1) h::bA i h::L) (k d)):Snd cx b K F res c L (ixR rows (tg i (tg 3 n)) λl=>un_s l k):=⟨λr e=>by
  obtain⟨row,f,a⟩:=YJ e;unfold un_s at a;split at a
  . exact(h _ f).ok r a
  . cases a⟩
theorem qCG {R:Type}{cx:Cx}{b:Func}{K:List TItem}{F:Fr}{res:R->ARes}{c:R->List (List Cell)}{L:List AF}{i:Nat}{rows:Rs}{n:Int}{k:ByteArray->Option R}(h:∀ d,∀ h:0<=n/\rows[n.toNat]? = some [.val (.string d)],Snd cx b K F res c (rA i h rfl::L) (k d)):Snd cx b K F res c L (ixR rows (tg i n) λl=>un_s l k):=⟨λr e=>by
  obtain⟨row,f,a⟩:=YJ e;unfold un_s at a;split at a
  . exact(h _ f).ok r a
  . cases a⟩
def qBj {α:Type}(row:List Cell)(k:ByteArray->Int->Option α):Option α:=match row with
  |[.val (.string a),.val (.int .i64 b)]=>k a b
  |_=>none
theorem qyU {R:Type}{cx:Cx}{b:Func}{K:List TItem}{F:Fr}{res:R->ARes}{c:R->List (List Cell)}{L:List AF}{i:Nat}{rows:Rs}{n:Int}{k:ByteArray->Int->Option R}(h:∀ d f,∀ h:0<=n/\rows[n.toNat]? = some [.val (.string d),.val (.int .i64 f)],Snd cx b K F res c (rA i h rfl::L) (k d f)):Snd cx b K F res c L (ixR rows (tg i n) λl=>qBj l k):=⟨λr e=>by
  obtain⟨row,g,a⟩:=YJ e;unfold qBj at a;split at a
  . exact(h _ _ g).ok r a
  . cases a⟩
def qvD {α:Type}(row:List Cell)(k:ByteArray->Int->Int->Int->Int->Int->Option α):Option α:=match row with
  |[.val (.string a),.val (.int .i64 b),.val (.int .i64 c),.val (.int .i64 d),.val (.int .i64 e),.val (.int .i64 f)]=>k a b c d e f
  |_=>none
theorem qvK {α:Type}{row:List Cell}{k:ByteArray->Int->Int->Int->Int->Int->Option α}{r:α}(h:qvD row k=some r):∃ a b c d e f,row=[.val (.string a),.val (.int .i64 b),.val (.int .i64 c),.val (.int .i64 d),.val (.int .i64 e),.val (.int .i64 f)]/\k a b c d e f=some r:=by
  unfold qvD at h;split at h
  . exact⟨_,_,_,_,_,_,rfl,h⟩
  . cases h
theorem qCH {R:Type}{cx:Cx}{b:Func}{K:List TItem}{F:Fr}{res:R->ARes}{c:R->List (List Cell)}{L:List AF}{i:Nat}{rows:Rs}{n:Int}{k:ByteArray->Int->Int->Int->Int->Int->Option R}(h:∀ d f g j m o,∀ h:0<=n/\rows[n.toNat]? = some [.val (.string d),.val (.int .i64 f),.val (.int .i64 g),.val (.int .i64 j),.val (.int .i64 m),.val (.int .i64 o)],Snd cx b K F res c (lA (i+1) h::bA i h::L) (k d f g j m o)):Snd cx b K F res c L (ixR rows (tg i (tg 3 n)) λl=>qvD l k):=⟨λr e=>by
  obtain⟨row,p,a⟩:=YJ e;unfold qvD at a;split at a
  . exact(h _ _ _ _ _ _ p).ok r a
  . cases a⟩
theorem qCI {R:Type}{cx:Cx}{b:Func}{K:List TItem}{F:Fr}{res:R->ARes}{c:R->List (List Cell)}{L:List AF}{i:Nat}{rows:Rs}{n:Int}{k:ByteArray->Int->Int->Int->Int->Int->Option R}(h:∀ d f g j m o,∀ h:0<=n/\rows[n.toNat]? = some [.val (.string d),.val (.int .i64 f),.val (.int .i64 g),.val (.int .i64 j),.val (.int .i64 m),.val (.int .i64 o)],Snd cx b K F res c (rA i h rfl::L) (k d f g j m o)):Snd cx b K F res c L (ixR rows (tg i n) λl=>qvD l k):=⟨λr e=>by
  obtain⟨row,p,a⟩:=YJ e;unfold qvD at a;split at a
  . exact(h _ _ _ _ _ _ p).ok r a
  . cases a⟩
def qyV {α:Type}(row:List Cell)(k:ByteArray->Rs->Option α):Option α:=match row with
  |[.val (.string a),.imm b]=>k a b
  |_=>none
theorem qxB {R:Type}{cx:Cx}{b:Func}{K:List TItem}{F:Fr}{res:R->ARes}{c:R->List (List Cell)}{L:List AF}{i:Nat}{rows:Rs}{n:Int}{k:ByteArray->Rs->Option R}(h:∀ d f,∀ h:0<=n/\rows[n.toNat]? = some [.val (.string d),.imm f],Snd cx b K F res c (rA i h rfl::L) (k d f)):Snd cx b K F res c L (ixR rows (tg i n) λl=>qyV l k):=⟨λr e=>by
  obtain⟨row,g,a⟩:=YJ e;unfold qyV at a;split at a
  . exact(h _ _ g).ok r a
  . cases a⟩
def un_y {α:Type}(row:List Cell)(k:Int->Option α):Option α:=match row with
  |[.val (.int .u8 a)]=>k a
  |_=>none
theorem qsN {α:Type}{row:List Cell}{k:Int->Option α}{r:α}(h:un_y row k=some r):∃ a,row=[.val (.int .u8 a)]/\k a=some r:=by
  unfold un_y at h;split at h
  . exact⟨_,rfl,h⟩
  . cases h
def xe {α:Type}(row:List Cell)(e:Int->Int->Option α)(k1:Int->Int->Rs->Option α)(f:Int->Int->Rs->Option α)(g:Int->Int->Rs->Rs->Option α):Option α:=match row with
  |[.val (.int .i64 a),.val (.int .i64 b),.nil,.nil]=>e a b
  |[.val (.int .i64 a),.val (.int .i64 b),.nil,.own 7 c]=>k1 a b c
  |[.val (.int .i64 a),.val (.int .i64 b),.own 7 d,.nil]=>f a b d
  |[.val (.int .i64 a),.val (.int .i64 b),.own 7 d,.own 7 c]=>g a b d c
  |_=>none
theorem qu1 {α:Type}{row:List Cell}{e:Int->Int->Option α}{k1 f:Int->Int->Rs->Option α}{g:Int->Int->Rs->Rs->Option α}{r:α}(h:xe row e k1 f g=some r):(∃ a b,row=[.val (.int .i64 a),.val (.int .i64 b),.nil,.nil]/\e a b=some r)\/(∃ a b c,row=[.val (.int .i64 a),.val (.int .i64 b),.nil,.own 7 c]/\k1 a b c=some r)\/(∃ a b d,row=[.val (.int .i64 a),.val (.int .i64 b),.own 7 d,.nil]/\f a b d=some r)\/(∃ a b d c,row=[.val (.int .i64 a),.val (.int .i64 b),.own 7 d,.own 7 c]/\g a b d c=some r):=by
  unfold xe at h;split at h
  . exact .inl ⟨_,_,rfl,h⟩
  . exact .inr (.inl ⟨_,_,_,rfl,h⟩)
  . exact .inr (.inr (.inl ⟨_,_,_,rfl,h⟩))
  . exact .inr (.inr (.inr (⟨_,_,_,_,rfl,h⟩)))
  . cases h
def qtE:R44->ARes
 |r=>.ret (cbc r)
noncomputable def qq1 (k:Nat)(rec:S44->Option R44):S44->Option R44
 |.e a=>
  bif tg 4 (a==32)then
   some true
  else
   bif tg 7 (a==9)then
    some true
   else
    bif tg 11 (a==10)then
     some true
    else
     some (a==13)
noncomputable def g44 (k:Nat)(a:Int):Option R44:=itS qq1 k (.e a)
def P44:S44->R44->Prop
 |.e a=>Fe Y44 qtE nB [cu a] []
theorem ok44:∀ k s r,itS qq1 k s=some r->P44 s r:=okU trivial
instance {k:Nat} {a:Int}:EvI (g44 k a) 44 [cu a] [] qtE nB:=eI ok44
noncomputable def Zr (k:Nat)(rec:S85->Option R85):S85->Option R85
 |.e a=>
  bif tg 4 (decide (a>=97))then
   bif tg 7 (decide (a<=122))then
    some true
   else
    bif tg 11 (decide (a>=65))then
     some (decide (a<=90))
    else
     some false
  else
   bif tg 11 (decide (a>=65))then
    some (decide (a<=90))
   else
    some false
noncomputable def g85 (k:Nat)(a:Int):Option R85:=itS Zr k (.e a)
def P85:S85->R85->Prop
 |.e a=>Fe Y85 qtE nB [cu a] []
theorem ok85:∀ k s r,itS Zr k s=some r->P85 s r:=okU trivial
instance {k:Nat} {a:Int}:EvI (g85 k a) 85 [cu a] [] qtE nB:=eI ok85
noncomputable def qCu (k:Nat)(rec:S89->Option R89):S89->Option R89
 |.e a=>
  bif tg 4 (decide (a>=48))then
   some (decide (a<=57))
  else
   some false
noncomputable def g89 (k:Nat)(a:Int):Option R89:=itS qCu k (.e a)
def P89:S89->R89->Prop
 |.e a=>Fe Y89 qtE nB [cu a] []
theorem ok89:∀ k s r,itS qCu k s=some r->P89 s r:=okU trivial
instance {k:Nat} {a:Int}:EvI (g89 k a) 89 [cu a] [] qtE nB:=eI ok89
def qmW:R86->ARes
 |r=>.ret (cic r)
noncomputable def qe9 (k:Nat)(rec:S86->Option R86):S86->Option R86
 |.e a b c=>rec (tg 7 (.h0 a b c 0))
 |.h0 a b c d=>
  bif tg 13 (decide ((wZ (b+d))<(a.size:Int)))then
   sxI a (tg 19 (wZ (b+d))) λe=>
   (tg 20 (g89 k e)).bind λf=>
   bif f then
    rec (tg 4 (.h1 a b c d true))
   else
    bif c then
     ag 1 28 <|
     (tg 29 (g85 k e)).bind λg=>
     bif g then
      rec (tg 4 (.h1 a b c d true))
     else
      ag 3 35 <|
      rec (tg 4 (.h1 a b c d (e==95)))
    else
     rec (tg 4 (.h1 a b c d false))
  else
   rec (tg 4 (.h1 a b c d false))
 |.h1 a b c d e=>
  bif e then
   rec (tg 5 (.h0 a b c (wZ (d+1))))
  else
   some d
noncomputable def g86 (k:Nat)(a:By)(b:Int)(c:Bool):Option R86:=itS qe9 k (.e a b c)
def P86:S86->R86->Prop
 |.e a b c=>Fe Y86 qmW nB [csc a,cic b,cbc c] []
 |.h0 a b c d=>Fk Y86 qmW nB [1,1,0,0,4] ([csc a,cic b,cbc c]++rd 4++[cic d]++rd 36) []
 |.h1 a b c d e=>Fk Y86 qmW nB [1,1,0,0,0,0,1,2] ([csc a,cic b,cbc c]++rd 4++[cic d]++rd 32++[cbc e]++rd 3) []
theorem ok86:∀ k s r,itS qe9 k s=some r->P86 s r:=okU trivial
instance {k:Nat} {a:By} {b:Int} {c:Bool}:EvI (g86 k a b c) 86 [csc a,cic b,cbc c] [] qmW nB:=eI ok86
def qsj:R117->ARes
 |r=>.ret (.c (.own 1 r))
noncomputable def qqb (k:Nat)(rec:S117->Option R117):S117->Option R117
 |.e=>some [[sc (strB [80,65,84,84,69,82,78])],[sc (strB [83,69,81])],[sc (strB [87,72,69,82,69])],[sc (strB [83,84,82,65,84,69,71,89])],[sc (strB [87,73,84,72,73,78])],[sc (strB [80,65,82,84,73,84,73,79,78])],[sc (strB [66,89])],[sc (strB [83,84,82,73,67,84])],[sc (strB [78,69,88,84])],[sc (strB [65,78,89])],[sc (strB [65,78,68])],[sc (strB [79,82])],[sc (strB [78,79,84])],[sc (strB [84,82,85,69])],[sc (strB [70,65,76,83,69])],[sc (strB [84,73,77,69])],[sc (strB [82,69,65,76])],[sc (strB [73,83,78,65,78])],[sc (strB [67,79,85,78,84])],[sc (strB [70,73,82,83,84])],[sc (strB [76,65,83,84])],[sc (strB [83,85,77])],[sc (strB [77,73,78])],[sc (strB [77,65,88])],[sc (strB [77,69,65,78])]]
noncomputable def g117 (k:Nat):Option R117:=itS qqb k (.e)
def P117:S117->R117->Prop
 |.e=>Fe Y117 qsj nB [] []
theorem quG:∀ k s r,itS qqb k s=some r->P117 s r:=okU trivial
instance {k:Nat}:EvI (g117 k ) 117 [] [] qsj nB:=eI quG
noncomputable def qCt (k:Nat)(rec:S87->Option R87):S87->Option R87
 |.e a=>
  (tg 5 (g117 k)).bind λb=>
  rec (tg 7 (.h0 a b (b.length:Int) 0))
 |.h0 a b c d=>
  bif tg 8 (decide (d<c))then
   ixR b (tg 9 (tg 3 d)) λe=>
   un_s e λf=>
   bif tg 13 (f.toList==a.toList)then
    some true
   else
    rec (tg 16 (.h0 a b c (wZ (d+1))))
  else
   some false
noncomputable def g87 (k:Nat)(a:By):Option R87:=itS qCt k (.e a)
def P87:S87->R87->Prop
 |.e a=>Fe Y87 qtE nB [csc a] []
 |.h0 a b c d=>Fk Y87 qtE nB [1,0,1,0,4] ([csc a]++rd 4++[.c (.own 1 b),cic c,cic d]++rd 7) []
theorem ok87:∀ k s r,itS qCt k s=some r->P87 s r:=okU (And.intro @qwn trivial)
instance {k:Nat} {a:By}:EvI (g87 k a) 87 [csc a] [] qtE nB:=eI ok87
noncomputable def qyb (k:Nat)(rec:S88->Option R88):S88->Option R88
 |.e a=>
  bif tg 6 (decide ((a.size:Int)<1))then
   rec (tg 5 (.h0 a true))
  else
   bif tg 10 (decide ((a.size:Int)>24))then
    rec (tg 5 (.h0 a true))
   else
    sxI a (tg 14 0) λb=>
    (tg 15 (g85 k b)).bind λc=>
    bif tg 16 (!c)then
     rec (tg 5 (.h0 a true))
    else
     (tg 20 (g87 k a)).bind λd=>
     rec (tg 5 (.h0 a d))
 |.h0 a b=>
  bif b then
   some false
  else
   rec (tg 7 (.h1 a 0))
 |.h1 a b=>
  bif tg 25 (decide (b<(a.size:Int)))then
   sxI a (tg 30 b) λc=>
   (tg 31 (g85 k c)).bind λd=>
   bif tg 32 (!d)then
    ag 2 36 <|
    (tg 37 (g89 k c)).bind λe=>
    bif tg 38 (!e)then
     ag 5 43 <|
     rec (tg 10 (.h2 a b (c != 95)))
    else
     rec (tg 10 (.h2 a b false))
   else
    rec (tg 10 (.h2 a b false))
  else
   some true
 |.h2 a b c=>
  bif c then
   some false
  else
   rec (tg 4 (.h1 a (wZ (b+1))))
noncomputable def g88 (k:Nat)(a:By):Option R88:=itS qyb k (.e a)
def P88:S88->R88->Prop
 |.e a=>Fe Y88 qtE nB [csc a] []
 |.h0 a b=>Fk Y88 qtE nB [1,0,1,2] ([csc a]++rd 20++[cbc b]++rd 24) []
 |.h1 a b=>Fk Y88 qtE nB [1,1,0,1,0,4] ([csc a,.deadv,.deadv,cic b]++rd 42) []
 |.h2 a b c=>Fk Y88 qtE nB [1,1,0,1,0,0,1,0,0,1,2] ([csc a,.deadv,.deadv,cic b]++rd 41++[cbc c]) []
theorem ok88:∀ k s r,itS qyb k s=some r->P88 s r:=okU trivial
instance {k:Nat} {a:By}:EvI (g88 k a) 88 [csc a] [] qtE nB:=eI ok88
def qwt:R76->ARes
 |r=>.ret (csc r)
noncomputable def qCs (k:Nat)(rec:S76->Option R76):S76->Option R76
 |.e a=>
  bif tg 8 (decide (a<0))then
   rec (tg 9 (.h0 a (strB []) (IntKind.u64.wrap ((0:Int)-(IntKind.u64.wrap a)))))
  else
   rec (tg 9 (.h0 a (strB []) (IntKind.u64.wrap a)))
 |.h0 a b c=>rec (tg 3 (.h1 a b c))
 |.h1 a b c=>
  bif tg 12 (decide (c>9))then
   gd (tg 20 (decide ((qhy [IntKind.u8.wrap (IntKind.u64.wrap ((48:Int)+(Int.tmod c 10)))]).size+b.size<=1000000000))) <|
   rec (tg 11 (.h1 a ((qhy [IntKind.u8.wrap (IntKind.u64.wrap ((48:Int)+(Int.tmod c 10)))])++b) (IntKind.u64.wrap (Int.tdiv c 10))))
  else
   gd (tg 29 (decide ((qhy [IntKind.u8.wrap (IntKind.u64.wrap ((48:Int)+c))]).size+b.size<=1000000000))) <|
   bif tg 31 (decide (a<0))then
    gd (tg 33 (decide ((strB [45]).size+((qhy [IntKind.u8.wrap (IntKind.u64.wrap ((48:Int)+c))])++b).size<=1000000000))) <|
    some ((strB [45])++((qhy [IntKind.u8.wrap (IntKind.u64.wrap ((48:Int)+c))])++b))
   else
    some ((qhy [IntKind.u8.wrap (IntKind.u64.wrap ((48:Int)+c))])++b)
noncomputable def g76 (k:Nat)(a:Int):Option R76:=itS qCs k (.e a)
def P76:S76->R76->Prop
 |.e a=>Fe Y76 qwt nB [cic a] []
 |.h0 a b c=>Fk Y76 qwt nB [1,1,1,2] ([cic a,.deadv,.deadv,csc b,.c (.val (.int .u64 c))]++rd 30) []
 |.h1 a b c=>Fk Y76 qwt nB [1,1,1,0,0,4] ([cic a,.deadv,.deadv,csc b,.c (.val (.int .u64 c))]++rd 30) []
theorem ok76:∀ k s r,itS qCs k s=some r->P76 s r:=okU trivial
instance {k:Nat} {a:Int}:EvI (g76 k a) 76 [cic a] [] qwt nB:=eI ok76
def qsk:R118->ARes
 |(a,b)=>.ret ⟨.tup [false,false],[[ic a],[bc b]]⟩
noncomputable def qAb (k:Nat)(rec:S118->Option R118):S118->Option R118
 |.e a=>
  bif tg 11 (decide ((a.size:Int)>0))then
   sxI a (tg 14 0) λb=>
   rec (tg 7 (.h0 a a (b==45)))
  else
   rec (tg 7 (.h0 a a false))
 |.h0 a b c=>
  bif c then
   gd (tg 18 (tg 0 (decide (0<=(1:Int)/\(1:Int)<=(b.size:Int)/\(b.size:Int)<=(b.size:Int))))) <|
   rec (tg 2 (.h1 a (b.extract (Int.toNat (1:Int)) (Int.toNat (b.size:Int)))))
  else
   rec (tg 2 (.h1 a b))
 |.h1 a b=>rec (tg 7 (.h2 a b 0 0))
 |.h2 a b c d=>
  bif tg 22 (decide (d<(b.size:Int)))then
   sxI b (tg 27 d) λe=>
   (tg 28 (g89 k e)).bind λf=>
   bif tg 29 (!f)then
    rec (tg 11 (.h3 a b c d true))
   else
    rec (tg 11 (.h3 a b c d (decide (d>18))))
  else
   bif tg 48 (decide ((b.size:Int)<(a.size:Int)))then
    rec (tg 13 (.h4 a b (wZ ((0:Int)-(wZ c)))))
   else
    rec (tg 13 (.h4 a b (wZ c)))
 |.h3 a b c d e=>
  bif e then
   some (0,false)
  else
   sxI b (tg 38 d) λf=>
   rec (tg 5 (.h2 a b (IntKind.u64.wrap ((IntKind.u64.wrap ((10:Int)*c))+(IntKind.u64.wrap (IntKind.u8.wrap (f-48))))) (wZ (d+1))))
 |.h4 a b c=>
  bif tg 54 (decide ((b.size:Int)>0))then
   (tg 57 (g76 k c)).bind λd=>
   some (c,d.toList==a.toList)
  else
   some (c,false)
noncomputable def g118 (k:Nat)(a:By):Option R118:=itS qAb k (.e a)
def P118:S118->R118->Prop
 |.e a=>Fe Y118 qsk nB [csc a] []
 |.h0 a b c=>Fk Y118 qsk nB [1,1,0,1,2] ([csc a]++rd 3++[csc b]++rd 11++[cbc c]++rd 44) []
 |.h1 a b=>Fk Y118 qsk nB [1,1,1,2] ([csc a]++rd 3++[csc b]++rd 56) []
 |.h2 a b c d=>Fk Y118 qsk nB [1,1,1,1,0,1,0,4] ([csc a]++rd 3++[csc b,.c (.val (.int .u64 c)),cic d]++rd 54) []
 |.h3 a b c d e=>Fk Y118 qsk nB [1,1,1,1,0,1,0,0,1,0,0,0,1,2] ([csc a]++rd 3++[csc b,.c (.val (.int .u64 c)),cic d]++rd 26++[cbc e]++rd 27) []
 |.h4 a b c=>Fk Y118 qsk nB [1,1,1,1,1,1,1,2] ([csc a]++rd 3++[csc b,.deadv,.deadv,cic c]++rd 53) []
theorem qF0:∀ k s r,itS qAb k s=some r->P118 s r:=okU trivial
instance {k:Nat} {a:By}:EvI (g118 k a) 118 [csc a] [] qsk nB:=eI qF0
def qnd:R90->ARes
 |(a,b,c,d,e,f)=>.ret ⟨.tup [true,false],[[ic a,sc b,ic c,ic d,ic e],[ic f]]⟩
noncomputable def qfL (k:Nat)(rec:S90->Option R90):S90->Option R90
 |.e a b=>
  (g86 k a b false).bind λc=>
  gd (decide (0<=b/\b<=(wZ (b+c))/\(wZ (b+c))<=(a.size:Int))) <|
  bif decide ((wZ (b+c))<(a.size:Int))then
   sxI a (wZ (b+c)) λd=>
   rec (.h0 a b c (a.extract (Int.toNat b) (Int.toNat (wZ (b+c)))) 0 (d==46) 0 (strB []) 0 0 0)
  else
   rec (.h0 a b c (a.extract (Int.toNat b) (Int.toNat (wZ (b+c)))) 0 false 0 (strB []) 0 0 0)
 |.h0 a b c d e f g i j l m=>
  bif f then
   (g86 k a (wZ ((wZ (b+c))+1)) false).bind λn=>
   rec (.h1 a b c d n g i j l m)
  else
   rec (.h1 a b c d e g i j l m)
 |.h1 a b c d e f g i j l=>
  bif decide (c>1)then
   sxI d 0 λm=>
   bif m==48 then
    rec (.h2 a b c d e true f g i j l)
   else
    bif e==0 then
     bif decide (c>19)then
      rec (.h2 a b c d e true f g i j l)
     else
      rec (.h2 a b c d e false f g i j l)
    else
     bif decide (e>0)then
      rec (.h2 a b c d e (decide ((wZ (c+e))>15)) f g i j l)
     else
      rec (.h2 a b c d e false f g i j l)
  else
   bif e==0 then
    bif decide (c>19)then
     rec (.h2 a b c d e true f g i j l)
    else
     rec (.h2 a b c d e false f g i j l)
   else
    bif decide (e>0)then
     rec (.h2 a b c d e (decide ((wZ (c+e))>15)) f g i j l)
    else
     rec (.h2 a b c d e false f g i j l)
 |.h2 a b c d e f g i j l m=>
  bif f then
   some (0,strB [],0,0,0,0)
  else
   bif e==0 then
    (g118 k d).bind λn=>
    tup2 n λo p=>
    bif !p then
     some (0,strB [],0,0,0,0)
    else
     some (3,strB [],o,0,0,c)
   else
    gd (decide (0<=(wZ ((wZ (b+c))+1))/\(wZ ((wZ (b+c))+1))<=(wZ ((wZ ((wZ (b+c))+1))+e))/\(wZ ((wZ ((wZ (b+c))+1))+e))<=(a.size:Int))) <|
    gd (decide (d.size+(a.extract (Int.toNat (wZ ((wZ (b+c))+1))) (Int.toNat (wZ ((wZ ((wZ (b+c))+1))+e)))).size<=1000000000)) <|
    rec (.h3 c e 0 (yH (d++(a.extract (Int.toNat (wZ ((wZ (b+c))+1))) (Int.toNat (wZ ((wZ ((wZ (b+c))+1))+e)))))) ((yH (d++(a.extract (Int.toNat (wZ ((wZ (b+c))+1))) (Int.toNat (wZ ((wZ ((wZ (b+c))+1))+e)))))).length:Int) 0 g i j l m)
 |.h3 a b c d e f g i j l m=>
  bif decide (f<e)then
   ixR d f λn=>
   un_y n λo=>
   rec (.h3 a b (wZ ((wZ ((10:Int)*c))+(wZ (IntKind.u8.wrap (o-48))))) d e (wZ (f+1)) g i j l m)
  else
   some (4,strB [],c,b,0,wZ ((wZ (a+1))+b))
noncomputable def g90 (k:Nat)(a:By)(b:Int):Option R90:=itS qfL k (.e a b)
def P90:S90->R90->Prop
 |.e a b=>Fe Y90 qnd nB [csc a,cic b] []
 |.h0 a b c d e f g i j l m=>Fk Y90 qnd nB [1,1,1,1,0,1,2] ([csc a,cic b,.deadv,.deadv,pL 4,.deadv,cic c,csc d,cic e]++rd 27++[cbc f]++rd 79) [(.loc 4,[ic g,sc i,ic j,ic l,ic m])]
 |.h1 a b c d e f g i j l=>Fk Y90 qnd nB [1,1,1,1,1,2] ([csc a,cic b,.deadv,.deadv,pL 4,.deadv,cic c,csc d,cic e]++rd 107) [(.loc 4,[ic f,sc g,ic i,ic j,ic l])]
 |.h2 a b c d e f g i j l m=>Fk Y90 qnd nB [1,1,1,1,1,0,1,2] ([csc a,cic b,.deadv,.deadv,pL 4,.deadv,cic c,csc d,cic e]++rd 58++[cbc f]++rd 48) [(.loc 4,[ic g,sc i,ic j,ic l,ic m])]
 |.h3 a b c d e f g i j l m=>Fk Y90 qnd nB [1,1,1,1,1,1,1,1,0,1,0,4] (rd 4++[pL 4,.deadv,cic a,.deadv,cic b,.deadv,.deadv,cic c]++rd 84++[cm d,cic e,cic f]++rd 17) [(.loc 4,[ic g,sc i,ic j,ic l,ic m])]
abbrev E90 (a:By)(b:Int)(r:R90):Prop:=Ev Tryz.prog noHand 90 [csc a,cic b] [] (qnd r) (nB r)
theorem qoq {a:By}{b:Int}{r:R90}(h:P90 (.e a b) r):E90 a b r:=evF h
theorem ok90:∀ k s r,itS qfL k s=some r->P90 s r:=qF λk rec i s r h=>match s,h with
 |.e ..,h=>by
  replace h:=qh h;obtain⟨_,a,h⟩:=h;replace h:=zo h;obtain⟨b,h⟩:=h;replace h:=qa h;rcases h with⟨c,h⟩|⟨c,h⟩
  . replace h:=Xm h;obtain⟨_,d,h⟩:=h;exact mA 0 (i _ _ h) 11 [cA 16 (evI a),xS 22 b,tT 28 c,sA 34 d] 116 83076749736557242056487872548044332
  . exact mA 0 (i _ _ h) 11 [cA 16 (evI a),xS 22 b,tF 28 c] 116 83076749736557242056487872548044332
 |.h0 ..,h=>by
  replace h:=qa h;rcases h with⟨rfl,h⟩|⟨rfl,h⟩
  . replace h:=qh h;obtain⟨_,a,h⟩:=h;exact mA 0 (i _ _ h) 2 [cA 42 (evI a)] 116 83076749736557242056487941267521068
  . exact mA 0 (i _ _ h) 2 [] 116 83076749736557242056487941267521068
 |.h1 _ _ _ _ a ..,h=>by
  replace h:=qa h;rcases h with⟨b,h⟩|⟨b,h⟩
  .
   replace h:=Xm h;obtain⟨_,c,h⟩:=h;replace h:=qa h;rcases h with⟨d,h⟩|⟨d,h⟩
   . exact mA 0 (i _ _ h) 3 [tT 44 b,sA 47 c,tT 48 d] 116 83076749736557094482535351591108140
   .
    replace h:=qa h;rcases h with⟨e,h⟩|⟨e,h⟩
    . replace h:=qa h;rcases h with⟨f,h⟩|⟨f,h⟩
      . exact mA 0 (i _ _ h) 3 [tT 44 b,sA 47 c,tF 48 d,tT 52 e,tT 55 f] 116 83076749736557094482535351591108140
      . exact mA 0 (i _ _ h) 3 [tT 44 b,sA 47 c,tF 48 d,tT 52 e,tF 55 f,tF 60 (show(decide (a>0))=false from by rw[eq_of_beq e];rfl)] 116 83076749736557094482535351591108140
    . replace h:=qa h;rcases h with⟨f,h⟩|⟨f,h⟩
      . exact mA 0 (i _ _ h) 3 [tT 44 b,sA 47 c,tF 48 d,tF 52 e,tT 60 f] 116 83076749736557094482535351591108140
      . exact mA 0 (i _ _ h) 3 [tT 44 b,sA 47 c,tF 48 d,tF 52 e,tF 60 f] 116 83076749736557094482535351591108140
  .
   replace h:=qa h;rcases h with⟨g,h⟩|⟨g,h⟩
   . replace h:=qa h;rcases h with⟨c,h⟩|⟨c,h⟩
     . exact mA 0 (i _ _ h) 3 [tF 44 b,tT 52 g,tT 55 c] 116 83076749736557094482535351591108140
     . exact mA 0 (i _ _ h) 3 [tF 44 b,tT 52 g,tF 55 c,tF 60 (show(decide (a>0))=false from by rw[eq_of_beq g];rfl)] 116 83076749736557094482535351591108140
   . replace h:=qa h;rcases h with⟨c,h⟩|⟨c,h⟩
     . exact mA 0 (i _ _ h) 3 [tF 44 b,tF 52 g,tT 60 c] 116 83076749736557094482535351591108140
     . exact mA 0 (i _ _ h) 3 [tF 44 b,tF 52 g,tF 60 c] 116 83076749736557094482535351591108140
 |.h2 ..,h=>by
  replace h:=qa h;rcases h with⟨rfl,h⟩|⟨rfl,h⟩
  . cases h;exact mF 0 []
  .
   replace h:=qa h;rcases h with⟨a,h⟩|⟨a,h⟩
   . obtain⟨_,b,h⟩:=b2 h;replace h:=qa h;rcases h with⟨c,h⟩|⟨c,h⟩
     . cases h;exact mF 0 [tT 70 a,cA 73 (evI b),tT 77 c]
     . cases h;exact mF 0 [tT 70 a,cA 73 (evI b),tF 77 c]
   . replace h:=zo h;obtain⟨d,h⟩:=h;replace h:=zo h;obtain⟨b,h⟩:=h;exact mA 0 (i _ _ h) 14 [tF 70 a,xS 94 d,xC 95 b] 116 83076195139419642206124786459866799
 |.h3 ..,h=>by
  replace h:=qa h;rcases h with⟨a,h⟩|⟨a,h⟩
  . replace h:=YJ h;obtain⟨_,b,h⟩:=h;replace h:=qsN h;obtain⟨_,rfl,h⟩:=h;exact mA 0 (i _ _ h) 13 [tT 99 a,rA 100 b] 116 83076195139419642206124786459866799
  . cases h;exact mF 0 [tF 99 a]
theorem ev90 {k:Nat}{a:By}{b:Int}{r:R90}(h:g90 k a b=some r):E90 a b r:=qoq (ok90 _ _ _ h)
instance {k:Nat} {a:By} {b:Int}:EvI (g90 k a b) 90 [csc a,cic b] [] qnd nB:=⟨λr h=>ev90 h⟩
noncomputable def qyz (k:Nat)(rec:S45->Option R45):S45->Option R45
 |.e a b=>
  sxI a (tg 15 b) λc=>
  (tg 17 (g85 k c)).bind λd=>
  bif d then
   (tg 20 (g86 k a b true)).bind λe=>
   gd (tg 26 (tg 0 (decide (0<=b/\b<=(wZ (b+e))/\(wZ (b+e))<=(a.size:Int))))) <|
   (tg 28 (g87 k (a.extract (Int.toNat b) (Int.toNat (wZ (b+e)))))).bind λf=>
   bif f then
    some (1,(a.extract (Int.toNat b) (Int.toNat (wZ (b+e)))),0,0,0,e)
   else
    (tg 33 (g88 k (a.extract (Int.toNat b) (Int.toNat (wZ (b+e)))))).bind λg=>
    bif g then
     some (2,(a.extract (Int.toNat b) (Int.toNat (wZ (b+e)))),0,0,0,e)
    else
     some (0,strB [],0,0,0,0)
  else
   (tg 39 (g89 k c)).bind λe=>
   bif e then
    (tg 42 (g90 k a b)).bind λi=>
    tup6 i λj l m n o p=>
    some (j,l,m,n,o,p)
   else
    bif tg 46 (c==39)then
     (tg 50 (g86 k a (wZ (b+1)) true)).bind λf=>
     gd (tg 58 (tg 0 (decide (0<=(wZ (b+1))/\(wZ (b+1))<=(wZ ((wZ (b+1))+f))/\(wZ ((wZ (b+1))+f))<=(a.size:Int))))) <|
     (tg 60 (g88 k (a.extract (Int.toNat (wZ (b+1))) (Int.toNat (wZ ((wZ (b+1))+f)))))).bind λq=>
     bif tg 61 (!q)then
      rec (tg 25 (.h0 f (a.extract (Int.toNat (wZ (b+1))) (Int.toNat (wZ ((wZ (b+1))+f)))) true 0 (strB []) 0 0 0))
     else
      bif tg 69 (decide ((wZ ((wZ (b+1))+f))>=(a.size:Int)))then
       rec (tg 25 (.h0 f (a.extract (Int.toNat (wZ (b+1))) (Int.toNat (wZ ((wZ (b+1))+f)))) true 0 (strB []) 0 0 0))
      else
       sxI a (tg 77 (wZ ((wZ (b+1))+f))) λt=>
       rec (tg 25 (.h0 f (a.extract (Int.toNat (wZ (b+1))) (Int.toNat (wZ ((wZ (b+1))+f)))) (t != 39) 0 (strB []) 0 0 0))
    else
     rec (tg 24 (.h1 a b [[sc (strB [33,61])],[sc (strB [60,61])],[sc (strB [62,61])],[sc (strB [40])],[sc (strB [41])],[sc (strB [44])],[sc (strB [46])],[sc (strB [43])],[sc (strB [45])],[sc (strB [42])],[sc (strB [47])],[sc (strB [37])],[sc (strB [61])],[sc (strB [60])],[sc (strB [62])],[sc (strB [33])],[sc (strB [124])]] 17 0 0 (strB []) 0 0 0))
 |.h0 a b c ..=>
  bif c then
   some (0,strB [],0,0,0,0)
  else
   some (5,b,0,0,0,wZ (a+2))
 |.h1 a b c d e f g i j l=>
  bif tg 88 (decide (e<d))then
   ixR c (tg 89 (tg 3 e)) λm=>
   un_s m λn=>
   bif tg 97 (decide ((wZ (b+(n.size:Int)))<=(a.size:Int)))then
    gd (tg 105 (tg 0 (decide (0<=b/\b<=(wZ (b+(n.size:Int)))/\(wZ (b+(n.size:Int)))<=(a.size:Int))))) <|
    rec (tg 12 (.h2 a b n c d e ((a.extract (Int.toNat b) (Int.toNat (wZ (b+(n.size:Int))))).toList==n.toList) f g i j l))
   else
    rec (tg 12 (.h2 a b n c d e false f g i j l))
  else
   some (0,strB [],0,0,0,0)
 |.h2 a b c d e f g i j l m n=>
  bif g then
   some (6,c,0,0,0,(c.size:Int))
  else
   rec (tg 4 (.h1 a b d e (wZ (f+1)) i j l m n))
noncomputable def g45 (k:Nat)(a:By)(b:Int):Option R45:=itS qyz k (.e a b)
def P45:S45->R45->Prop
 |.e a b=>Fe Y45 qnd nB [csc a,cic b] []
 |.h0 a b c d e f g i=>Fk Y45 qnd nB [1,1,1,1,0,1,0,1,1,0,1,2] (rd 4++[pL 4]++rd 4++[cic a,csc b]++rd 68++[cbc c]++rd 35) [(.loc 4,[ic d,sc e,ic f,ic g,ic i])]
 |.h1 a b c d e f g i j l=>Fk Y45 qnd nB [1,1,1,1,1,0,1,0,4] ([csc a,cic b,.deadv,.deadv,pL 4]++rd 80++[.c (.own 1 c),cic d,cic e]++rd 27) [(.loc 4,[ic f,sc g,ic i,ic j,ic l])]
 |.h2 a b c d e f g i j l m n=>Fk Y45 qnd nB [1,1,1,1,1,0,1,0,0,1,1,0,0,1,1,2] ([csc a,cic b,.deadv,.deadv,pL 4]++rd 7++[csc c]++rd 72++[.c (.own 1 d),cic e,cic f]++rd 20++[cbc g]++rd 6) [(.loc 4,[ic i,sc j,ic l,ic m,ic n])]
theorem ok45:∀ k s r,itS qyz k s=some r->P45 s r:=okU (And.intro @qwn trivial)
instance {k:Nat} {a:By} {b:Int}:EvI (g45 k a b) 45 [csc a,cic b] [] qnd nB:=eI ok45
def qiT:R20->ARes
 |(a,b,c)=>.ret ⟨.tup [false,false,false],[[.own 5 a],[ic b],[ic c]]⟩
noncomputable def yY (k:Nat)(rec:S20->Option R20):S20->Option R20
 |.e a=>
  bif tg 11 (decide ((a.size:Int)>4000))then
   rec (tg 8 (rg [] [(⟨⟨.slot 2,[]⟩,0,0⟩,some 5)] (.h0 [] 0 2)))
  else
   rec (tg 13 (rg [] [(⟨⟨.slot 5,[]⟩,0,0⟩,some 5)] (.h1 a [] 0)))
 |.h0 a b c=>some (a,b,c)
 |.h1 a b c=>rec (tg 5 (.h2 a b c))
 |.h2 a b c=>
  bif tg 15 (decide (c<(a.size:Int)))then
   sxI a (tg 19 c) λd=>
   (tg 20 (g44 k d)).bind λe=>
   rec (tg 4 (.h3 a b c e))
  else
   rec (tg 4 (.h3 a b c false))
 |.h3 a b c d=>
  bif d then
   rec (tg 5 (.h2 a b (wZ (c+1))))
  else
   bif tg 27 (c==(a.size:Int))then
    gd (tg 32 (apOk 48 5 b [[ic 0,sc (strB []),ic 0,ic 0,ic c]])) <|
    rec (tg 8 (.h4 (b++[[ic 0,sc (strB []),ic 0,ic 0,ic c]]) 0 0))
   else
    (tg 36 (g45 k a c)).bind λe=>
    tup6 e λf g i j _ l=>
    bif tg 40 (l==0)then
     rec (tg 15 (rg [7] [(⟨⟨.slot 2,[]⟩,0,0⟩,some 5)] (.h5 [] c 12)))
    else
     gd (tg 47 (apOk 48 5 b [[ic f,sc g,ic i,ic j,ic c]])) <|
     rec (tg 20 (rg [7] [] (.h1 a (b++[[ic f,sc g,ic i,ic j,ic c]]) (wZ (c+l)))))
 |.h4 a b c=>some (a,b,c)
 |.h5 a b c=>some (a,b,c)
noncomputable def g20 (k:Nat)(a:By):Option R20:=itS yY k (.e a)
def P20:S20->R20->Prop
 |.e a=>Fe Y20 qiT nB [csc a] []
 |.h0 a b c=>Fk Y20 qiT nB [1,0,1,0,1,2] ([.deadv,.deadv,.c (.own 5 a),cic b,cic c]++rd 46) []
 |.h1 a b c=>Fk Y20 qiT nB [1,1,1,1,0,4] ([csc a]++rd 4++[.c (.own 5 b),cic c]++rd 44) []
 |.h2 a b c=>Fk Y20 qiT nB [1,1,1,1,0,0,0,0,0,4] ([csc a]++rd 4++[.c (.own 5 b),cic c]++rd 44) []
 |.h3 a b c d=>Fk Y20 qiT nB [1,1,1,1,0,0,0,0,0,0,0,1,2] ([csc a]++rd 4++[.c (.own 5 b),cic c]++rd 14++[cbc d]++rd 29) []
 |.h4 a b c=>Fk Y20 qiT nB [1,1,1,1,0,0,0,1,0,1,0,1,2] ([.deadv,.deadv,.c (.own 5 a),cic b,cic c]++rd 46) []
 |.h5 a b c=>Fk Y20 qiT nB [1,1,1,1,0,0,0,1,1,1,0,1,0,1,2] ([.deadv,.deadv,.c (.own 5 a),cic b,cic c]++rd 46) []
theorem ok20:∀ k s r,itS yY k s=some r->P20 s r:=okU trivial
instance {k:Nat} {a:By}:EvI (g20 k a) 20 [csc a] [] qiT nB:=eI ok20
def qtF:R47->ARes
 |(a,b,c,d,e,_)=>.ret (.ag [ic a,sc b,ic c,ic d,ic e])
def bx47 (c d e f g h:Int)(i:ByteArray)(b:Int):R47->List (List Cell)
 |(_,_,_,_,_,a)=>[[.imm a,ic c,ic d,ic e,ic f,.nil,.nil,ic g,ic h,sc i,ic b]]
noncomputable def qCr (k:Nat)(rec:S47->Option R47):S47->Option R47
 |.e a b ..=>
  ixR a (tg 11 b) λc=>
  qaM c λd e f g i=>
  some (d,e,f,g,i,a)
noncomputable def g47 (k:Nat)(a:Rs)(b c d e f g:Int)(i:By)(j:Int):Option R47:=itS qCr k (.e a b c d e f g i j)
def P47:S47->R47->Prop
 |.e a b c d e f g i j=>Fe Y47 qtF (bx47 b c d e f g i j) [pP 0] [[.imm a,ic b,ic c,ic d,ic e,.nil,.nil,ic f,ic g,sc i,ic j]]
theorem ok47:∀ k s r,itS qCr k s=some r->P47 s r:=okU (And.intro @qvx trivial)
instance {k:Nat} {a:Rs} {b c d e f g:Int} {i:By} {j:Int}:EvI (g47 k a b c d e f g i j) 47 [pP 0] [[.imm a,ic b,ic c,ic d,ic e,.nil,.nil,ic f,ic g,sc i,ic j]] qtF (bx47 b c d e f g i j):=eI ok47
def qiC:R23->ARes
 |(r,_)=>.ret (cbc r)
def bx23 (c d e f g h:Int)(i:ByteArray)(b:Int):R23->List (List Cell)
 |(_,a)=>[[.imm a,ic c,ic d,ic e,ic f,.nil,.nil,ic g,ic h,sc i,ic b]]
noncomputable def qkj (k:Nat)(rec:S23->Option R23):S23->Option R23
 |.e a b c d e f g i j l=>
  (tg 7 (g47 k b c d e f g i j l)).bind λm=>
  tup6 m λn o _ _ _ p=>
  bif tg 10 (n==1)then
   some (o.toList==a.toList,p)
  else
   bif tg 14 (n==6)then
    some (o.toList==a.toList,p)
   else
    some (false,p)
noncomputable def g23 (k:Nat)(a:By)(b:Rs)(c d e f g i:Int)(j:By)(l:Int):Option R23:=itS qkj k (.e a b c d e f g i j l)
def P23:S23->R23->Prop
 |.e a b c d e f g i j l=>Fe Y23 qiC (bx23 c d e f g i j l) [pP 0,csc a] [[.imm b,ic c,ic d,ic e,ic f,.nil,.nil,ic g,ic i,sc j,ic l]]
theorem ok23:∀ k s r,itS qkj k s=some r->P23 s r:=okU trivial
instance {k:Nat} {a:By} {b:Rs} {c d e f g i:Int} {j:By} {l:Int}:EvI (g23 k a b c d e f g i j l) 23 [pP 0,csc a] [[.imm b,ic c,ic d,ic e,ic f,.nil,.nil,ic g,ic i,sc j,ic l]] qiC (bx23 c d e f g i j l):=eI ok23
def qlX:R26->ARes
 |(_,_,_)=>.ret .undef
def bx26 (e f g h:Int)(i:ByteArray)(d:Int):R26->List (List Cell)
 |(a,b,c)=>[[.imm a,ic e,ic f,ic b,ic c,.nil,.nil,ic g,ic h,sc i,ic d]]
noncomputable def qsr (k:Nat)(rec:S26->Option R26):S26->Option R26
 |.e a b c d e f g i j l=>
  bif tg 8 (e==0)then
   (tg 13 (g47 k b c d e f g i j l)).bind λm=>
   tup6 m λ_ _ _ _ n o=>
   some (o,a,n)
  else
   some (b,e,f)
noncomputable def g26 (k:Nat)(a:Int)(b:Rs)(c d e f g i:Int)(j:By)(l:Int):Option R26:=itS qsr k (.e a b c d e f g i j l)
def P26:S26->R26->Prop
 |.e a b c d e f g i j l=>Fe Y26 qlX (bx26 c d g i j l) [pP 0,cic a] [[.imm b,ic c,ic d,ic e,ic f,.nil,.nil,ic g,ic i,sc j,ic l]]
theorem ok26:∀ k s r,itS qsr k s=some r->P26 s r:=okU trivial
instance {k:Nat} {a:Int} {b:Rs} {c d e f g i:Int} {j:By} {l:Int}:EvI (g26 k a b c d e f g i j l) 26 [pP 0,cic a] [[.imm b,ic c,ic d,ic e,ic f,.nil,.nil,ic g,ic i,sc j,ic l]] qlX (bx26 c d g i j l):=eI ok26
def qtD:R21->ARes
 |(_,_,_,_)=>.ret .undef
def bx21 (f g h:Int)(i:ByteArray)(e:Int):R21->List (List Cell)
 |(a,b,c,d)=>[[.imm a,ic b,ic f,ic c,ic d,.nil,.nil,ic g,ic h,sc i,ic e]]
noncomputable def qq0 (k:Nat)(rec:S21->Option R21):S21->Option R21
 |.e a b c d e f g i j l=>
  bif tg 8 (e != 0)then
   some (b,c,e,f)
  else
   (tg 11 (g23 k a b c d e f g i j l)).bind λm=>
   tup2 m λn o=>
   bif tg 12 (!n)then
    (tg 14 (g26 k 13 o c d e f g i j l)).bind λp=>
    tup3 p λq t u=>
    some (q,c,t,u)
   else
    some (o,wZ (c+1),e,f)
noncomputable def g21 (k:Nat)(a:By)(b:Rs)(c d e f g i:Int)(j:By)(l:Int):Option R21:=itS qq0 k (.e a b c d e f g i j l)
def P21:S21->R21->Prop
 |.e a b c d e f g i j l=>Fe Y21 qtD (bx21 d g i j l) [pP 0,csc a] [[.imm b,ic c,ic d,ic e,ic f,.nil,.nil,ic g,ic i,sc j,ic l]]
theorem ok21:∀ k s r,itS qq0 k s=some r->P21 s r:=okU trivial
instance {k:Nat} {a:By} {b:Rs} {c d e f g i:Int} {j:By} {l:Int}:EvI (g21 k a b c d e f g i j l) 21 [pP 0,csc a] [[.imm b,ic c,ic d,ic e,ic f,.nil,.nil,ic g,ic i,sc j,ic l]] qtD (bx21 d g i j l):=eI ok21
def qDr:R47b->ARes
 |(a,b,c,d,e,_,_,_)=>.ret (.ag [ic a,sc b,ic c,ic d,ic e])
def qEy (e f g h i j:Int)(k:ByteArray)(d:Int):R47b->List (List Cell)
 |(_,_,_,_,_,a,b,c)=>[[.imm a,ic e,ic f,ic g,ic h,.own 1 b,.own 7 c,ic i,ic j,sc k,ic d]]
noncomputable def qAj (k:Nat)(rec:S47b->Option R47b):S47b->Option R47b
 |.e a b _ _ _ c d ..=>
  ixR a (tg 11 b) λe=>
  qaM e λf g i j l=>
  some (f,g,i,j,l,a,c,d)
noncomputable def g47b (k:Nat)(a:Rs)(b c d e:Int)(f g:Rs)(i j:Int)(l:By)(m:Int):Option R47b:=itS qAj k (.e a b c d e f g i j l m)
def P47b:S47b->R47b->Prop
 |.e a b c d e f g i j l m=>Fe Y47 qDr (qEy b c d e i j l m) [pP 0] [[.imm a,ic b,ic c,ic d,ic e,.own 1 f,.own 7 g,ic i,ic j,sc l,ic m]]
theorem qGi:∀ k s r,itS qAj k s=some r->P47b s r:=okU (And.intro @qvx trivial)
instance {k:Nat} {a:Rs} {b c d e:Int} {f g:Rs} {i j:Int} {l:By} {m:Int}:EvI (g47b k a b c d e f g i j l m) 47 [pP 0] [[.imm a,ic b,ic c,ic d,ic e,.own 1 f,.own 7 g,ic i,ic j,sc l,ic m]] qDr (qEy b c d e i j l m):=eI qGi
def qAM:R26b->ARes
 |(_,_,_,_,_)=>.ret .undef
def qCQ (g h i j:Int)(k:ByteArray)(f:Int):R26b->List (List Cell)
 |(a,b,c,d,e)=>[[.imm a,ic g,ic h,ic b,ic c,.own 1 d,.own 7 e,ic i,ic j,sc k,ic f]]
noncomputable def qyP (k:Nat)(rec:S26b->Option R26b):S26b->Option R26b
 |.e a b c d e f g i j l m n=>
  bif tg 8 (e==0)then
   (tg 13 (g47b k b c d e f g i j l m n)).bind λo=>
   tup8 o λ_ _ _ _ p q t u=>
   some (q,a,p,t,u)
  else
   some (b,e,f,g,i)
noncomputable def g26b (k:Nat)(a:Int)(b:Rs)(c d e f:Int)(g i:Rs)(j l:Int)(m:By)(n:Int):Option R26b:=itS qyP k (.e a b c d e f g i j l m n)
def P26b:S26b->R26b->Prop
 |.e a b c d e f g i j l m n=>Fe Y26 qAM (qCQ c d j l m n) [pP 0,cic a] [[.imm b,ic c,ic d,ic e,ic f,.own 1 g,.own 7 i,ic j,ic l,sc m,ic n]]
theorem qGc:∀ k s r,itS qyP k s=some r->P26b s r:=okU trivial
instance {k:Nat} {a:Int} {b:Rs} {c d e f:Int} {g i:Rs} {j l:Int} {m:By} {n:Int}:EvI (g26b k a b c d e f g i j l m n) 26 [pP 0,cic a] [[.imm b,ic c,ic d,ic e,ic f,.own 1 g,.own 7 i,ic j,ic l,sc m,ic n]] qAM (qCQ c d j l m n):=eI qGc
noncomputable def qyQ (k:Nat)(rec:S50b->Option R50b):S50b->Option R50b
 |.e a b c d e f g i j l m n=>
  bif tg 9 (e==0)then
   (tg 14 (g26b k a b c d e f g i j l m n)).bind λo=>
   tup5 o λp q t u v=>
   some (p,q,t,u,v)
  else
   some (b,e,f,g,i)
noncomputable def g50b (k:Nat)(a:Int)(b:Rs)(c d e f:Int)(g i:Rs)(j l:Int)(m:By)(n:Int):Option R50b:=itS qyQ k (.e a b c d e f g i j l m n)
def P50b:S50b->R50b->Prop
 |.e a b c d e f g i j l m n=>Fe Y50 qAM (qCQ c d j l m n) [pP 0,cic a] [[.imm b,ic c,ic d,ic e,ic f,.own 1 g,.own 7 i,ic j,ic l,sc m,ic n]]
theorem qGk:∀ k s r,itS qyQ k s=some r->P50b s r:=okU trivial
instance {k:Nat} {a:Int} {b:Rs} {c d e f:Int} {g i:Rs} {j l:Int} {m:By} {n:Int}:EvI (g50b k a b c d e f g i j l m n) 50 [pP 0,cic a] [[.imm b,ic c,ic d,ic e,ic f,.own 1 g,.own 7 i,ic j,ic l,sc m,ic n]] qAM (qCQ c d j l m n):=eI qGk
def qDq:R23b->ARes
 |(r,_,_,_)=>.ret (cbc r)
def qEv (e f g h i j:Int)(k:ByteArray)(d:Int):R23b->List (List Cell)
 |(_,a,b,c)=>[[.imm a,ic e,ic f,ic g,ic h,.own 1 b,.own 7 c,ic i,ic j,sc k,ic d]]
noncomputable def qAg (k:Nat)(rec:S23b->Option R23b):S23b->Option R23b
 |.e a b c d e f g i j l m n=>
  (tg 7 (g47b k b c d e f g i j l m n)).bind λo=>
  tup8 o λp q _ _ _ t u v=>
  bif tg 10 (p==1)then
   some (q.toList==a.toList,t,u,v)
  else
   bif tg 14 (p==6)then
    some (q.toList==a.toList,t,u,v)
   else
    some (false,t,u,v)
noncomputable def g23b (k:Nat)(a:By)(b:Rs)(c d e f:Int)(g i:Rs)(j l:Int)(m:By)(n:Int):Option R23b:=itS qAg k (.e a b c d e f g i j l m n)
def P23b:S23b->R23b->Prop
 |.e a b c d e f g i j l m n=>Fe Y23 qDq (qEv c d e f j l m n) [pP 0,csc a] [[.imm b,ic c,ic d,ic e,ic f,.own 1 g,.own 7 i,ic j,ic l,sc m,ic n]]
theorem qGa:∀ k s r,itS qAg k s=some r->P23b s r:=okU trivial
instance {k:Nat} {a:By} {b:Rs} {c d e f:Int} {g i:Rs} {j l:Int} {m:By} {n:Int}:EvI (g23b k a b c d e f g i j l m n) 23 [pP 0,csc a] [[.imm b,ic c,ic d,ic e,ic f,.own 1 g,.own 7 i,ic j,ic l,sc m,ic n]] qDq (qEv c d e f j l m n):=eI qGa
def qCe:R51b->ARes
 |(r,_,_,_,_,_,_)=>.ret (csc r)
def qDD (h i j:Int)(k:ByteArray)(g:Int):R51b->List (List Cell)
 |(_,a,b,c,d,e,f)=>[[.imm a,ic b,ic h,ic c,ic d,.own 1 e,.own 7 f,ic i,ic j,sc k,ic g]]
noncomputable def qya (k:Nat)(rec:S51b->Option R51b):S51b->Option R51b
 |.e a b c d e f g i j l m=>
  bif tg 8 (d != 0)then
   rec (tg 5 (.h0 true a b c d e f g i j l m))
  else
   ixR a (tg 20 b) λn=>
   qaM n λo _ _ _ _=>
   rec (tg 5 (.h0 (o != 2) a b c d e f g i j l m))
 |.h0 a b c d e f g i j l m n=>
  bif a then
   (tg 26 (g50b k 13 b c d e f g i j l m n)).bind λo=>
   tup5 o λp q t u v=>
   some (strB [],p,c,q,t,u,v)
  else
   ixR b (tg 47 (wZ ((wZ (c+1))-1))) λw=>
   qaM w λ_ x _ _ _=>
   some (x,b,wZ (c+1),e,f,g,i)
noncomputable def g51b (k:Nat)(a:Rs)(b c d e:Int)(f g:Rs)(i j:Int)(l:By)(m:Int):Option R51b:=itS qya k (.e a b c d e f g i j l m)
def P51b:S51b->R51b->Prop
 |.e a b c d e f g i j l m=>Fe Y51 qCe (qDD c i j l m) [pP 0] [[.imm a,ic b,ic c,ic d,ic e,.own 1 f,.own 7 g,ic i,ic j,sc l,ic m]]
 |.h0 a b c d e f g i j l m n=>Fk Y51 qCe (qDD d j l m n) [1,0,1,2] ([pP 0]++rd 23++[cbc a]++rd 25) [(.par 0,[.imm b,ic c,ic d,ic e,ic f,.own 1 g,.own 7 i,ic j,ic l,sc m,ic n])]
theorem qGl:∀ k s r,itS qya k s=some r->P51b s r:=okU (And.intro @qvx trivial)
instance {k:Nat} {a:Rs} {b c d e:Int} {f g:Rs} {i j:Int} {l:By} {m:Int}:EvI (g51b k a b c d e f g i j l m) 51 [pP 0] [[.imm a,ic b,ic c,ic d,ic e,.own 1 f,.own 7 g,ic i,ic j,sc l,ic m]] qCe (qDD c i j l m):=eI qGl
def qwb:R21b->ARes
 |(_,_,_,_,_,_)=>.ret .undef
def qxs (h i j:Int)(k:ByteArray)(g:Int):R21b->List (List Cell)
 |(a,b,c,d,e,f)=>[[.imm a,ic b,ic h,ic c,ic d,.own 1 e,.own 7 f,ic i,ic j,sc k,ic g]]
noncomputable def qAe (k:Nat)(rec:S21b->Option R21b):S21b->Option R21b
 |.e a b c d e f g i j l m n=>
  bif tg 8 (e != 0)then
   some (b,c,e,f,g,i)
  else
   (tg 11 (g23b k a b c d e f g i j l m n)).bind λo=>
   tup4 o λp q t u=>
   bif tg 12 (!p)then
    (tg 14 (g26b k 13 q c d e f t u j l m n)).bind λv=>
    tup5 v λw x y z h=>
    some (w,c,x,y,z,h)
   else
    some (q,wZ (c+1),e,f,t,u)
noncomputable def g21b (k:Nat)(a:By)(b:Rs)(c d e f:Int)(g i:Rs)(j l:Int)(m:By)(n:Int):Option R21b:=itS qAe k (.e a b c d e f g i j l m n)
def P21b:S21b->R21b->Prop
 |.e a b c d e f g i j l m n=>Fe Y21 qwb (qxs d j l m n) [pP 0,csc a] [[.imm b,ic c,ic d,ic e,ic f,.own 1 g,.own 7 i,ic j,ic l,sc m,ic n]]
theorem qF7:∀ k s r,itS qAe k s=some r->P21b s r:=okU trivial
instance {k:Nat} {a:By} {b:Rs} {c d e f:Int} {g i:Rs} {j l:Int} {m:By} {n:Int}:EvI (g21b k a b c d e f g i j l m n) 21 [pP 0,csc a] [[.imm b,ic c,ic d,ic e,ic f,.own 1 g,.own 7 i,ic j,ic l,sc m,ic n]] qwb (qxs d j l m n):=eI qF7
def qyt:R46b->ARes
 |(a,b,c,d,_,_,_,_,_,_)=>.ret (.ag [ic a,sc b,sc c,ic d])
def qA1 (h i j:Int)(k:ByteArray)(g:Int):R46b->List (List Cell)
 |(_,_,_,_,a,b,c,d,e,f)=>[[.imm a,ic b,ic h,ic c,ic d,.own 1 e,.own 7 f,ic i,ic j,sc k,ic g]]
noncomputable def qwM (k:Nat)(rec:S46b->Option R46b):S46b->Option R46b
 |.e a b c d e f g i j l m n=>
  ixR b (tg 17 c) λo=>
  qaM o λp q t u v=>
  bif tg 20 (a==8)then
   bif tg 24 (p==2)then
    rec (tg 7 (.h0 true p q t u v 0 (strB []) (strB []) 0 b c d e f g i j l m n))
   else
    (tg 29 (g23b k (strB [33]) b c d e f g i j l m n)).bind λw=>
    tup4 w λx y z h=>
    rec (tg 7 (.h0 x p q t u v 0 (strB []) (strB []) 0 y c d e f z h j l m n))
  else
   rec (tg 7 (.h0 false p q t u v 0 (strB []) (strB []) 0 b c d e f g i j l m n))
 |.h0 a _ _ _ _ b c d e f g i j l m n o p q t u=>
  bif a then
   (tg 35 (g26b k 2 g i j l m n o p q t u)).bind λv=>
   tup5 v λw x y z h=>
   some (0,strB [],strB [],0,w,i,x,y,z,h)
  else
   (tg 43 (g23b k (strB [33]) g i j l m n o p q t u)).bind λv=>
   tup4 v λr w z h=>
   bif r then
    rec (tg 11 (rg [5] [] (.h1 3 (strB []) (strB []) b c d e f w (wZ (i+1)) j l m z h p q t u)))
   else
    rec (tg 9 (rg [5] [] (.h1 1 (strB []) (strB []) b c d e f w i j l m z h p q t u)))
 |.h1 a _ b c d e f g i j l m n o p q t u v=>
  (tg 55 (g51b k i j l m n o p q t u v)).bind λw=>
  tup7 w λx y z h r c1 s=>
  bif tg 62 (h==0)then
   bif tg 66 (a==1)then
    (tg 72 (g23b k (strB [43]) y z l h r c1 s q t u v)).bind λA=>
    tup4 A λB C D E=>
    rec (tg 5 (.h2 B a x b c d e f g C z l h r D E q t u v))
   else
    rec (tg 5 (.h2 false a x b c d e f g y z l h r c1 s q t u v))
  else
   rec (tg 5 (.h2 false a x b c d e f g y z l h r c1 s q t u v))
 |.h2 a b c d e f g i j l m n o p q t u v w x=>
  bif a then
   rec (tg 4 (.h3 2 c d e f g i j l (wZ (m+1)) n o p q t u v w x))
  else
   rec (tg 2 (.h3 b c d e f g i j l m n o p q t u v w x))
 |.h3 a b _ c _ _ _ _ d e f g i j l m n o p=>
  (tg 85 (g51b k d e f g i j l m n o p)).bind λq=>
  tup7 q λt u v w x y z=>
  some (a,b,t,c,u,v,w,x,y,z)
noncomputable def g46b (k:Nat)(a:Int)(b:Rs)(c d e f:Int)(g i:Rs)(j l:Int)(m:By)(n:Int):Option R46b:=itS qwM k (.e a b c d e f g i j l m n)
def P46b:S46b->R46b->Prop
 |.e a b c d e f g i j l m n=>Fe Y46 qyt (qA1 d j l m n) [pP 0,cic a] [[.imm b,ic c,ic d,ic e,ic f,.own 1 g,.own 7 i,ic j,ic l,sc m,ic n]]
 |.h0 a b c d e f g i j l m n o p q t u v w x y=>Fk Y46 qyt (qA1 o v w x y) [1,1,0,1,2] ([pP 0]++rd 3++[pL 4,pL 5]++rd 25++[cbc a]++rd 56) [(.loc 5,[ic b,sc c,ic d,ic e,ic f]),(.loc 4,[ic g,sc i,sc j,ic l]),(.par 0,[.imm m,ic n,ic o,ic p,ic q,.own 1 t,.own 7 u,ic v,ic w,sc x,ic y])]
 |.h1 a b c d e f g i j l m n o p q t u v w=>Fk Y46 qyt (qA1 m t u v w) [1,1,1,1,1,2] ([pP 0]++rd 3++[pL 4,.deadv,pL 6]++rd 81) [(.loc 6,[ic a,sc b,sc c,ic d]),(.loc 4,[ic e,sc f,sc g,ic i]),(.par 0,[.imm j,ic l,ic m,ic n,ic o,.own 1 p,.own 7 q,ic t,ic u,sc v,ic w])]
 |.h2 a b c d e f g i j l m n o p q t u v w x=>Fk Y46 qyt (qA1 n u v w x) [1,1,1,1,1,1,0,1,2] ([pP 0]++rd 3++[pL 4,.deadv,pL 6]++rd 66++[cbc a]++rd 14) [(.loc 6,[ic b,sc c,sc d,ic e]),(.loc 4,[ic f,sc g,sc i,ic j]),(.par 0,[.imm l,ic m,ic n,ic o,ic p,.own 1 q,.own 7 t,ic u,ic v,sc w,ic x])]
 |.h3 a b c d e f g i j l m n o p q t u v w=>Fk Y46 qyt (qA1 m t u v w) [1,1,1,1,1,1,1,2] ([pP 0]++rd 3++[pL 4,.deadv,pL 6]++rd 81) [(.loc 6,[ic a,sc b,sc c,ic d]),(.loc 4,[ic e,sc f,sc g,ic i]),(.par 0,[.imm j,ic l,ic m,ic n,ic o,.own 1 p,.own 7 q,ic t,ic u,sc v,ic w])]
theorem qGh:∀ k s r,itS qwM k s=some r->P46b s r:=okU (And.intro @qvx trivial)
instance {k:Nat} {a:Int} {b:Rs} {c d e f:Int} {g i:Rs} {j l:Int} {m:By} {n:Int}:EvI (g46b k a b c d e f g i j l m n) 46 [pP 0,cic a] [[.imm b,ic c,ic d,ic e,ic f,.own 1 g,.own 7 i,ic j,ic l,sc m,ic n]] qyt (qA1 d j l m n):=eI qGh
noncomputable def qwm (k:Nat)(rec:S22b->Option R22b):S22b->Option R22b
 |.e a b c d e f g i j l m=>
  bif tg 8 (d==0)then
   (tg 13 (g23b k (strB [83,69,81]) a b c d e f g i j l m)).bind λn=>
   tup4 n λo p q t=>
   bif o then
    rec (tg 3 (.h0 ((q.length:Int)==4) p b c d e q t i j l m))
   else
    rec (tg 3 (.h0 false p b c d e q t i j l m))
  else
   rec (tg 3 (.h0 false a b c d e f g i j l m))
 |.h0 a b c d e f g i j l m n=>
  bif a then
   (tg 27 (g26b k 2 b c d e f g i j l m n)).bind λo=>
   tup5 o λp q t u v=>
   rec (tg 2 (.h1 p c d q t u v j l m n))
  else
   rec (tg 2 (.h1 b c d e f g i j l m n))
 |.h1 a b c d e f g i j l m=>
  (tg 31 (g21b k (strB [83,69,81]) a b c d e f g i j l m)).bind λn=>
  tup6 n λo p q t u v=>
  (tg 35 (g21b k (strB [40]) o p c q t u v i j l m)).bind λw=>
  tup6 w λx y z h r c1=>
  rec (tg 9 (rg [] [(⟨⟨.slot 2,[]⟩,0,0⟩,some 4)] (.h2 [] x y c z h r c1 i j l m)))
 |.h2 a b c d e f g i j l m n=>
  bif tg 41 (e==0)then
   (tg 46 (g46b k (a.length:Int) b c d e f g i j l m n)).bind λo=>
   ql o λp q t u v w x y z h=>
   gd (tg 48 (apOk 48 4 a [[ic p,sc q,sc t,ic u]])) <|
   bif tg 54 (x != 0)then
    rec (tg 12 (.h3 (a++[[ic p,sc q,sc t,ic u]]) true v w d x y z h j l m n))
   else
    (tg 59 (g23b k (strB [44]) v w d x y z h j l m n)).bind λr=>
    tup4 r λc1 s A B=>
    rec (tg 12 (.h3 (a++[[ic p,sc q,sc t,ic u]]) (!c1) s w d x y A B j l m n))
  else
   rec (tg 6 (.h4 a b c d e f g i j l m n))
 |.h3 a b c d e f g i j l m n o=>
  bif b then
   rec (tg 2 (.h4 a c d e f g i j l m n o))
  else
   rec (tg 4 (.h2 a c (wZ (d+1)) e f g i j l m n o))
 |.h4 a b c d e f g i j l m n=>
  (tg 74 (g21b k (strB [41]) b c d e f g i j l m n)).bind λo=>
  tup6 o λp q t u v w=>
  gd (tg 83 (apOk 24 1 v [[.imm (qG a)]])) <|
  some (p,q,t,u,v++[[.imm (qG a)]],w)
noncomputable def g22b (k:Nat)(a:Rs)(b c d e:Int)(f g:Rs)(i j:Int)(l:By)(m:Int):Option R22b:=itS qwm k (.e a b c d e f g i j l m)
def P22b:S22b->R22b->Prop
 |.e a b c d e f g i j l m=>Fe Y22 qwb (qxs c i j l m) [pP 0] [[.imm a,ic b,ic c,ic d,ic e,.own 1 f,.own 7 g,ic i,ic j,sc l,ic m]]
 |.h0 a b c d e f g i j l m n=>Fk Y22 qwb (qxs d j l m n) [0,1,2] ([pP 0]++rd 22++[cbc a]++rd 63) [(.par 0,[.imm b,ic c,ic d,ic e,ic f,.own 1 g,.own 7 i,ic j,ic l,sc m,ic n])]
 |.h1 a b c d e f g i j l m=>Fk Y22 qwb (qxs c i j l m) [1,2] ([pP 0]++rd 86) [(.par 0,[.imm a,ic b,ic c,ic d,ic e,.own 1 f,.own 7 g,ic i,ic j,sc l,ic m])]
 |.h2 a b c d e f g i j l m n=>Fk Y22 qwb (qxs d j l m n) [1,1,1,1,0,0,4] ([pP 0,.deadv,.c (.own 4 a)]++rd 84) [(.par 0,[.imm b,ic c,ic d,ic e,ic f,.own 1 g,.own 7 i,ic j,ic l,sc m,ic n])]
 |.h3 a b c d e f g i j l m n o=>Fk Y22 qwb (qxs e l m n o) [1,1,1,1,0,0,0,1,0,1,0,1,2] ([pP 0,.deadv,.c (.own 4 a)]++rd 58++[cbc b]++rd 25) [(.par 0,[.imm c,ic d,ic e,ic f,ic g,.own 1 i,.own 7 j,ic l,ic m,sc n,ic o])]
 |.h4 a b c d e f g i j l m n=>Fk Y22 qwb (qxs d j l m n) [1,1,1,1,1,2] ([pP 0,.deadv,.c (.own 4 a)]++rd 84) [(.par 0,[.imm b,ic c,ic d,ic e,ic f,.own 1 g,.own 7 i,ic j,ic l,sc m,ic n])]
theorem qF9:∀ k s r,itS qwm k s=some r->P22b s r:=okU trivial
instance {k:Nat} {a:Rs} {b c d e:Int} {f g:Rs} {i j:Int} {l:By} {m:Int}:EvI (g22b k a b c d e f g i j l m) 22 [pP 0] [[.imm a,ic b,ic c,ic d,ic e,.own 1 f,.own 7 g,ic i,ic j,sc l,ic m]] qwb (qxs c i j l m):=eI qF9
def qEz (b c d e:Int):R47c->List (List Cell)
 |(_,_,_,_,_,a)=>[[.imm a,ic b,ic c,ic d,ic e]]
noncomputable def qAk (k:Nat)(rec:S47c->Option R47c):S47c->Option R47c
 |.e a b ..=>
  ixR a (tg 11 b) λc=>
  qaM c λd e f g i=>
  some (d,e,f,g,i,a)
noncomputable def g47c (k:Nat)(a:Rs)(b c d e:Int):Option R47c:=itS qAk k (.e a b c d e)
def P47c:S47c->R47c->Prop
 |.e a b c d e=>Fe Y47 qtF (qEz b c d e) [pP 0] [[.imm a,ic b,ic c,ic d,ic e]]
theorem qGj:∀ k s r,itS qAk k s=some r->P47c s r:=okU (And.intro @qvx trivial)
instance {k:Nat} {a:Rs} {b c d e:Int}:EvI (g47c k a b c d e) 47 [pP 0] [[.imm a,ic b,ic c,ic d,ic e]] qtF (qEz b c d e):=eI qGj
def qEw (b c d e:Int):R23c->List (List Cell)
 |(_,a)=>[[.imm a,ic b,ic c,ic d,ic e]]
noncomputable def qAh (k:Nat)(rec:S23c->Option R23c):S23c->Option R23c
 |.e a b c d e f=>
  (tg 7 (g47c k b c d e f)).bind λg=>
  tup6 g λi j _ _ _ l=>
  bif tg 10 (i==1)then
   some (j.toList==a.toList,l)
  else
   bif tg 14 (i==6)then
    some (j.toList==a.toList,l)
   else
    some (false,l)
noncomputable def g23c (k:Nat)(a:By)(b:Rs)(c d e f:Int):Option R23c:=itS qAh k (.e a b c d e f)
def P23c:S23c->R23c->Prop
 |.e a b c d e f=>Fe Y23 qiC (qEw c d e f) [pP 0,csc a] [[.imm b,ic c,ic d,ic e,ic f]]
theorem qGb:∀ k s r,itS qAh k s=some r->P23c s r:=okU trivial
instance {k:Nat} {a:By} {b:Rs} {c d e f:Int}:EvI (g23c k a b c d e f) 23 [pP 0,csc a] [[.imm b,ic c,ic d,ic e,ic f]] qiC (qEw c d e f):=eI qGb
def qEx (d e:Int):R26c->List (List Cell)
 |(a,b,c)=>[[.imm a,ic d,ic e,ic b,ic c]]
noncomputable def qAi (k:Nat)(rec:S26c->Option R26c):S26c->Option R26c
 |.e a b c d e f=>
  bif tg 8 (e==0)then
   (tg 13 (g47c k b c d e f)).bind λg=>
   tup6 g λ_ _ _ _ i j=>
   some (j,a,i)
  else
   some (b,e,f)
noncomputable def g26c (k:Nat)(a:Int)(b:Rs)(c d e f:Int):Option R26c:=itS qAi k (.e a b c d e f)
def P26c:S26c->R26c->Prop
 |.e a b c d e f=>Fe Y26 qlX (qEx c d) [pP 0,cic a] [[.imm b,ic c,ic d,ic e,ic f]]
theorem qGd:∀ k s r,itS qAi k s=some r->P26c s r:=okU trivial
instance {k:Nat} {a:Int} {b:Rs} {c d e f:Int}:EvI (g26c k a b c d e f) 26 [pP 0,cic a] [[.imm b,ic c,ic d,ic e,ic f]] qlX (qEx c d):=eI qGd
def qCb:R141->ARes
 |(r,_,_,_,_,_)=>.ret (cic r)
def qDB:R141->List (List Cell)
 |(_,a,b,c,d,e)=>[[.imm a,ic b,ic c,ic d,ic e]]
noncomputable def qx8 (k:Nat)(rec:S141->Option R141):S141->Option R141
 |.e a b c d e=>
  (tg 5 (g47c k a b c d e)).bind λf=>
  tup6 f λ_ _ _ _ g i=>
  bif tg 11 (c==30)then
   (tg 13 (g26c k 14 i b c d e)).bind λj=>
   tup3 j λl m n=>
   rec (tg 9 (.h0 g l b c m n))
  else
   rec (tg 9 (.h0 g i b c d e))
 |.h0 a b c d e f=>some (a,b,wZ (c+1),wZ (d+1),e,f)
noncomputable def g141 (k:Nat)(a:Rs)(b c d e:Int):Option R141:=itS qx8 k (.e a b c d e)
def P141:S141->R141->Prop
 |.e a b c d e=>Fe Y141 qCb qDB [pP 0] [[.imm a,ic b,ic c,ic d,ic e]]
 |.h0 a b c d e f=>Fk Y141 qCb qDB [1,1,1,2] ([pP 0,.deadv,.deadv,cic a]++rd 25) [(.par 0,[.imm b,ic c,ic d,ic e,ic f])]
theorem qF4:∀ k s r,itS qx8 k s=some r->P141 s r:=okU trivial
instance {k:Nat} {a:Rs} {b c d e:Int}:EvI (g141 k a b c d e) 141 [pP 0] [[.imm a,ic b,ic c,ic d,ic e]] qCb qDB:=eI qF4
def qDp:R161->ARes
 |(r,_,_,_,_)=>.ret (csc r)
def qEt (e:Int):R161->List (List Cell)
 |(_,a,b,c,d)=>[[.imm a,ic b,ic e,ic c,ic d]]
noncomputable def qAd (k:Nat)(rec:S161->Option R161):S161->Option R161
 |.e a b c d e=>
  bif tg 8 (d != 0)then
   some (strB [],a,b,d,e)
  else
   (tg 10 (g47c k a b c d e)).bind λf=>
   tup6 f λg i _ _ _ j=>
   bif tg 13 (g != 2)then
    (tg 15 (g26c k 13 j b c d e)).bind λl=>
    tup3 l λm n o=>
    some (strB [],m,b,n,o)
   else
    some (i,j,wZ (b+1),d,e)
noncomputable def g161 (k:Nat)(a:Rs)(b c d e:Int):Option R161:=itS qAd k (.e a b c d e)
def P161:S161->R161->Prop
 |.e a b c d e=>Fe Y161 qDp (qEt c) [pP 0] [[.imm a,ic b,ic c,ic d,ic e]]
theorem qF6:∀ k s r,itS qAd k s=some r->P161 s r:=okU trivial
instance {k:Nat} {a:Rs} {b c d e:Int}:EvI (g161 k a b c d e) 161 [pP 0] [[.imm a,ic b,ic c,ic d,ic e]] qDp (qEt c):=eI qF6
def qEu (e:Int):R21c->List (List Cell)
 |(a,b,c,d)=>[[.imm a,ic b,ic e,ic c,ic d]]
noncomputable def qAf (k:Nat)(rec:S21c->Option R21c):S21c->Option R21c
 |.e a b c d e f=>
  bif tg 8 (e != 0)then
   some (b,c,e,f)
  else
   (tg 11 (g23c k a b c d e f)).bind λg=>
   tup2 g λi j=>
   bif tg 12 (!i)then
    (tg 14 (g26c k 13 j c d e f)).bind λl=>
    tup3 l λm n o=>
    some (m,c,n,o)
   else
    some (j,wZ (c+1),e,f)
noncomputable def g21c (k:Nat)(a:By)(b:Rs)(c d e f:Int):Option R21c:=itS qAf k (.e a b c d e f)
def P21c:S21c->R21c->Prop
 |.e a b c d e f=>Fe Y21 qtD (qEu d) [pP 0,csc a] [[.imm b,ic c,ic d,ic e,ic f]]
theorem qF8:∀ k s r,itS qAf k s=some r->P21c s r:=okU trivial
instance {k:Nat} {a:By} {b:Rs} {c d e f:Int}:EvI (g21c k a b c d e f) 21 [pP 0,csc a] [[.imm b,ic c,ic d,ic e,ic f]] qtD (qEu d):=eI qF8
def qCc:R142->ARes
 |(a,b,_,_,_,_)=>.ret ⟨.tup [false,false],[[sc a],[sc b]]⟩
def qDC (e:Int):R142->List (List Cell)
 |(_,_,a,b,c,d)=>[[.imm a,ic b,ic e,ic c,ic d]]
noncomputable def qx9 (k:Nat)(rec:S142->Option R142):S142->Option R142
 |.e a b c d e=>
  (tg 6 (g161 k a b c d e)).bind λf=>
  tup5 f λg i j l m=>
  (tg 8 (g21c k (strB [46]) i j c l m)).bind λn=>
  tup4 n λo p q t=>
  bif tg 13 (q==0)then
   (tg 16 (g23c k (strB [84,73,77,69]) o p c q t)).bind λu=>
   tup2 u λv w=>
   rec (tg 9 (.h0 g v w p c q t))
  else
   rec (tg 9 (.h0 g false o p c q t))
 |.h0 a b c d e f g=>
  bif b then
   some (a,strB [84,73,77,69],c,wZ (d+1),f,g)
  else
   (tg 28 (g161 k c d e f g)).bind λi=>
   tup5 i λj l m n o=>
   some (a,j,l,m,n,o)
noncomputable def g142 (k:Nat)(a:Rs)(b c d e:Int):Option R142:=itS qx9 k (.e a b c d e)
def P142:S142->R142->Prop
 |.e a b c d e=>Fe Y142 qCc (qDC c) [pP 0] [[.imm a,ic b,ic c,ic d,ic e]]
 |.h0 a b c d e f g=>Fk Y142 qCc (qDC e) [1,1,1,0,1,2] ([pP 0]++rd 3++[csc a]++rd 12++[cbc b]++rd 11) [(.par 0,[.imm c,ic d,ic e,ic f,ic g])]
theorem qF5:∀ k s r,itS qx9 k s=some r->P142 s r:=okU trivial
instance {k:Nat} {a:Rs} {b c d e:Int}:EvI (g142 k a b c d e) 142 [pP 0] [[.imm a,ic b,ic c,ic d,ic e]] qCc (qDC c):=eI qF5
noncomputable def qAc (k:Nat)(rec:S138->Option R138):S138->Option R138
 |.e=>some [[sc (strB [67,79,85,78,84])],[sc (strB [70,73,82,83,84])],[sc (strB [76,65,83,84])],[sc (strB [83,85,77])],[sc (strB [77,73,78])],[sc (strB [77,65,88])],[sc (strB [77,69,65,78])]]
noncomputable def g138 (k:Nat):Option R138:=itS qAc k (.e)
def P138:S138->R138->Prop
 |.e=>Fe Y138 qsj nB [] []
theorem qF2:∀ k s r,itS qAc k s=some r->P138 s r:=okU trivial
instance {k:Nat}:EvI (g138 k ) 138 [] [] qsj nB:=eI qF2
def qxe:R143b->ARes
 |(_,_,_,_,_,_,_,_)=>.ret .undef
def qyk (h j k l:Int):R143b->List (List Cell)
 |(a,b,c,d,e,f,g,i)=>[[.imm a,ic b,ic h,ic c,ic d],[ic e,.own 7 f,ic j,ic k,sc g,sc i,ic l]]
noncomputable def qv7 (k:Nat)(rec:S143b->Option R143b):S143b->Option R143b
 |.e a b c d e f g i j l m n=>
  (tg 6 (g138 k)).bind λo=>
  rec (tg 5 (.h0 o (o.length:Int) 0 a b c d e f g i j l m n))
 |.h0 a b c d e f g i j l m n o p q=>
  bif tg 9 (decide (c<b))then
   ixR a (tg 11 (tg 3 c)) λt=>
   un_s t λu=>
   bif tg 17 (j==0)then
    (tg 21 (g23c k u d e f g i)).bind λv=>
    tup2 v λw x=>
    rec (tg 12 (.h1 c a b c w x e f g i j l m n o p q))
   else
    rec (tg 12 (.h1 c a b c false d e f g i j l m n o p q))
  else
   bif tg 62 (j==0)then
    (tg 64 (g26c k 13 d e f g i)).bind λy=>
    tup3 y λz h r=>
    some (z,e,h,r,j,l,o,p)
   else
    some (d,e,g,i,j,l,o,p)
 |.h1 a b c d e f g i j l m n o p q t u=>
  bif e then
   (tg 31 (g21c k (strB [40]) f (wZ (g+1)) i j l)).bind λv=>
   tup4 v λw x y z=>
   bif tg 38 (a==0)then
    (tg 41 (g161 k w x i y z)).bind λh=>
    tup5 h λr c1 s A B=>
    rec (tg 12 (.h2 b c d c1 s i A B (wZ ((25:Int)+a)) n o p r t u))
   else
    (tg 48 (g142 k w x i y z)).bind λh=>
    tup6 h λC D c1 s A B=>
    rec (tg 12 (.h2 b c d c1 s i A B (wZ ((25:Int)+a)) n o p C D u))
  else
   rec (tg 3 (.h3 b c d f g i j l m n o p q t u))
 |.h2 a b c d e f g i j l m n o p q=>
  (tg 56 (g21c k (strB [41]) d e f g i)).bind λt=>
  tup4 t λu v w x=>
  rec (tg 2 (.h3 a b c u v f w x j l m n o p q))
 |.h3 a b c d e f g i j l m n o p q=>rec (tg 1 (.h0 a b (wZ (c+1)) d e f g i j l m n o p q))
noncomputable def qDO (k:Nat)(a:Rs)(b c d e f:Int)(g:Rs)(i j:Int)(l m:By)(n:Int):Option R143b:=itS qv7 k (.e a b c d e f g i j l m n)
def P143b:S143b->R143b->Prop
 |.e a b c d e f g i j l m n=>Fe Y143 qxe (qyk c i j n) [pP 0,pP 1] [[.imm a,ic b,ic c,ic d,ic e],[ic f,.own 7 g,ic i,ic j,sc l,sc m,ic n]]
 |.h0 a b c d e f g i j l m n o p q=>Fk Y143 qxe (qyk f m n q) [0,1,0,4] ([pP 0,pP 1]++rd 4++[.c (.own 1 a),cic b,cic c]++rd 56) [(.par 0,[.imm d,ic e,ic f,ic g,ic i]),(.par 1,[ic j,.own 7 l,ic m,ic n,sc o,sc p,ic q])]
 |.h1 a b c d e f g i j l m n o p q t u=>Fk Y143 qxe (qyk i o p u) [0,1,0,0,1,1,0,0,1,1,2] ([pP 0,pP 1,.deadv,.deadv,cic a,.deadv,.c (.own 1 b),cic c,cic d]++rd 13++[cbc e]++rd 42) [(.par 0,[.imm f,ic g,ic i,ic j,ic l]),(.par 1,[ic m,.own 7 n,ic o,ic p,sc q,sc t,ic u])]
 |.h2 a b c d e f g i j l m n o p q=>Fk Y143 qxe (qyk f m n q) [0,1,0,0,1,1,0,0,1,1,0,1,1,1,1,2] ([pP 0,pP 1]++rd 4++[.c (.own 1 a),cic b,cic c]++rd 56) [(.par 0,[.imm d,ic e,ic f,ic g,ic i]),(.par 1,[ic j,.own 7 l,ic m,ic n,sc o,sc p,ic q])]
 |.h3 a b c d e f g i j l m n o p q=>Fk Y143 qxe (qyk f m n q) [0,1,0,0,1,1,1,2] ([pP 0,pP 1]++rd 4++[.c (.own 1 a),cic b,cic c]++rd 56) [(.par 0,[.imm d,ic e,ic f,ic g,ic i]),(.par 1,[ic j,.own 7 l,ic m,ic n,sc o,sc p,ic q])]
theorem qE1:∀ k s r,itS qv7 k s=some r->P143b s r:=okU (And.intro @qwn trivial)
instance {k:Nat} {a:Rs} {b c d e f:Int} {g:Rs} {i j:Int} {l m:By} {n:Int}:EvI (qDO k a b c d e f g i j l m n) 143 [pP 0,pP 1] [[.imm a,ic b,ic c,ic d,ic e],[ic f,.own 7 g,ic i,ic j,sc l,sc m,ic n]] qxe (qyk c i j n):=eI qE1
def qxn:R111->ARes
 |(a,b)=>.ret ⟨.tup [false,false],[[.own 1 a],[ic b]]⟩
noncomputable def qxh (k:Nat)(rec:S111->Option R111):S111->Option R111
 |.e a=>
  bif tg 6 (a==1)then
   rec (tg 11 (.h0 [[sc (strB [79,82])]] 14))
  else
   bif tg 9 (a==2)then
    rec (tg 14 (.h1 [[sc (strB [65,78,68])]] 13))
   else
    bif tg 12 (a==4)then
     rec (tg 17 (.h2 [[sc (strB [61])],[sc (strB [33,61])],[sc (strB [60])],[sc (strB [60,61])],[sc (strB [62])],[sc (strB [62,61])]] 7))
    else
     bif tg 15 (a==5)then
      rec (tg 20 (.h3 [[sc (strB [43])],[sc (strB [45])]] 1))
     else
      bif tg 18 (a==6)then
       rec (tg 23 (.h4 [[sc (strB [42])],[sc (strB [47])],[sc (strB [37])]] 3))
      else
       rec (tg 25 (rg [] [(⟨⟨.slot 2,[]⟩,0,0⟩,some 1)] (.h5 [] 0)))
 |.h0 a b=>some (a,b)
 |.h1 a b=>some (a,b)
 |.h2 a b=>some (a,b)
 |.h3 a b=>some (a,b)
 |.h4 a b=>some (a,b)
 |.h5 a b=>some (a,b)
noncomputable def g111 (k:Nat)(a:Int):Option R111:=itS qxh k (.e a)
def P111:S111->R111->Prop
 |.e a=>Fe Y111 qxn nB [cic a] []
 |.h0 a b=>Fk Y111 qxn nB [1,0,1,0,1,0,1,2] ([.deadv,.deadv,.c (.own 1 a),cic b]++rd 16) []
 |.h1 a b=>Fk Y111 qxn nB [1,0,1,0,1,1,1,0,1,2] ([.deadv,.deadv,.c (.own 1 a),cic b]++rd 16) []
 |.h2 a b=>Fk Y111 qxn nB [1,0,1,0,1,1,1,1,1,0,1,2] ([.deadv,.deadv,.c (.own 1 a),cic b]++rd 16) []
 |.h3 a b=>Fk Y111 qxn nB [1,0,1,0,1,1,1,1,1,1,1,0,1,2] ([.deadv,.deadv,.c (.own 1 a),cic b]++rd 16) []
 |.h4 a b=>Fk Y111 qxn nB [1,0,1,0,1,1,1,1,1,1,1,1,1,0,1,2] ([.deadv,.deadv,.c (.own 1 a),cic b]++rd 16) []
 |.h5 a b=>Fk Y111 qxn nB [1,1,1,2] ([.deadv,.deadv,.c (.own 1 a),cic b]++rd 16) []
theorem qFW:∀ k s r,itS qxh k s=some r->P111 s r:=okU trivial
instance {k:Nat} {a:Int}:EvI (g111 k a) 111 [cic a] [] qxn nB:=eI qFW
end
end Ab
end Go.Proofs.YtnnhdcidgfjfpaaGreatDoor
