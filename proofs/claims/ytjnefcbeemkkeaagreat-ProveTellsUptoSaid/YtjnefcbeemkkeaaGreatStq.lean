/-
  Functions' texts that bear their advice: annotations that are nothing, and one proof that follows the text.
-/
import Derived.Test.YtjnefcbeemkkeaaGreatSqq
import Derived.KernelRfl
set_option linter.all false
namespace Go.Proofs.YtjnefcbeemkkeaaGreat
namespace Ab
abbrev cic (n:Int):AV:=.c (ic n)
abbrev cbc (b:Bool):AV:=.c (bc b)
abbrev cm (r:Rs):AV:=.c (.imm r)
abbrev rd (n:Nat):List AV:=rep n .deadv
abbrev nB {α:Type}(_:α):List (List Cell):=[]
def tg {α:Type}(i:Nat)(x:α):α:=x
def rg {α:Type}(ls:List Nat)(cs:List (Pl×Option Nat))(x:α):α:=x
def ag {α:Type}(j d:Nat)(x:α):α:=x
def ins {α:Type}(m:Nat)(a:AF)(x:α):α:=x
def insA (a:AF):Nat->List AF->List AF
  |0,l=>a::l
  |n+1,x::l=>x::insA a n l
  |_+1,[]=>[a]
theorem nt:(∀ {α:Type} (i:Nat) (x:α),tg i x=x)/\(∀ {α:Type} (l:List Nat) (c:List (Pl×Option Nat)) (x:α),rg l c x=x)/\(∀ {α:Type} (i j:Nat) (x:α),ag i j x=x)/\∀ {α:Type} (i:Nat) (a:AF) (x:α),ins i a x=x:=⟨fun _ _=>rfl,fun _ _ _=>rfl,fun _ _ _=>rfl,fun _ _ _=>rfl⟩
def dM:List AV->List Bool
  |[]=>[]
  |v::l=>(match v.tag,v.rows with|.one,[[.dead]]=>true|_,_=>false)::dM l
def rvA:List AF->Advs->Advs
  |[],a=>a
  |x::l,a=>rvA l (x.a::a)
def rvP:List AF->List Prop->List Prop
  |[],a=>a
  |x::l,a=>rvP l (apP x.ps a)
theorem rvH:∀ (L:List AF) {p:List Prop},AllP p->AllP (rvP L p)
  |[],_,h=>h
  |x::l,_,h=>rvH l (qkB x.h h)
def nth:List AF->Nat->AF
  |[],_=>⟨(none,.ok),[],trivial⟩
  |x::_,0=>x
  |_::l,n+1=>nth l n
def redo (d:Nat)(p:AF):AF:=⟨(some d,p.a.2),p.ps,p.h⟩
theorem qwi {A B:Type}{Q:A×B->Prop}(h:∀ a b,Q (a,b)):∀ r,Q r:=fun r=>h r.1 r.2
theorem qw8 {A B:Type}{Q:A⊕B->Prop}(h1:∀ a,Q (.inl a))(h2:∀ b,Q (.inr b)):∀ r,Q r
  |.inl a=>h1 a
  |.inr b=>h2 b
theorem qw7 {A:Type}{Q:Option A->Prop}(h1:Q none)(h2:∀ b,Q (some b)):∀ r,Q r
  |none=>h1
  |some b=>h2 b
theorem qwj {Q:Unit->Prop}(h:Q ()):∀ r,Q r:=fun _=>h
section
variable [Glob]
abbrev Fe {R:Type}(F:Fc)(res:R->ARes)(y:R->List (List Cell))(a:List AV)(b:List (List Cell))(r:R):Prop:=Fin F.cx F.fn [.code F.code] (fr0 F.fn a b) (res r) (y r)
abbrev Fk {R:Type}(F:Fc)(res:R->ARes)(y:R->List (List Cell))(p:List Nat)(s:List AV)(b:List (Root×List Cell))(r:R):Prop:=Fin F.cx F.fn (kAt F.code p []) ⟨s,b⟩ (res r) (y r)
structure Snd {R:Type} (cx:Cx) (fn:Func) (K:List TItem) (F:Fr) (res:R->ARes) (bx:R->List (List Cell)) (L:List AF) (o:Option R):Prop where
  ok:∀ r,o=some r->Fin cx fn K F (res r) (bx r)
class EvI {α:Type} (o:Option α) (f:outParam Nat) (args:outParam (List AV)) (bx:outParam (List (List Cell))) (res:outParam (α->ARes)) (bx':outParam (α->List (List Cell))):Prop where
  ev:∀ r,o=some r->Ev Tryz.prog noHand f args bx (res r) (bx' r)
class EvS {S R α:Type} (P:S->R->Prop) (sel:Option R->Option α) (s:S) (f:outParam Nat) (args:outParam (List AV)) (b:outParam (List (List Cell))) (re:outParam (α->ARes)) (b':outParam (α->List (List Cell))):Prop where
  ev:∀ o:Option R,(∀ r,o=some r->P s r)->∀ v,sel o=some v->Ev Tryz.prog noHand f args b (re v) (b' v)
variable {R α:Type} {cx:Cx} {fn:Func} {K K':List TItem} {F F':Fr} {res:R->ARes} {bx:R->List (List Cell)} {L:List AF}
def exR:ARes->List Prop
  |.ret _=>[false=false]
  |.panic _=>[]
theorem qC3:∀ re:ARes,AllP (exR re)
  |.ret _=>⟨rfl,trivial⟩
  |.panic _=>trivial
def cP (k i:Nat){f:Nat}{args:List AV}{b b':List (List Cell)}{re:ARes}(h:Ev Tryz.prog noHand f args b re b'):AF:=match k with
  |0=>cU i h
  |1=>cF i h
  |2=>cT i h (rfl:true=true)
  |_=>⟨(some i,.call re b' false),Ev Tryz.prog noHand f args b re b'::exR re,h,qC3 re⟩
def bA {rows:Rs}{n:Int}{row:List Cell}(i:Nat)(h:0<=n/\rows[n.toNat]? = some row):AF:=⟨(some i,.bnd),[0<=n/\n<rows.length],qot h,trivial⟩
def lA {rows:Rs}{n:Int}{row:List Cell}(i:Nat)(h:0<=n/\rows[n.toNat]? = some row):AF:=⟨(some i,.ld row),[rows[n.toNat]? = some row],h.2,trivial⟩
theorem qCG {o:Option R}(h:Snd cx fn K F res bx [] o):∀ r,o=some r->Fin cx fn K F (res r) (bx r):=h.ok
theorem qDI {i:Nat}{c:Bool}{t e:Option R}(h1:∀ h:c=true,Snd cx fn K F res bx (tT i h::L) t)(h2:∀ h:c=false,Snd cx fn K F res bx (tF i h::L) e):Snd cx fn K F res bx L (bif tg i c then t else e):=⟨fun r h=>by
  rcases qa h with⟨hc,h⟩|⟨hc,h⟩
  . exact(h1 hc).ok r h
  . exact(h2 hc).ok r h⟩
theorem qD9 {b:Bool}{t e:Option R}(h:Snd cx fn K F res bx L (match b with|true=>t|false=>e)):Snd cx fn K F res bx L (bif b then t else e):=by cases b<;>exact h
theorem qDH {j:Nat}{c:Bool}{t e:Option R}(h1:c=true->Snd cx fn K F res bx L t)(h2:c=false->Snd cx fn K F res bx L e):Snd cx fn K F res bx L (bif tg 9999 (tg j c)then t else e):=by
  cases h:(tg j c)
  . exact h2 h
  . exact h1 h
theorem qDE {j d:Nat}{t:Option R}(h:Snd cx fn K F res bx (redo d (nth L j)::L) t):Snd cx fn K F res bx L (ag j d t):=⟨h.ok⟩
theorem qDO {m:Nat}{a:AF}{t:Option R}(h:Snd cx fn K F res bx (insA a m L) t):Snd cx fn K F res bx L (ins m a t):=⟨h.ok⟩
theorem qxq {c:Bool}{t:Option R}{L':c=true->List AF}(h:∀ h:c=true,Snd cx fn K F res bx (L' h) t):Snd cx fn K F res bx L (gd c t):=⟨fun r e=>by obtain⟨h1,h2⟩:=zo e;exact(h h1).ok r h2⟩
theorem qDS {i:Nat}{p:Prop}[Decidable p]{t:Option R}(h:∀ h:decide p=true,Snd cx fn K F res bx (xC i h::L) t):Snd cx fn K F res bx L (gd (tg i (decide p)) t):=qxq (c:=decide p) h
theorem qDW {i:Nat}{p:Prop}[Decidable p]{t:Option R}(h:∀ h:decide p=true,Snd cx fn K F res bx (xS i h::L) t):Snd cx fn K F res bx L (gd (tg i (tg 0 (decide p))) t):=qxq (c:=decide p) h
theorem qDV {i:Nat}{p:Prop}[Decidable p]{t:Option R}(h:∀ h:decide p=true,Snd cx fn K F res bx (xQ i h::L) t):Snd cx fn K F res bx L (gd (tg i (tg 1 (decide p))) t):=qxq (c:=decide p) h
theorem qDT {i z:Nat}{l u:Int}{rows:Rs}{t:Option R}(h:∀ h:slOk l u rows z=true,Snd cx fn K F res bx (⟨(some i,.ok),[0<=l/\l<=u/\u<=rows.length/\(rows.head?.all (·.length==z))=true],of_decide_eq_true h,trivial⟩::L) t):Snd cx fn K F res bx L (gd (tg i (tg 2 (slOk l u rows z))) t):=qxq (c:=slOk l u rows z) h
theorem qDU {i:Nat}{p:Bool}{t:Option R}(h:∀ h:p=true,Snd cx fn K F res bx (⟨(some i,.ok),[p=true],h,trivial⟩::L) t):Snd cx fn K F res bx L (gd (tg i (tg 3 p)) t):=qxq (c:=p) h
theorem qDF {i y z:Nat}{rows more:Rs}{t:Option R}(h:∀ h:apOk y z rows more=true,Snd cx fn K F res bx (⟨(some i,.okE false),[apOk y z rows more=true/\(false=true->more.isEmpty=false)],okF more h,trivial⟩::L) t):Snd cx fn K F res bx L (gd (tg i (apOk y z rows more)) t):=qxq (c:=apOk y z rows more) h
theorem qB1 {i j y z:Nat}{rows more:Rs}{t:Option R}(he:more.isEmpty=(j==1))(h:∀ h:apOk y z rows more=true,Snd cx fn K F res bx (⟨(some i,.okE (j==1)),[apOk y z rows more=true/\(true=true->more.isEmpty=(j==1))],okT h he,trivial⟩::L) t):Snd cx fn K F res bx L (gd (tg i (tg j (apOk y z rows more))) t):=qxq (c:=apOk y z rows more) h
theorem qD0 {i:Nat}{s:By}{n:Int}{k:Int->Option R}(h:∀ c,∀ h:0<=n/\Xp s n.toNat=some c,Snd cx fn K F res bx (sA i h::L) (k c)):Snd cx fn K F res bx L (sxI s (tg i n) k):=⟨fun r e=>by obtain⟨c,h1,h2⟩:=Xm e;exact(h c h1).ok r h2⟩
theorem qDG {i:Nat}{n:Int}{xs:List By}{k:By->Option R}(h:∀ s,∀ h:0<=n/\n<(xs.length:Int)/\(xs.map Value.string)[n.toNat]? = some (.string s),Snd cx fn K F res bx (aA i h::L) (k s)):Snd cx fn K F res bx L (aixS xs (tg i n) k):=⟨fun r e=>by obtain⟨c,h1,h2⟩:=qcW e;exact(h c h1).ok r h2⟩
theorem qDK {i:Nat}{o:Option α}{f:Nat}{args:List AV}{b:List (List Cell)}{re:α->ARes}{b':α->List (List Cell)}[hi:EvI o f args b re b']{k:α->Option R}(h:∀ r,∀ h:Ev Tryz.prog noHand f args b (re r) (b' r),Snd cx fn K F res bx (cA i h::L) (k r)):Snd cx fn K F res bx L ((tg i o).bind k):=⟨fun r e=>by obtain⟨v,h1,h2⟩:=qh e;exact(h v (hi.ev v h1)).ok r h2⟩
theorem qDJ {i j:Nat}{o:Option α}{f:Nat}{args:List AV}{b:List (List Cell)}{re:α->ARes}{b':α->List (List Cell)}[hi:EvI o f args b re b']{k:α->Option R}(h:∀ r,∀ h:Ev Tryz.prog noHand f args b (re r) (b' r),Snd cx fn K F res bx (cP j i h::L) (k r)):Snd cx fn K F res bx L ((tg i (tg j o)).bind k):=⟨fun r e=>by obtain⟨v,h1,h2⟩:=qh e;exact(h v (hi.ev v h1)).ok r h2⟩
theorem qDL {o:Option α}{k:α->Option R}(h:∀ r,Snd cx fn K F res bx L (k r)):Snd cx fn K F res bx L ((tg 9999 o).bind k):=⟨fun r e=>by obtain⟨v,h1,h2⟩:=qh e;exact(h v).ok r h2⟩
theorem qB3 {S:Type}{i:Nat}{rec:S->Option R}{P:S->R->Prop}(ih:∀ s r,rec s=some r->P s r){sel:Option R->Option α}{s:S}{f:Nat}{args:List AV}{b:List (List Cell)}{re:α->ARes}{b':α->List (List Cell)}[hi:EvS P sel s f args b re b']{k:α->Option R}(h:∀ r,∀ h:Ev Tryz.prog noHand f args b (re r) (b' r),Snd cx fn K F res bx (cA i h::L) (k r)):Snd cx fn K F res bx L ((tg i (sel (rec s))).bind k):=⟨fun r e=>by obtain⟨v,h1,h2⟩:=qh e;exact(h v (hi.ev _ (ih s) v h1)).ok r h2⟩
theorem qB2 {S:Type}{i j:Nat}{rec:S->Option R}{P:S->R->Prop}(ih:∀ s r,rec s=some r->P s r){sel:Option R->Option α}{s:S}{f:Nat}{args:List AV}{b:List (List Cell)}{re:α->ARes}{b':α->List (List Cell)}[hi:EvS P sel s f args b re b']{k:α->Option R}(h:∀ r,∀ h:Ev Tryz.prog noHand f args b (re r) (b' r),Snd cx fn K F res bx (cP j i h::L) (k r)):Snd cx fn K F res bx L ((tg i (tg j (sel (rec s)))).bind k):=⟨fun r e=>by obtain⟨v,h1,h2⟩:=qh e;exact(h v (hi.ev _ (ih s) v h1)).ok r h2⟩
theorem qDN {S:Type}{i:Nat}{rec:S->Option R}{P:S->R->Prop}(ih:∀ s r,rec s=some r->P s r){s:S}{f:Nat}{args:List AV}{b:List (List Cell)}{re:R->ARes}{b':R->List (List Cell)}[hi:EvS P id s f args b re b']{k:R->Option R}(h:∀ r,∀ h:Ev Tryz.prog noHand f args b (re r) (b' r),Snd cx fn K F res bx (cA i h::L) (k r)):Snd cx fn K F res bx L ((tg i (rec s)).bind k):=qB3 (sel:=id) ih h
theorem qDM {S:Type}{i j:Nat}{rec:S->Option R}{P:S->R->Prop}(ih:∀ s r,rec s=some r->P s r){s:S}{f:Nat}{args:List AV}{b:List (List Cell)}{re:R->ARes}{b':R->List (List Cell)}[hi:EvS P id s f args b re b']{k:R->Option R}(h:∀ r,∀ h:Ev Tryz.prog noHand f args b (re r) (b' r),Snd cx fn K F res bx (cP j i h::L) (k r)):Snd cx fn K F res bx L ((tg i (tg j (rec s))).bind k):=qB2 (sel:=id) ih h
theorem qD1 {A0 A1:Type}{a0:A0}{a1:A1}{k:A0->A1 ->  Option R}(h:Snd cx fn K F res bx L (k a0 a1)):Snd cx fn K F res bx L (tup2 (a0,a1) k):=h
theorem qD2 {A0 A1 A2:Type}{a0:A0}{a1:A1}{a2:A2}{k:A0->A1->A2 ->  Option R}(h:Snd cx fn K F res bx L (k a0 a1 a2)):Snd cx fn K F res bx L (tup3 (a0,a1,a2) k):=h
theorem qD3 {A0 A1 A2 A3:Type}{a0:A0}{a1:A1}{a2:A2}{a3:A3}{k:A0->A1->A2->A3 ->  Option R}(h:Snd cx fn K F res bx L (k a0 a1 a2 a3)):Snd cx fn K F res bx L (tup4 (a0,a1,a2,a3) k):=h
theorem qD4 {A0 A1 A2 A3 A4:Type}{a0:A0}{a1:A1}{a2:A2}{a3:A3}{a4:A4}{k:A0->A1->A2->A3->A4 ->  Option R}(h:Snd cx fn K F res bx L (k a0 a1 a2 a3 a4)):Snd cx fn K F res bx L (tup5 (a0,a1,a2,a3,a4) k):=h
theorem qD5 {A0 A1 A2 A3 A4 A5:Type}{a0:A0}{a1:A1}{a2:A2}{a3:A3}{a4:A4}{a5:A5}{k:A0->A1->A2->A3->A4->A5 ->  Option R}(h:Snd cx fn K F res bx L (k a0 a1 a2 a3 a4 a5)):Snd cx fn K F res bx L (tup6 (a0,a1,a2,a3,a4,a5) k):=h
theorem qD6 {A0 A1 A2 A3 A4 A5 A6:Type}{a0:A0}{a1:A1}{a2:A2}{a3:A3}{a4:A4}{a5:A5}{a6:A6}{k:A0->A1->A2->A3->A4->A5->A6 ->  Option R}(h:Snd cx fn K F res bx L (k a0 a1 a2 a3 a4 a5 a6)):Snd cx fn K F res bx L (tup7 (a0,a1,a2,a3,a4,a5,a6) k):=h
theorem qD7 {A0 A1 A2 A3 A4 A5 A6 A7:Type}{a0:A0}{a1:A1}{a2:A2}{a3:A3}{a4:A4}{a5:A5}{a6:A6}{a7:A7}{k:A0->A1->A2->A3->A4->A5->A6->A7 ->  Option R}(h:Snd cx fn K F res bx L (k a0 a1 a2 a3 a4 a5 a6 a7)):Snd cx fn K F res bx L (tup8 (a0,a1,a2,a3,a4,a5,a6,a7) k):=h
theorem qD8 {A0 A1 A2 A3 A4 A5 A6 A7 A8:Type}{a0:A0}{a1:A1}{a2:A2}{a3:A3}{a4:A4}{a5:A5}{a6:A6}{a7:A7}{a8:A8}{k:A0->A1->A2->A3->A4->A5->A6->A7->A8 ->  Option R}(h:Snd cx fn K F res bx L (k a0 a1 a2 a3 a4 a5 a6 a7 a8)):Snd cx fn K F res bx L (tup9 (a0,a1,a2,a3,a4,a5,a6,a7,a8) k):=h
theorem qCH {A0 A1 A2 A3 A4 A5 A6 A7 A8 A9:Type}{a0:A0}{a1:A1}{a2:A2}{a3:A3}{a4:A4}{a5:A5}{a6:A6}{a7:A7}{a8:A8}{a9:A9}{k:A0->A1->A2->A3->A4->A5->A6->A7->A8->A9 ->  Option R}(h:Snd cx fn K F res bx L (k a0 a1 a2 a3 a4 a5 a6 a7 a8 a9)):Snd cx fn K F res bx L (ql (a0,a1,a2,a3,a4,a5,a6,a7,a8,a9) k):=h
theorem qCI {A0 A1 A2 A3 A4 A5 A6 A7 A8 A9 A10:Type}{a0:A0}{a1:A1}{a2:A2}{a3:A3}{a4:A4}{a5:A5}{a6:A6}{a7:A7}{a8:A8}{a9:A9}{a10:A10}{k:A0->A1->A2->A3->A4->A5->A6->A7->A8->A9->A10 ->  Option R}(h:Snd cx fn K F res bx L (k a0 a1 a2 a3 a4 a5 a6 a7 a8 a9 a10)):Snd cx fn K F res bx L (qoG (a0,a1,a2,a3,a4,a5,a6,a7,a8,a9,a10) k):=h
theorem qCJ {A0 A1 A2 A3 A4 A5 A6 A7 A8 A9 A10 A11:Type}{a0:A0}{a1:A1}{a2:A2}{a3:A3}{a4:A4}{a5:A5}{a6:A6}{a7:A7}{a8:A8}{a9:A9}{a10:A10}{a11:A11}{k:A0->A1->A2->A3->A4->A5->A6->A7->A8->A9->A10->A11 ->  Option R}(h:Snd cx fn K F res bx L (k a0 a1 a2 a3 a4 a5 a6 a7 a8 a9 a10 a11)):Snd cx fn K F res bx L (zu (a0,a1,a2,a3,a4,a5,a6,a7,a8,a9,a10,a11) k):=h
theorem qDC {A B:Type}{a:A}{f:A->Option R}{g:B->Option R}(h:Snd cx fn K F res bx L (f a)):Snd cx fn K F res bx L (altC (.inl a) f g):=h
theorem qDD {A B:Type}{a:B}{f:A->Option R}{g:B->Option R}(h:Snd cx fn K F res bx L (g a)):Snd cx fn K F res bx L (altC (.inr a) f g):=h
theorem qDQ {A:Type}{f:Option R}{g:A->Option R}(h:Snd cx fn K F res bx L f):Snd cx fn K F res bx L (optC none f g):=h
theorem qDR {A:Type}{a:A}{f:Option R}{g:A->Option R}(h:Snd cx fn K F res bx L (g a)):Snd cx fn K F res bx L (optC (some a) f g):=h
theorem qDP:Snd cx fn K F res bx L (none:Option R):=⟨fun r h=>by cases h⟩
theorem qDZ {r:R}(hm:cx.P.follows .mixedOrders=true)(e:mgo cx fn (bx r).length 2000 K F (rvA L [])=some (.fin (res r) (bx r),rvP L [])):Snd cx fn K F res bx L (some r):=⟨fun r' h=>by cases h;exact zO hm e (rvH L trivial)⟩
theorem qDY {S:Type}{rec:S->Option R}{P:S->R->Prop}{n:Nat}{s:S}(ih:∀ s r,rec s=some r->P s r)(hP:∀ r,P s r->Fin cx fn K' F' (res r) (bx r))(hm:cx.P.follows .mixedOrders=true)(e:mcut cx fn 0 n K F (rvA L []) (dM F'.slots) [] []=some (.at K' F',rvP L [])):Snd cx fn K F res bx L (rec (tg n s)):=⟨fun r h=>qhs hm (hP r (ih s r h)) e (rvH L trivial)⟩
theorem qDX {S:Type}{rec:S->Option R}{P:S->R->Prop}{n:Nat}{ls:List Nat}{cs:List (Pl×Option Nat)}{s:S}(ih:∀ s r,rec s=some r->P s r)(hP:∀ r,P s r->Fin cx fn K' F' (res r) (bx r))(hm:cx.P.follows .mixedOrders=true)(e:mcut cx fn 0 n K F (rvA L []) (dM F'.slots) ls cs=some (.at K' F',rvP L [])):Snd cx fn K F res bx L (rec (tg n (rg ls cs s))):=⟨fun r h=>qhs hm (hP r (ih s r h)) e (rvH L trivial)⟩
end
section
variable [Glob] {S R:Type} {step:Nat->(S->Option R)->S->Option R} {P:S->R->Prop}
theorem okU {U:Prop}(hu:U)(h:U->∀ k rec,(∀ s r,rec s=some r->P s r)->∀ s r,step k rec s=some r->P s r:=by
  intro hu k rec ih s;cases s
  all_goals refine qCG ?_
  all_goals (conv=>arg 8;whnf)
  all_goals repeat' first|(with_reducible refine qDI (fun _=>?_) (fun _=>?_))|with_reducible apply qDP|(with_reducible refine qDS (fun _=>?_))|(with_reducible refine qDW (fun _=>?_))|(with_reducible refine qDV (fun _=>?_))|(with_reducible refine qDT (fun _=>?_))|(with_reducible refine qDF (fun _=>?_))|(with_reducible refine qB1 rfl (fun _=>?_))|(with_reducible refine qB1 (by assumption) (fun _=>?_))|(with_reducible refine qDU (fun _=>?_))|(with_reducible refine qD0 (fun _ _=>?_))|(with_reducible refine qDG (fun _ _=>?_))|with_reducible apply qDE|with_reducible apply qDO|(with_reducible refine qDL ?_;(repeat' first|with_reducible refine qwi ?_|with_reducible refine qw8 ?_ ?_|with_reducible refine qw7 ?_ ?_|with_reducible refine qwj ?_|intro _))|(with_reducible refine qB2 ih ?_;(repeat' first|with_reducible refine qwi ?_|with_reducible refine qw8 ?_ ?_|with_reducible refine qw7 ?_ ?_|with_reducible refine qwj ?_|intro _))|(with_reducible refine qDM ih ?_;(repeat' first|with_reducible refine qwi ?_|with_reducible refine qw8 ?_ ?_|with_reducible refine qw7 ?_ ?_|with_reducible refine qwj ?_|intro _))|(with_reducible refine qB3 ih ?_;(repeat' first|with_reducible refine qwi ?_|with_reducible refine qw8 ?_ ?_|with_reducible refine qw7 ?_ ?_|with_reducible refine qwj ?_|intro _))|(with_reducible refine qDN ih ?_;(repeat' first|with_reducible refine qwi ?_|with_reducible refine qw8 ?_ ?_|with_reducible refine qw7 ?_ ?_|with_reducible refine qwj ?_|intro _))|(with_reducible refine qDJ ?_;(repeat' first|with_reducible refine qwi ?_|with_reducible refine qw8 ?_ ?_|with_reducible refine qw7 ?_ ?_|with_reducible refine qwj ?_|intro _))|(with_reducible refine qDK ?_;(repeat' first|with_reducible refine qwi ?_|with_reducible refine qw8 ?_ ?_|with_reducible refine qw7 ?_ ?_|with_reducible refine qwj ?_|intro _))|with_reducible refine qD1 ?_|with_reducible refine qD2 ?_|with_reducible refine qD3 ?_|with_reducible refine qD4 ?_|with_reducible refine qD5 ?_|with_reducible refine qD6 ?_|with_reducible refine qD7 ?_|with_reducible refine qD8 ?_|with_reducible refine qCH ?_|with_reducible refine qCI ?_|with_reducible refine qCJ ?_|with_reducible refine qDC ?_|with_reducible refine qDD ?_|with_reducible refine qDQ ?_|with_reducible refine qDR ?_|(refine qDZ hmix ?_;kernel_rfl)|(refine qDX ih (fun r h=>h) hmix ?_;kernel_rfl)|(refine qDY ih (fun r h=>h) hmix ?_;kernel_rfl)|(with_reducible refine qDH (fun _=>?_) (fun _=>?_))|(with_reducible refine qD9 ?_;split)|((with_reducible first|refine hu ?_|refine hu.1 ?_|refine hu.2.1 ?_|refine hu.2.2.1 ?_|refine hu.2.2.2.1 ?_|refine hu.2.2.2.2.1 ?_);(repeat' intro _))):∀ k s r,itS step k s=some r->P s r:=qF (h hu)
theorem eI (ok:∀ k s r,itS step k s=some r->P s r){k:Nat}{s:S}{f:Nat}{args:List AV}{b:List (List Cell)}{re:R->ARes}{b2:R->List (List Cell)}(h:∀ r,P s r->Ev Tryz.prog noHand f args b (re r) (b2 r):=by exact fun r h=>evF h):EvI (itS step k s) f args b re b2:=⟨fun r e=>h r (ok k s r e)⟩
end
section
variable [Glob]
theorem evI {α:Type}{o:Option α}{f:Nat}{args:List AV}{b:List (List Cell)}{re:α->ARes}{b':α->List (List Cell)}[hi:EvI o f args b re b']{r:α}(h:o=some r):Ev Tryz.prog noHand f args b (re r) (b' r):=hi.ev r h
end
end Ab
end Go.Proofs.YtjnefcbeemkkeaaGreat
