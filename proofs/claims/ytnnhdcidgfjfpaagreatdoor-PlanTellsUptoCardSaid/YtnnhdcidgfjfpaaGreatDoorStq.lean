/-
  Functions' texts that bear their advice: annotations that are nothing, and one proof that follows the text.
-/
import Derived.Test.YtnnhdcidgfjfpaaGreatDoorSqq
import Derived.KernelRfl
set_option linter.all false
namespace Go.Proofs.YtnnhdcidgfjfpaaGreatDoor
namespace Ab
abbrev cic (n:Int):AV:=.c (ic n)
abbrev csc (s:By):AV:=.c (sc s)
abbrev cbc (b:Bool):AV:=.c (bc b)
abbrev cu (n:Int):AV:=.c (.val (.int .u8 n))
abbrev cm (r:Rs):AV:=.c (.imm r)
abbrev rd (n:Nat):List AV:=rep n .deadv
abbrev nB {α:Type}(_:α):List (List Cell):=[]
def tg {α:Type}(i:Nat)(x:α):α:=x
def rg {α:Type}(ls:List Nat)(cs:List (Pl×Option Nat))(x:α):α:=x
def ag {α:Type}(j d:Nat)(x:α):α:=x
def ins {α:Type}(m:Nat)(a:AF)(x:α):α:=x
def insA (a:AF):Nat->List AF->List AF
  |0,l=>a::l
  |n+1,x::l=>x::insA a n l
  |_+1,[]=>[a]
abbrev wZ (n:Int):Int:=IntKind.i64.wrap n
abbrev Nz:List Cell:=[ic 0,ic 0,.nil,ic 0,.val (.int .u64 0),ic 0,ic 0]
theorem nt:(∀ {α:Type} (i:Nat) (x:α),tg i x=x)/\(∀ {α:Type} (l:List Nat) (c:List (Pl×Option Nat)) (x:α),rg l c x=x)/\(∀ {α:Type} (i j:Nat) (x:α),ag i j x=x)/\(∀ {α:Type} (i:Nat) (a:AF) (x:α),ins i a x=x)/\(∀ n,wZ n=IntKind.i64.wrap n)/\Nz=[ic 0,ic 0,.nil,ic 0,.val (.int .u64 0),ic 0,ic 0]:=⟨λ_ _=>rfl,λ_ _ _=>rfl,λ_ _ _=>rfl,λ_ _ _=>rfl,λ_=>rfl,rfl⟩
def dM:List AV->List Bool
  |[]=>[]
  |v::l=>(match v.tag,v.rows with|.one,[[.dead]]=>true|_,_=>false)::dM l
def rvA:List AF->Advs->Advs
  |[],a=>a
  |x::l,a=>rvA l (x.a::a)
def rvP:List AF->List Prop->List Prop
  |[],a=>a
  |x::l,a=>rvP l (apP x.ps a)
theorem rvH:∀ (L:List AF) {p:List Prop},AllP p->AllP (rvP L p)
  |[],_,h=>h
  |x::l,_,h=>rvH l (qkB x.h h)
def nth:List AF->Nat->AF
  |[],_=>⟨(none,.ok),[],trivial⟩
  |x::_,0=>x
  |_::l,n+1=>nth l n
def redo (d:Nat)(p:AF):AF:=⟨(some d,p.a.2),p.ps,p.h⟩
theorem qwD {A B:Type}{Q:A×B->Prop}(h:∀ a b,Q (a,b)):∀ r,Q r:=λr=>h r.1 r.2
theorem qxM {A B:Type}{Q:A⊕B->Prop}(c:∀ a,Q (.inl a))(d:∀ b,Q (.inr b)):∀ r,Q r
  |.inl a=>c a
  |.inr b=>d b
theorem qxL {A:Type}{Q:Option A->Prop}(a:Q none)(c:∀ b,Q (some b)):∀ r,Q r
  |none=>a
  |some b=>c b
theorem qwE {Q:Unit->Prop}(h:Q ()):∀ r,Q r:=λ_=>h
section
variable [Glob]
abbrev Fe {R:Type}(F:Fc)(res:R->ARes)(y:R->List (List Cell))(a:List AV)(b:List (List Cell))(r:R):Prop:=Fin F.cx F.fn [.code F.code] (fr0 F.fn a b) (res r) (y r)
abbrev Fk {R:Type}(F:Fc)(res:R->ARes)(y:R->List (List Cell))(p:List Nat)(s:List AV)(b:List (Root×List Cell))(r:R):Prop:=Fin F.cx F.fn (kAt F.code p []) ⟨s,b⟩ (res r) (y r)
structure Snd {R:Type} (cx:Cx) (fn:Func) (K:List TItem) (F:Fr) (res:R->ARes) (bx:R->List (List Cell)) (L:List AF) (o:Option R):Prop where
  ok:∀ r,o=some r->Fin cx fn K F (res r) (bx r)
class EvI {α:Type} (o:Option α) (f:outParam Nat) (args:outParam (List AV)) (bx:outParam (List (List Cell))) (res:outParam (α->ARes)) (bx':outParam (α->List (List Cell))):Prop where
  ev:∀ r,o=some r->Ev Tryz.prog noHand f args bx (res r) (bx' r)
class EvS {S R α:Type} (P:S->R->Prop) (sel:Option R->Option α) (s:S) (f:outParam Nat) (args:outParam (List AV)) (b:outParam (List (List Cell))) (re:outParam (α->ARes)) (b':outParam (α->List (List Cell))):Prop where
  ev:∀ o:Option R,(∀ r,o=some r->P s r)->∀ v,sel o=some v->Ev Tryz.prog noHand f args b (re v) (b' v)
variable {R α:Type} {cx:Cx} {fn:Func} {K K':List TItem} {F F':Fr} {res:R->ARes} {bx:R->List (List Cell)} {L:List AF}
def exR:ARes->List Prop
  |.ret _=>[false=false]
  |.panic _=>[]
theorem qEN:∀ re:ARes,AllP (exR re)
  |.ret _=>⟨rfl,trivial⟩
  |.panic _=>trivial
def cP (k i:Nat){f:Nat}{args:List AV}{b a:List (List Cell)}{re:ARes}(h:Ev Tryz.prog noHand f args b re a):AF:=match k with
  |0=>cU i h
  |1=>cF i h
  |2=>cT i h (rfl:true=true)
  |_=>⟨(some i,.call re a false),Ev Tryz.prog noHand f args b re a::exR re,h,qEN re⟩
def bA {rows:Rs}{n:Int}{row:List Cell}(i:Nat)(h:0<=n/\rows[n.toNat]? = some row):AF:=⟨(some i,.bnd),[0<=n/\n<rows.length],qot h,trivial⟩
def lA {rows:Rs}{n:Int}{row:List Cell}(i:Nat)(h:0<=n/\rows[n.toNat]? = some row):AF:=⟨(some i,.ld row),[rows[n.toNat]? = some row],h.2,trivial⟩
theorem qEd {o:Option R}(h:Snd cx fn K F res bx [] o):∀ r,o=some r->Fin cx fn K F (res r) (bx r):=h.ok
theorem qFc {i:Nat}{c:Bool}{t e:Option R}(b:∀ h:c=true,Snd cx fn K F res bx (tT i h::L) t)(d:∀ h:c=false,Snd cx fn K F res bx (tF i h::L) e):Snd cx fn K F res bx L (bif tg i c then t else e):=⟨λr h=>by
  rcases qa h with⟨a,h⟩|⟨a,h⟩
  . exact(b a).ok r h
  . exact(d a).ok r h⟩
theorem qFD {b:Bool}{t e:Option R}(h:Snd cx fn K F res bx L (match b with|true=>t|false=>e)):Snd cx fn K F res bx L (bif b then t else e):=by cases b<;>exact h
theorem qFb {j:Nat}{c:Bool}{t e:Option R}(a:c=true->Snd cx fn K F res bx L t)(b:c=false->Snd cx fn K F res bx L e):Snd cx fn K F res bx L (bif tg 9999 (tg j c)then t else e):=by
  cases h:(tg j c)
  . exact b h
  . exact a h
theorem qE8 {j d:Nat}{t:Option R}(h:Snd cx fn K F res bx (redo d (nth L j)::L) t):Snd cx fn K F res bx L (ag j d t):=⟨h.ok⟩
theorem qFi {m:Nat}{a:AF}{t:Option R}(h:Snd cx fn K F res bx (insA a m L) t):Snd cx fn K F res bx L (ins m a t):=⟨h.ok⟩
theorem qx5 {c:Bool}{t:Option R}{a:c=true->List AF}(h:∀ h:c=true,Snd cx fn K F res bx (a h) t):Snd cx fn K F res bx L (gd c t):=⟨λr e=>by obtain⟨b,d⟩:=zo e;exact(h b).ok r d⟩
theorem qFm {i:Nat}{p:Prop}[Decidable p]{t:Option R}(h:∀ h:decide p=true,Snd cx fn K F res bx (xC i h::L) t):Snd cx fn K F res bx L (gd (tg i (decide p)) t):=qx5 (c:=decide p) h
theorem qFq {i:Nat}{p:Prop}[Decidable p]{t:Option R}(h:∀ h:decide p=true,Snd cx fn K F res bx (xS i h::L) t):Snd cx fn K F res bx L (gd (tg i (tg 0 (decide p))) t):=qx5 (c:=decide p) h
theorem qFp {i:Nat}{p:Prop}[Decidable p]{t:Option R}(h:∀ h:decide p=true,Snd cx fn K F res bx (xQ i h::L) t):Snd cx fn K F res bx L (gd (tg i (tg 1 (decide p))) t):=qx5 (c:=decide p) h
theorem qFn {i z:Nat}{l u:Int}{rows:Rs}{t:Option R}(h:∀ h:slOk l u rows z=true,Snd cx fn K F res bx (⟨(some i,.ok),[0<=l/\l<=u/\u<=rows.length/\(rows.head?.all (·.length==z))=true],of_decide_eq_true h,trivial⟩::L) t):Snd cx fn K F res bx L (gd (tg i (tg 2 (slOk l u rows z))) t):=qx5 (c:=slOk l u rows z) h
theorem qFo {i:Nat}{p:Bool}{t:Option R}(h:∀ h:p=true,Snd cx fn K F res bx (⟨(some i,.ok),[p=true],h,trivial⟩::L) t):Snd cx fn K F res bx L (gd (tg i (tg 3 p)) t):=qx5 (c:=p) h
theorem qE9 {i y z:Nat}{rows more:Rs}{t:Option R}(h:∀ h:apOk y z rows more=true,Snd cx fn K F res bx (⟨(some i,.okE false),[apOk y z rows more=true/\(false=true->more.isEmpty=false)],okF more h,trivial⟩::L) t):Snd cx fn K F res bx L (gd (tg i (apOk y z rows more)) t):=qx5 (c:=apOk y z rows more) h
theorem qDu {i j y z:Nat}{rows more:Rs}{t:Option R}(a:more.isEmpty=(j==1))(h:∀ h:apOk y z rows more=true,Snd cx fn K F res bx (⟨(some i,.okE (j==1)),[apOk y z rows more=true/\(true=true->more.isEmpty=(j==1))],okT h a,trivial⟩::L) t):Snd cx fn K F res bx L (gd (tg i (tg j (apOk y z rows more))) t):=qx5 (c:=apOk y z rows more) h
theorem qFu {i:Nat}{s:By}{n:Int}{k:Int->Option R}(h:∀ c,∀ h:0<=n/\Xp s n.toNat=some c,Snd cx fn K F res bx (sA i h::L) (k c)):Snd cx fn K F res bx L (sxI s (tg i n) k):=⟨λr e=>by obtain⟨c,a,b⟩:=Xm e;exact(h c a).ok r b⟩
theorem qFa {i:Nat}{n:Int}{xs:List By}{k:By->Option R}(h:∀ s,∀ h:0<=n/\n<(xs.length:Int)/\(xs.map Value.string)[n.toNat]? = some (.string s),Snd cx fn K F res bx (aA i h::L) (k s)):Snd cx fn K F res bx L (aixS xs (tg i n) k):=⟨λr e=>by obtain⟨c,a,b⟩:=qcW e;exact(h c a).ok r b⟩
theorem qFe {i:Nat}{o:Option α}{f:Nat}{args:List AV}{b:List (List Cell)}{re:α->ARes}{a:α->List (List Cell)}[c:EvI o f args b re a]{k:α->Option R}(h:∀ r,∀ h:Ev Tryz.prog noHand f args b (re r) (a r),Snd cx fn K F res bx (cA i h::L) (k r)):Snd cx fn K F res bx L ((tg i o).bind k):=⟨λr e=>by obtain⟨v,d,g⟩:=qh e;exact(h v (c.ev v d)).ok r g⟩
theorem qFd {i j:Nat}{o:Option α}{f:Nat}{args:List AV}{b:List (List Cell)}{re:α->ARes}{a:α->List (List Cell)}[c:EvI o f args b re a]{k:α->Option R}(h:∀ r,∀ h:Ev Tryz.prog noHand f args b (re r) (a r),Snd cx fn K F res bx (cP j i h::L) (k r)):Snd cx fn K F res bx L ((tg i (tg j o)).bind k):=⟨λr e=>by obtain⟨v,d,g⟩:=qh e;exact(h v (c.ev v d)).ok r g⟩
theorem qFf {o:Option α}{k:α->Option R}(h:∀ r,Snd cx fn K F res bx L (k r)):Snd cx fn K F res bx L ((tg 9999 o).bind k):=⟨λr e=>by obtain⟨v,b,a⟩:=qh e;exact(h v).ok r a⟩
theorem qDw {S:Type}{i:Nat}{rec:S->Option R}{P:S->R->Prop}(c:∀ s r,rec s=some r->P s r){sel:Option R->Option α}{s:S}{f:Nat}{args:List AV}{b:List (List Cell)}{re:α->ARes}{a:α->List (List Cell)}[d:EvS P sel s f args b re a]{k:α->Option R}(h:∀ r,∀ h:Ev Tryz.prog noHand f args b (re r) (a r),Snd cx fn K F res bx (cA i h::L) (k r)):Snd cx fn K F res bx L ((tg i (sel (rec s))).bind k):=⟨λr e=>by obtain⟨v,g,j⟩:=qh e;exact(h v (d.ev _ (c s) v g)).ok r j⟩
theorem qDv {S:Type}{i j:Nat}{rec:S->Option R}{P:S->R->Prop}(c:∀ s r,rec s=some r->P s r){sel:Option R->Option α}{s:S}{f:Nat}{args:List AV}{b:List (List Cell)}{re:α->ARes}{a:α->List (List Cell)}[d:EvS P sel s f args b re a]{k:α->Option R}(h:∀ r,∀ h:Ev Tryz.prog noHand f args b (re r) (a r),Snd cx fn K F res bx (cP j i h::L) (k r)):Snd cx fn K F res bx L ((tg i (tg j (sel (rec s)))).bind k):=⟨λr e=>by obtain⟨v,g,l⟩:=qh e;exact(h v (d.ev _ (c s) v g)).ok r l⟩
theorem qFh {S:Type}{i:Nat}{rec:S->Option R}{P:S->R->Prop}(c:∀ s r,rec s=some r->P s r){s:S}{f:Nat}{args:List AV}{b:List (List Cell)}{re:R->ARes}{a:R->List (List Cell)}[d:EvS P id s f args b re a]{k:R->Option R}(h:∀ r,∀ h:Ev Tryz.prog noHand f args b (re r) (a r),Snd cx fn K F res bx (cA i h::L) (k r)):Snd cx fn K F res bx L ((tg i (rec s)).bind k):=qDw (sel:=id) c h
theorem qFg {S:Type}{i j:Nat}{rec:S->Option R}{P:S->R->Prop}(c:∀ s r,rec s=some r->P s r){s:S}{f:Nat}{args:List AV}{b:List (List Cell)}{re:R->ARes}{a:R->List (List Cell)}[d:EvS P id s f args b re a]{k:R->Option R}(h:∀ r,∀ h:Ev Tryz.prog noHand f args b (re r) (a r),Snd cx fn K F res bx (cP j i h::L) (k r)):Snd cx fn K F res bx L ((tg i (tg j (rec s))).bind k):=qDv (sel:=id) c h
theorem qFv {a b:Type}{c:a}{d:b}{k:a->b ->  Option R}(h:Snd cx fn K F res bx L (k c d)):Snd cx fn K F res bx L (tup2 (c,d) k):=h
theorem qFw {a b c:Type}{d:a}{e:b}{f:c}{k:a->b->c ->  Option R}(h:Snd cx fn K F res bx L (k d e f)):Snd cx fn K F res bx L (tup3 (d,e,f) k):=h
theorem qFx {a b c d:Type}{e:a}{f:b}{g:c}{i:d}{k:a->b->c->d ->  Option R}(h:Snd cx fn K F res bx L (k e f g i)):Snd cx fn K F res bx L (tup4 (e,f,g,i) k):=h
theorem qFy {a b c d e:Type}{f:a}{g:b}{i:c}{j:d}{l:e}{k:a->b->c->d->e ->  Option R}(h:Snd cx fn K F res bx L (k f g i j l)):Snd cx fn K F res bx L (tup5 (f,g,i,j,l) k):=h
theorem qFz {a b c d e f:Type}{g:a}{i:b}{j:c}{l:d}{m:e}{n:f}{k:a->b->c->d->e->f ->  Option R}(h:Snd cx fn K F res bx L (k g i j l m n)):Snd cx fn K F res bx L (tup6 (g,i,j,l,m,n) k):=h
theorem qFA {a b c d e f g:Type}{i:a}{j:b}{l:c}{m:d}{n:e}{o:f}{p:g}{k:a->b->c->d->e->f->g ->  Option R}(h:Snd cx fn K F res bx L (k i j l m n o p)):Snd cx fn K F res bx L (tup7 (i,j,l,m,n,o,p) k):=h
theorem qFB {a b c d e f g i:Type}{j:a}{l:b}{m:c}{n:d}{o:e}{p:f}{q:g}{r:i}{k:a->b->c->d->e->f->g->i ->  Option R}(h:Snd cx fn K F res bx L (k j l m n o p q r)):Snd cx fn K F res bx L (tup8 (j,l,m,n,o,p,q,r) k):=h
theorem qFC {a b c d e f g i j:Type}{l:a}{m:b}{n:c}{o:d}{p:e}{q:f}{r:g}{s:i}{t:j}{k:a->b->c->d->e->f->g->i->j ->  Option R}(h:Snd cx fn K F res bx L (k l m n o p q r s t)):Snd cx fn K F res bx L (tup9 (l,m,n,o,p,q,r,s,t) k):=h
theorem qEe {a b c d e f g i j l:Type}{m:a}{n:b}{o:c}{p:d}{q:e}{r:f}{s:g}{t:i}{u:j}{v:l}{k:a->b->c->d->e->f->g->i->j->l ->  Option R}(h:Snd cx fn K F res bx L (k m n o p q r s t u v)):Snd cx fn K F res bx L (ql (m,n,o,p,q,r,s,t,u,v) k):=h
theorem qEf {c d e f g i j l m n a:Type}{o:c}{p:d}{q:e}{r:f}{s:g}{t:i}{u:j}{v:l}{w:m}{x:n}{b:a}{k:c->d->e->f->g->i->j->l->m->n->a ->  Option R}(h:Snd cx fn K F res bx L (k o p q r s t u v w x b)):Snd cx fn K F res bx L (qoG (o,p,q,r,s,t,u,v,w,x,b) k):=h
theorem qEg {e f g i j l m n o p a b:Type}{q:e}{r:f}{s:g}{t:i}{u:j}{v:l}{w:m}{x:n}{y:o}{z:p}{c:a}{d:b}{k:e->f->g->i->j->l->m->n->o->p->a->b ->  Option R}(h:Snd cx fn K F res bx L (k q r s t u v w x y z c d)):Snd cx fn K F res bx L (zu (q,r,s,t,u,v,w,x,y,z,c,d) k):=h
theorem qE6 {A B:Type}{a:A}{f:A->Option R}{g:B->Option R}(h:Snd cx fn K F res bx L (f a)):Snd cx fn K F res bx L (altC (.inl a) f g):=h
theorem qE7 {A B:Type}{a:B}{f:A->Option R}{g:B->Option R}(h:Snd cx fn K F res bx L (g a)):Snd cx fn K F res bx L (altC (.inr a) f g):=h
theorem qFk {A:Type}{f:Option R}{g:A->Option R}(h:Snd cx fn K F res bx L f):Snd cx fn K F res bx L (optC none f g):=h
theorem qFl {A:Type}{a:A}{f:Option R}{g:A->Option R}(h:Snd cx fn K F res bx L (g a)):Snd cx fn K F res bx L (optC (some a) f g):=h
theorem qFj:Snd cx fn K F res bx L (none:Option R):=⟨λr h=>by cases h⟩
theorem qFt {r:R}(a:cx.P.follows .mixedOrders=true)(e:mgo cx fn (bx r).length 2000 K F (rvA L [])=some (.fin (res r) (bx r),rvP L [])):Snd cx fn K F res bx L (some r):=⟨λr' h=>by cases h;exact zO a e (rvH L trivial)⟩
theorem qFs {S:Type}{rec:S->Option R}{P:S->R->Prop}{n:Nat}{s:S}(a:∀ s r,rec s=some r->P s r)(b:∀ r,P s r->Fin cx fn K' F' (res r) (bx r))(c:cx.P.follows .mixedOrders=true)(e:mcut cx fn 0 n K F (rvA L []) (dM F'.slots) [] []=some (.at K' F',rvP L [])):Snd cx fn K F res bx L (rec (tg n s)):=⟨λr h=>qhs c (b r (a s r h)) e (rvH L trivial)⟩
theorem qFr {S:Type}{rec:S->Option R}{P:S->R->Prop}{n:Nat}{ls:List Nat}{cs:List (Pl×Option Nat)}{s:S}(a:∀ s r,rec s=some r->P s r)(b:∀ r,P s r->Fin cx fn K' F' (res r) (bx r))(c:cx.P.follows .mixedOrders=true)(e:mcut cx fn 0 n K F (rvA L []) (dM F'.slots) ls cs=some (.at K' F',rvP L [])):Snd cx fn K F res bx L (rec (tg n (rg ls cs s))):=⟨λr h=>qhs c (b r (a s r h)) e (rvH L trivial)⟩
end
section
variable [Glob] {S R:Type} {step:Nat->(S->Option R)->S->Option R} {P:S->R->Prop}
theorem okU {U:Prop}(a:U)(h:U->∀ k rec,(∀ s r,rec s=some r->P s r)->∀ s r,step k rec s=some r->P s r:=by
  intro a k rec b s;cases s
  all_goals refine qEd ?_
  all_goals (conv=>arg 8;whnf)
  all_goals repeat' first|(with_reducible refine qFc (λ_=>?_) (λ_=>?_))|with_reducible apply qFj|(with_reducible refine qFm (λ_=>?_))|(with_reducible refine qFq (λ_=>?_))|(with_reducible refine qFp (λ_=>?_))|(with_reducible refine qFn (λ_=>?_))|(with_reducible refine qE9 (λ_=>?_))|(with_reducible refine qDu rfl (λ_=>?_))|(with_reducible refine qDu (by assumption) (λ_=>?_))|(with_reducible refine qFo (λ_=>?_))|(with_reducible refine qFu (λ_ _=>?_))|(with_reducible refine qFa (λ_ _=>?_))|with_reducible apply qE8|with_reducible apply qFi|(with_reducible refine qFf ?_;(repeat' first|with_reducible refine qwD ?_|with_reducible refine qxM ?_ ?_|with_reducible refine qxL ?_ ?_|with_reducible refine qwE ?_|intro _))|(with_reducible refine qDv b ?_;(repeat' first|with_reducible refine qwD ?_|with_reducible refine qxM ?_ ?_|with_reducible refine qxL ?_ ?_|with_reducible refine qwE ?_|intro _))|(with_reducible refine qFg b ?_;(repeat' first|with_reducible refine qwD ?_|with_reducible refine qxM ?_ ?_|with_reducible refine qxL ?_ ?_|with_reducible refine qwE ?_|intro _))|(with_reducible refine qDw b ?_;(repeat' first|with_reducible refine qwD ?_|with_reducible refine qxM ?_ ?_|with_reducible refine qxL ?_ ?_|with_reducible refine qwE ?_|intro _))|(with_reducible refine qFh b ?_;(repeat' first|with_reducible refine qwD ?_|with_reducible refine qxM ?_ ?_|with_reducible refine qxL ?_ ?_|with_reducible refine qwE ?_|intro _))|(with_reducible refine qFd ?_;(repeat' first|with_reducible refine qwD ?_|with_reducible refine qxM ?_ ?_|with_reducible refine qxL ?_ ?_|with_reducible refine qwE ?_|intro _))|(with_reducible refine qFe ?_;(repeat' first|with_reducible refine qwD ?_|with_reducible refine qxM ?_ ?_|with_reducible refine qxL ?_ ?_|with_reducible refine qwE ?_|intro _))|with_reducible refine qFv ?_|with_reducible refine qFw ?_|with_reducible refine qFx ?_|with_reducible refine qFy ?_|with_reducible refine qFz ?_|with_reducible refine qFA ?_|with_reducible refine qFB ?_|with_reducible refine qFC ?_|with_reducible refine qEe ?_|with_reducible refine qEf ?_|with_reducible refine qEg ?_|with_reducible refine qE6 ?_|with_reducible refine qE7 ?_|with_reducible refine qFk ?_|with_reducible refine qFl ?_|(refine qFt hmix ?_;kernel_rfl)|(refine qFr b (λr h=>h) hmix ?_;kernel_rfl)|(refine qFs b (λr h=>h) hmix ?_;kernel_rfl)|(with_reducible refine qFb (λ_=>?_) (λ_=>?_))|(with_reducible refine qFD ?_;split)|((with_reducible first|refine a ?_|refine a.1 ?_|refine a.2.1 ?_|refine a.2.2.1 ?_|refine a.2.2.2.1 ?_|refine a.2.2.2.2.1 ?_);(repeat' intro _))):∀ k s r,itS step k s=some r->P s r:=qF (h a)
theorem eI (ok:∀ k s r,itS step k s=some r->P s r){k:Nat}{s:S}{f:Nat}{args:List AV}{b:List (List Cell)}{re:R->ARes}{b2:R->List (List Cell)}(h:∀ r,P s r->Ev Tryz.prog noHand f args b (re r) (b2 r):=by exact λr h=>evF h):EvI (itS step k s) f args b re b2:=⟨λr e=>h r (ok k s r e)⟩
end
section
variable [Glob]
theorem qzc {a b:Int}(h:(a != b)=false):a=b:=by simpa using h
theorem evI {α:Type}{o:Option α}{f:Nat}{args:List AV}{b:List (List Cell)}{re:α->ARes}{a:α->List (List Cell)}[c:EvI o f args b re a]{r:α}(h:o=some r):Ev Tryz.prog noHand f args b (re r) (a r):=c.ev r h
end
end Ab
end Go.Proofs.YtnnhdcidgfjfpaaGreatDoor
