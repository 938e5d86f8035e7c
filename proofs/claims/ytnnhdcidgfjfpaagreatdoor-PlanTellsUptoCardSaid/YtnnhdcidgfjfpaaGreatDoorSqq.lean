/-
  Short words for the functions' texts: a piece of advice and the fact that it rests on, in one.
-/
import Derived.Test.YtnnhdcidgfjfpaaGreatDoorFdq
import Derived.KernelRfl
set_option linter.all false
namespace Go.Proofs.YtnnhdcidgfjfpaaGreatDoor
namespace Ab
abbrev By:=ByteArray
abbrev pP (n:Nat):AV:=.c (.ptr ⟨⟨.par n,[]⟩,0,0⟩)
abbrev pL (n:Nat):AV:=.c (.ptr ⟨⟨.loc n,[]⟩,0,0⟩)
structure AF where
  a:Option Nat×Adv
  ps:List Prop
  h:AllP ps
def afA:List AF->Advs
  |[]=>[]
  |x::l=>x.a::afA l
def apP:List Prop->List Prop->List Prop
  |[],m=>m
  |p::l,m=>p::apP l m
def afP:List AF->List Prop
  |[]=>[]
  |x::l=>apP x.ps (afP l)
theorem qkB:∀ {l m:List Prop},AllP l->AllP m->AllP (apP l m)
  |[],_,_,h=>h
  |_::_,_,h,a=>⟨h.1,qkB h.2 a⟩
theorem afH:∀ L:List AF,AllP (afP L)
  |[]=>trivial
  |x::l=>qkB x.h (afH l)
section
variable [Glob] {f:Nat} {args:List AV} {bx:List (List Cell)} {res:ARes} {bx':List (List Cell)} {b:Bool} {p q:Prop}
abbrev tT (d:Nat)(h:b=true):AF:=⟨(some d,.test true),[b=true],h,trivial⟩
abbrev tF (d:Nat)(h:b=false):AF:=⟨(some d,.test false),[b=false],h,trivial⟩
abbrev cA (d:Nat)(h:Ev Tryz.prog noHand f args bx res bx'):AF:=⟨(some d,.call res bx' false),[Ev Tryz.prog noHand f args bx res bx'],h,trivial⟩
abbrev cU (d:Nat)(h:Ev Tryz.prog noHand f args bx res bx'):AF:=⟨(some d,.call res bx' true),[Ev Tryz.prog noHand f args bx res bx'],h,trivial⟩
abbrev cF (d:Nat)(h:Ev Tryz.prog noHand f args bx res bx'):AF:=⟨(some d,.call res bx' false),[Ev Tryz.prog noHand f args bx res bx',false=false],h,rfl,trivial⟩
abbrev cT (d:Nat)(h:Ev Tryz.prog noHand f args bx res bx')(a:q):AF:=⟨(some d,.call res bx' true),[Ev Tryz.prog noHand f args bx res bx',q],h,a,trivial⟩
abbrev xQ [Decidable p](d:Nat)(h:decide p=true):AF:=⟨(some d,.qr),[p],of_decide_eq_true h,trivial⟩
abbrev xC [Decidable p](d:Nat)(h:decide p=true):AF:=⟨(some d,.scat),[p],of_decide_eq_true h,trivial⟩
abbrev xS [Decidable p](d:Nat)(h:decide p=true):AF:=⟨(some d,.ssl),[p],of_decide_eq_true h,trivial⟩
abbrev sA {s:ByteArray}{n c:Int}(d:Nat)(h:0<=n/\Xp s n.toNat=some c):AF:=⟨(some d,.sidx c),[0<=n/\Xp s n.toNat=some c],h,trivial⟩
abbrev rA {rows:Rs}{n:Int}{row:List Cell}(d:Nat)(h:0<=n/\rows[n.toNat]? = some row){m:Nat}(e:row.length=m:=by rfl):AF:=⟨(some d,.row row),[0<=n/\rows[n.toNat]? = some row/\row.length=m],⟨h.1,h.2,e⟩,trivial⟩
abbrev aA {m n:Int}{l:List Value}{s:ByteArray}(d:Nat)(h:0<=n/\n<m/\l[n.toNat]? = some (.string s)):AF:=⟨(some d,.aix (.string s)),[0<=n/\n<m/\l[n.toNat]? = some (.string s)],h,trivial⟩
variable {cx:Cx} {fn:Func} {K K':List TItem} {F F':Fr}
theorem mA (a:Nat)(h:Fin cx fn K' F' res bx)(n:Nat)(L:List AF)(t m:Nat)(e:mcut cx fn a n K F (afA L) (bm t m) [] []=some (.at K' F',afP L):=by kernel_rfl)(c:cx.P.follows .mixedOrders=true:=by exact hmix):Fin cx fn K F res bx:=qhs c h e (afH L)
theorem mG (a:Nat)(h:Fin cx fn K' F' res bx)(n:Nat)(L:List AF)(t m:Nat)(ls:List Nat)(cs:List (Pl×Option Nat))(e:mcut cx fn a n K F (afA L) (bm t m) ls cs=some (.at K' F',afP L):=by kernel_rfl)(c:cx.P.follows .mixedOrders=true:=by exact hmix):Fin cx fn K F res bx:=qhs c h e (afH L)
theorem mF (a:Nat)(L:List AF)(e:mgo cx fn a 2000 K F (afA L)=some (.fin res bx,afP L):=by kernel_rfl)(c:cx.P.follows .mixedOrders=true:=by exact hmix):Fin cx fn K F res bx:=zO c e (afH L)
theorem evF {a:Code}(h:Fin cx fn [.code a] (fr0 fn args bx) res bx')(c:Tryz.prog.funcs[f]? = some fn:=by kernel_rfl)(d:fn.body=some a:=by kernel_rfl)(e:(fn.name == "runtime.NumGoroutine")=false:=by kernel_rfl)(g:cx.P=Tryz.prog:=by rfl):Ev Tryz.prog noHand f args bx res bx':=qV c d e g h
end
def aixS {α:Type}(xs:List ByteArray)(n:Int)(k:ByteArray->Option α):Option α:=if 0<=n then(match xs[n.toNat]? with
  |some s=>k s
  |none=>none)else none
theorem qcW {α:Type}{xs:List ByteArray}{n:Int}{k:ByteArray->Option α}{r:α}(h:aixS xs n k=some r):∃ s,(0<=n/\n<(xs.length:Int)/\(xs.map Value.string)[n.toNat]? = some (.string s))/\k s=some r:=by
  unfold aixS at h;split at h
  . rename_i c;split at h
    . rename_i s a;have d:=(az.1 a).1;exact⟨s,⟨c,by omega,by rw[aH,a];rfl⟩,h⟩
    . cases h
  . cases h
end Ab
end Go.Proofs.YtnnhdcidgfjfpaaGreatDoor
