/-
  The interpreter of the model's code over values, and its soundness: part 1 of 5. No claim stands here.
-/
import Derived.Test.YtnnhdcidgfjfpaaGreatDoorRows
import Derived.WalkKit
import Derived.Lib.ConvBytes
import Derived.Laws.BytesArg
import Derived.Deep.AppendSrc
import Derived.Room.Entries
import Derived.Orders
import Derived.LoopN
import Derived.Recover
import Derived.Below
import Derived.KernelRfl
import Derived.WideKeyArgs
import Derived.OpenShut
import Derived.ProofKit
import Derived.JoinedCond
import Derived.ChangeSame
set_option linter.all false
namespace Go.Proofs.YtnnhdcidgfjfpaaGreatDoor
namespace Ab
theorem aa {α:Type _}(a b:α):(some a=some b)=(a=b):=Option.some.injEq a b
theorem ae {α β:Type _}(a:α)(f:α->Option β):(some a).bind f=f a:=rfl
theorem ai {α β:Type _}(a:α)(b:β)(c:α)(d:β):((a,b)=(c,d))=(a=c/\b=d):=Prod.mk.injEq a b c d
theorem au {α:Type _}{a:α}{l:List α}:a∈a::l:=List.mem_cons_self
theorem av {α β:Type _}(a:α)(f:α->β):(some a).map f=some (f a):=rfl
theorem ax {α:Type _}{l:List α}{i:Nat}(h:i<l.length):l[i]? = some l[i]:=List.getElem?_eq_getElem h
theorem ay {α β:Type}(a:α)(w:World)(f:α->World->Result β):(Result.ok a w).andThen f=f a w:=Result.andThen_ok a w f
theorem az {α:Type _}{i:Nat}{a:α}{l:List α}:l[i]? = some a↔∃ h,l[i]'h=a:=List.getElem?_eq_some_iff
theorem aB {α:Type _}(y:α){a:α}{l:List α}(h:a∈l):a∈y::l:=List.mem_cons_of_mem y h
theorem aC (a b:Bool):((a&&b)=true)=(a=true/\b=true):=Bool.and_eq_true a b
theorem aD {c:Prop}{h:Decidable c}(a:c){α:Sort _}{t e:α}:(if c then t else e)=t:=if_pos a
theorem aF {c:Prop}{h:Decidable c}(a:¬c){α:Sort _}{t e:α}:(if c then t else e)=e:=if_neg a
theorem aG {α:Type _}{b:α}{β:Type _}{x:Option β}{f:β->α}:x.map f=some b↔∃ a,x=some a/\f a=b:=Option.map_eq_some_iff
theorem aH {α β:Type _}{f:α->β}{l:List α}{i:Nat}:(l.map f)[i]? =l[i]?.map f:=List.getElem?_map
theorem aI {α:Type _}{a:α}{l:List α}:(a::l)[0]? = some a:=rfl
theorem aJ {α:Type _}{xs:Array α}{i:Nat}{d:α}:xs.getD i d=xs[i]?.getD d:=Array.getD_eq_getD_getElem?
theorem aK {α β:Type}(P:Program)(w:World)(x:Sem α)(f:α->Sem β):(x>>=f).run P w=(x.run P w).andThen λa w'=>(f a).run P w':=Sem.run_bind P w x f
theorem aL {α:Type _}{a:α}{l:List α}(m:List α)(h:a∈l):a∈l++m:=List.mem_append_left m h
theorem aM {α:Type _}{l:List α}{i:Nat}{a:α}(h:l[i]? = some a):a∈l:=List.mem_of_getElem? h
theorem aO {p:Prop}[a:Decidable p](h:p):decide p=true:=decide_eq_true h
theorem aP {α:Type _}{xs:Array α}{i:Nat}:xs.toList[i]? =xs[i]?:=Array.getElem?_toList
theorem aQ {α:Type _}{a b:α}(h:some a=some b):a=b:=Option.some.inj h
theorem aR {α:Type _}{b:α}(l:List α){m:List α}(h:b∈m):b∈l++m:=List.mem_append_right l h
theorem aS:(false=true)=False:=Bool.false_eq_true
theorem aT {α:Type}(P:Program)(w:World)(a:α):(pure a:Sem α).run P w=.ok a w:=Sem.run_pure P w a
theorem aU {α:Type _}{a b:α}:a∈[b]↔a=b:=List.mem_singleton
theorem aV {α:Type _}{xs:Array α}{i j:Nat}{a:α}:(xs.setIfInBounds i a)[j]? = if i=j then if i<xs.size then some a else none else xs[j]?:=Array.getElem?_setIfInBounds
theorem aW {p:Prop}[a:Decidable p]:(decide p=true)=p:=decide_eq_true_eq
theorem aX {α:Type _}{l m:List α}{i:Nat}(h:i<l.length):(l++m)[i]? =l[i]?:=List.getElem?_append_left h
theorem aY {α:Type _}{l m:List α}{i:Nat}(h:l.length<=i):(l++m)[i]? =m[i-l.length]?:=List.getElem?_append_right h
inductive Root where
 |slot (k:Nat)
 |par (k:Nat)
 |loc (k:Nat)
 |res
 deriving DecidableEq
structure Key where
 root:Root
 path:List (Nat×Nat)
 deriving DecidableEq
structure Pl where
 key:Key
 r:Nat
 o:Nat
 deriving DecidableEq
def Pl.toKey (p:Pl):Key:=⟨p.key.root,p.key.path++[(p.r,p.o)]⟩
def Pl.isM (p:Pl):Bool:=p.key.path.isEmpty&&p.r != 0
inductive Cell where
 |val (v:Value)
 |nil
 |imm (rows:List (List Cell))
 |own (sz:Nat) (rows:List (List Cell))
 |mp (es:List (Value×List Cell))
 |mpb (es:List (Value×List Cell))
 |ptr (p:Pl)
 |cptr (row:List Cell) (o:Nat)
 |ref (p:Pl)
 |clo (f:Nat) (first caps:List Cell)
 |dead
 deriving Inhabited
inductive Tag where
 |one
 |agg
 |tup (l:List Bool)
structure AV where
 tag:Tag
 rows:List (List Cell)
def AV.c (x:Cell):AV:=⟨.one,[[x]]⟩
def AV.ag (l:List Cell):AV:=⟨.agg,[l]⟩
def AV.undef:AV:=⟨.tup [],[]⟩
def AV.deadv:AV:=.c .dead
def AV.int (n:Int):AV:=.c (.val (.int .i64 n))
def AV.bool (b:Bool):AV:=.c (.val (.bool b))
def AV.cells (v:AV):Option (List Cell):=
 match v.tag,v.rows with
 |.one,[[x]]=>some [x]
 |.agg,[l]=>some l
 |_,_=>none
def AV.cell (v:AV):Option Cell:=
 match v.tag,v.rows with
 |.one,[[x]]=>some x
 |_,_=>none
def mapO {α β:Type}(f:α->Option β):List α->Option (List β)
 |[]=>some []
 |x::l=>match f x,mapO f l with
  |some y,some a=>some (y::a)
  |_,_=>none
structure Fr where
 slots:List AV
 boxes:List (Root×List Cell)
structure Cx where
 P:Program
 hand:Nat->Nat->Bool     -- (function,parameter): the parameter is handed over,not lent
 vars:List Nat             -- the slots that are variables: assigned to
 gone:List Nat             -- the slots that are read in their own region alone
 dead:List (Nat×Nat)     -- of each loop (its first region) the variables that are not read any more,as bits
 mv:List Nat               -- the slots into which a load moves what is owned
def cellAt (rows:List (List Cell))(r o:Nat):Option Cell:=(rows[r]?).bind (·[o]?)
def setRow (rows:List (List Cell))(r o:Nat)(c:Cell):List (List Cell):=rows.set r ((rows[r]?.getD []).set o c)
def getR:List (List Cell)->List (Nat×Nat)->Option (List (List Cell))
 |rows,[]=>some rows
 |rows,(r,o)::π=>match cellAt rows r o with
  |some (.own _ a)=>getR a π
  |_=>none
def updR (f:List (List Cell)->Option (List (List Cell))):List (List Cell)->List (Nat×Nat)->Option (List (List Cell))
 |rows,[]=>f rows
 |rows,(r,o)::π=>match cellAt rows r o with
  |some (.own c b)=>match updR f b π with
   |some a=>some (setRow rows r o (.own c a))
   |none=>none
  |_=>none
def Fr.rows (F:Fr):Root->Option (List (List Cell))
 |.slot k=>(F.slots[k]?).map (·.rows)
 |r=>(F.boxes.lookup r).map λl=>[l]
def YQ (r:Root)(l:List Cell):List (Root×List Cell)->List (Root×List Cell)
 |[]=>[]
 |(r',a)::rest=>if r'=r then(r,l)::rest else(r',a)::YQ r l rest
def Fr.setRows (F:Fr):Root->List (List Cell)->Fr
 |.slot k,rows=>match F.slots[k]? with
  |some v=>{ F with slots:=F.slots.set k { v with rows } }
  |none=>F
 |r,rows=>{ F with boxes:=YQ r (rows.headD []) F.boxes }
def Fr.rowsAt (F:Fr)(k:Key):Option (List (List Cell)):=(F.rows k.root).bind (getR · k.path)
def Fr.get (F:Fr)(p:Pl):Option Cell:=(F.rowsAt p.key).bind (cellAt · p.r p.o)
def putAt (r o:Nat)(c:Cell)(a:List (List Cell)):Option (List (List Cell)):=match cellAt a r o with
 |some _=>some (setRow a r o c)
 |none=>none
def Fr.set (F:Fr)(p:Pl)(c:Cell):Option Fr:=
 match F.rows p.key.root with
 |some rows=>match updR (putAt p.r p.o c) rows p.key.path with
  |some a=>some (F.setRows p.key.root a)
  |none=>none
 |none=>none
def Fr.put (F:Fr)(dst:Option Nat)(v:AV):Fr:=match dst with
 |some d=>{ F with slots:=F.slots.set d v }
 |none=>F
def qf7 (p:Pl):Cell->Cell
 |.own _ _|.mp _=>.ref p
 |c=>c
def xA (k:Key)(r:Nat):Nat->List Cell->List Cell
 |_,[]=>[]
 |o,c::l=>qf7 ⟨k,r,o⟩ c::xA k r (o+1) l
def xm (k:Key):Nat->List (List Cell)->List (List Cell)
 |_,[]=>[]
 |r,l::rest=>xA k r 0 l::xm k (r+1) rest
def oneC:Value->Bool
 |.agg _|.tuple _=>false
 |_=>true
def qm:Value->Cell
 |.slice none 0 0=>.nil
 |v=>if oneC v then .val v else .dead
def yR:Value->AV
 |.agg cs=>.ag (cs.toList.map qm)
 |.tuple _=>.deadv
 |v=>.c (qm v)
def Fr.ev (F:Fr):Operand->AV
 |.tmp s=>match F.slots[s]? with
  |some v=>{ v with rows:=xm ⟨.slot s,[]⟩ 0 v.rows }
  |none=>.deadv
 |.const v=>yR v
 |.global g=>.c (.val (.pointer (some ⟨g,0,none⟩)))
 |.func f=>.c (.clo f [] [])
mutual
def immC:Cell->Cell
 |.own _ rows=>.imm (qG rows)
 |.nil=>.imm []
 |c=>c
def qfz:List Cell->List Cell
 |[]=>[]
 |c::l=>immC c::qfz l
def qG:List (List Cell)->List (List Cell)
 |[]=>[]
 |l::rest=>qfz l::qG rest
end
theorem qiq (l):qfz l=l.map immC:=by induction l<;>simp_all[qfz]
theorem Yr (l):qG l=l.map (·.map immC):=by induction l<;>simp_all[qG,qiq]
def qw:Cell->Bool
 |.val _|.nil|.dead|.imm _|.own _ _=>true
 |_=>false
def qo {α:Type}(P:Program):Sem α->Option α
 |.pure a=>some a
 |.program k=>qo P (k P)
 |.mark _ k=>qo P k
 |_=>none
def conC:Cell->Option Value
 |.val v=>some v
 |.nil=>some (.slice none 0 0)
 |_=>none
def conL:List Cell->Option (List Value)
 |[]=>some []
 |c::l=>match conC c,conL l with
  |some v,some vs=>some (v::vs)
  |_,_=>none
def AV.con (v:AV):Option Value:=
 match v.tag,v.rows with
 |.one,[[x]]=>conC x
 |.agg,[l]=>(conL l).map λvs=>.agg vs.toArray
 |_,_=>none
def under (p:Pl)(k:Key):Bool:=k.root=p.key.root&&(p.toKey.path.length.ble k.path.length&&p.toKey.path.isPrefixOf k.path)
def vI (p:Pl):Cell->Cell
 |.ref q=>if under p q.toKey then .dead else .ref q
 |.ptr q=>if under p q.key then .dead else .ptr q
 |c=>c
def AV.mapC (f:Cell->Cell)(v:AV):AV:=⟨v.tag,v.rows.map (·.map f)⟩
def mapB (f:Cell->Cell):List (Root×List Cell)->List (Root×List Cell)
 |[]=>[]
 |(r,l)::rest=>(r,l.map f)::mapB f rest
def Fr.mapC (F:Fr)(f:Cell->Cell):Fr:={ slots:=F.slots.map (·.mapC f),boxes:=mapB f F.boxes }
def Fr.kill (F:Fr)(p:Pl):Fr:=F.mapC (vI p)
def Cx.temp (cx:Cx):Root->Bool
 |.slot k=>!cx.vars.contains k
 |_=>false
def takeC (cx:Cx)(F:Fr):Cell->Option (Cell×Fr)
 |.ref p=>match F.get p with
  |some (.own a rows)=>
   if cx.temp p.key.root&&p.key.path.isEmpty then(F.set p .dead).map λF'=>(.own a rows,F'.kill p)
   else(F.set p (.imm (qG rows))).map λF'=>(.imm (qG rows),F')
  |some (.mp b)=>if cx.temp p.key.root&&p.key.path.isEmpty then(F.set p .dead).map λF'=>(.mp b,F'.kill p)else none
  |_=>none
 |.dead=>none
 |.ptr q=>if q.key.path.isEmpty then some (.ptr q,F)else none
 |c=>some (c,F)
def qxi (cx:Cx)(F:Fr):List Cell->Option (List Cell×Fr)
 |[]=>some ([],F)
 |c::l=>match takeC cx F c with
  |some (b,F')=>match qxi cx F' l with
   |some (d,a)=>some (b::d,a)
   |none=>none
  |none=>none
def Qb (cx:Cx)(F:Fr)(v:AV):Option (AV×Fr):=
 match v.tag,v.rows with
 |.one,[[x]]=>(takeC cx F x).map λ(c,F')=>(.c c,F')
 |.agg,[l]=>(qxi cx F l).map λ(a,F')=>(.ag a,F')
 |_,_=>none
def qy:Cell->Bool
 |.own _ _|.mp _=>true
 |_=>false
def Fr.setL (F:Fr)(p:Pl):Nat->List Cell->Option Fr
 |_,[]=>some F
 |j,c::l=>
  let q:Pl:={ p with o:=p.o+j }
  let a:=if qy c then F.kill q else F
  match a.set q c with
  |some F'=>F'.setL p (j+1) l
  |none=>none
def zW (P:Program)(t:TypeId):Option Bool:=match P.underlying t with
 |some (.struct _)|some (.array _ _)=>some true
 |some _=>some false
 |none=>none
def qQ (P:Program)(t:TypeId):Option Nat:=(P.info? t).map (·.size)
def QK:Cell->Bool
 |.val _|.nil=>true
 |_=>false
def XP (P:Program)(t:TypeId):Option (List Cell):=match P.info? t with
 |some i=>match i.zero with
  |some z=>if (z.cells.toList.map qm).length=i.size&&(z.cells.toList.map qm).all QK then some (z.cells.toList.map qm)else none
  |none=>none
 |none=>none
def mkAV (a:Bool)(l:List Cell):Option AV:=
 if a then some (.ag l)else match l with
  |[x]=>some (.c x)
  |_=>none
def Root.boxed:Root->Bool
 |.par _|.loc _=>true
 |_=>false
def Key.heap (k:Key):Bool:=!k.path.isEmpty||k.root.boxed
def Fr.loadL (F:Fr)(n:Nat):Cell->Option (List Cell)
 |.ptr p=>if !p.key.heap then none else match F.rowsAt p.key with
  |some rows=>match rows[p.r]? with
   |some row=>if p.o+n<=row.length then some (xA p.key p.r p.o ((row.drop p.o).take n))else none
   |none=>none
  |none=>none
 |.cptr row o=>if o+n<=row.length then some ((row.drop o).take n)else none
 |_=>none
def ZE (n:Nat):Cell->Option Cell
 |.ptr p=>if p.isM then none else some (.ptr { p with o:=p.o+n })
 |.cptr row o=>some (.cptr row (o+n))
 |_=>none
def Fr.look (F:Fr):Cell->Option (List (List Cell))
 |.nil=>some []
 |.imm rows=>some rows
 |.ref p=>match F.get p with
  |some (.own _ rows)=>some rows
  |_=>none
 |_=>none
def sEq:Value->Value->Option Bool
 |.int k a,.int c b=>if k=c then some (a==b)else none
 |.string a,.string b=>some (a.toList==b.toList)
 |.bool a,.bool b=>some (a==b)
 |_,_=>none
def yM (P:Program)(f:Field):Bool:=f.name != "_" && match P.underlying f.type with
 |some (.int _)|some .string|some .bool=>true
 |_=>false
def qL (P:Program)(t:TypeId):Bool:=match P.underlying t with
 |some (.struct fs)=>!P.stoodInHeld t && !P.eqGuardType P.depth t&&fs.toList.all (yM P)
 |_=>false
def qaK (P:Program)(xs a:Array Value):List Field->Option Bool
 |[]=>some true
 |f::fs=>match xs[f.offset]?,a[f.offset]?,qaK P xs a fs with
  |some x,some y,some r=>match P.underlying f.type,sEq x y with
   |some (.int k),some e=>(match x with|.int b _=>if k=b then some (e&&r)else none|_=>none)
   |some .string,some e=>(match x with|.string _=>some (e&&r)|_=>none)
   |some .bool,some e=>(match x with|.bool _=>some (e&&r)|_=>none)
   |_,_=>none
  |_,_,_=>none
def qbk (P:Program)(t:TypeId)(x y:Value):Option Bool:=match P.underlying t,x,y with
 |some (.int _),.int k a,.int c b=>if k=c then some (a==b)else none
 |some .string,.string a,.string b=>some (a==b)
 |some (.struct fs),.agg xs,.agg d=>if qL P t then qaK P xs d fs.toList else none
 |_,_,_=>none
def frzC (F:Fr):Cell->Option (List (List Cell)×Fr)
 |.nil=>some ([],F)
 |.imm rows=>some (rows,F)
 |.ref p=>match F.get p with
  |some (.own _ rows)=>(F.set p (.imm (qG rows))).map λF'=>(qG rows,F')
  |_=>none
 |_=>none
def yz (r:Root):Cell->Cell
 |.ref q=>if q.key.root=r then .dead else .ref q
 |.ptr q=>if q.key.root=r && !q.key.path.isEmpty then .dead else .ptr q
 |c=>c
def Fr.killR (F:Fr)(r:Root):Fr:=F.mapC (yz r)
def Fr.putS (F:Fr)(dst:Option Nat)(v:AV):Fr:=match dst with
 |some d=>if v.rows.any (·.any qy)then(F.killR (.slot d)).put (some d) v else F.put (some d) v
 |none=>F
def chunk (sz:Nat):Nat->List Cell->List (List Cell)
 |0,_=>[]
 |n+1,l=>l.take sz::chunk sz n (l.drop sz)
def qbn (a:Nat->Option (Nat×Nat))(l:List Cell):List (Nat×List Cell)->Option (List Cell)
 |[]=>some l
 |(i,cs)::rest=>match a i with
  |some (b,size)=>if cs.length=size&&b+cs.length<=l.length then qbn a (l.take b++cs++l.drop (b+cs.length)) rest else none
  |none=>none
def placeOf (P:Program)(t:TypeId):Option (Nat->Option (Nat×Nat)):=match P.underlying t with
 |some (.struct fields)=>if fields.all (λf=>(qQ P f.type).isSome)then some (λi=>(fields[i]?).bind λf=>(qQ P f.type).map λn=>(f.offset,n))else none
 |some (.array _ a)=>(qQ P a).map λsz=>λi=>some (i*sz,sz)
 |_=>none
def ym (cx:Cx)(F:Fr):List (Nat×AV)->Option (List (Nat×List Cell)×Fr)
 |[]=>some ([],F)
 |(i,v)::rest=>match v.cells with
  |some l=>match qxi cx F l with
   |some (b,F')=>match ym cx F' rest with
    |some (c,a)=>some ((i,b)::c,a)
    |none=>none
   |none=>none
  |none=>none
def qgl (r:Root):List (Root×List Cell)->List (Root×List Cell)
 |[]=>[]
 |(r',l)::rest=>if r'=r then qgl r rest else(r',l)::qgl r rest
def zn (r:Root):Cell->Cell
 |.ref q=>if q.key.root=r then .dead else .ref q
 |.ptr q=>if q.key.root=r then .dead else .ptr q
 |.clo f fs cs=>if (fs++cs).any (λc=>match c with|.ptr q=>q.key.root=r|_=>false)then .dead else .clo f fs cs
 |c=>c
def Fr.drop (F:Fr)(r:Root):Fr:=Fr.mapC { F with boxes:=qgl r F.boxes } (zn r)
def qaN (F:Fr)(dst:Option Nat)(l:List Cell):Option Fr:=match dst with
 |some d=>match F.boxes.lookup (.loc d)with
  |none=>some ({ F with boxes:=(.loc d,l)::F.boxes }.putS (some d) (.c (.ptr ⟨⟨.loc d,[]⟩,0,0⟩)))
  |some _=>none
 |none=>none
def mapC:Cell->List (Value×List Cell)->Cell
 |.ptr _,a=>.mpb a
 |_,a=>.mp a
def asInt (v:AV):Option Int:=match v.con with
 |some (.int _ n)=>some n
 |_=>none
def lim:Nat:=1099511627776
def yg (cx:Cx)(F:Fr)(o:Oper):Option AV:=
 if o.op.operands.toList.all (λx=>(F.ev x).con.isSome)then
  match qo cx.P (execOp (λx=>((F.ev x).con).getD Go.undef) o)with
  |some (.value v)=>some (yR v)
  |_=>none
 else none
def Qs:Tag->Bool->Bool
 |.agg,g=>g
 |.one,g=>!g
 |_,_=>false
def qi3:List Cell->Option Int
 |[.val (.int .u8 n)]=>some n
 |_=>none
def qhy (xs:List Int):ByteArray:=⟨(xs.map λn=>UInt8.ofNat n.toNat).toArray⟩
def XU (cx:Cx)(F:Fr)(o:Oper)(s t:TypeId)(x:Operand):Option AV:=match cx.P.underlying s,cx.P.underlying t,(F.ev x).cell with
 |some (.slice e),some .string,some c=>match cx.P.underlying e,F.look c with
  |some (.int .u8),some rows=>(mapO qi3 rows).map λxs=>.c (.val (.string (qhy xs)))
  |_,_=>none
 |_,_,_=>yg cx F o
def qkM (v:AV):Option AV:=match v.tag,v.rows with
 |.one,[[c]]=>some ⟨.tup [false,false],[[c],[.val (.bool true)]]⟩
 |.agg,[l]=>some ⟨.tup [true,false],[l,[.val (.bool true)]]⟩
 |_,_=>none
def qbz (cx:Cx)(F:Fr)(x:Operand)(t:TypeId)(ok:Bool):Option AV:=match (F.ev x).con,cx.P.underlying t with
 |some (.iface a v),some u=>match u with
  |.interface _=>none
  |_=>if a=t then(if ok then qkM (yR v)else some (yR v))else none
 |_,_=>none
def quiet (cx:Cx)(F:Fr)(o:Oper):Option AV:=match o.op with
 |.move x=>some (F.ev x)
 |.pick c a b=>match (F.ev c).con with
  |some (.bool t)=>some (if t then F.ev a else F.ev b)
  |_=>none
 |.binOp op t x y _=>match op,(F.ev x).con,(F.ev y).con with
  |.eql,some (.agg xs),some (.agg k)=>if qL cx.P t then(qaK cx.P xs k (match cx.P.underlying t with|some (.struct fs)=>fs.toList|_=>[])).map .bool else none
  |.neq,some (.agg xs),some (.agg k)=>if qL cx.P t then(qaK cx.P xs k (match cx.P.underlying t with|some (.struct fs)=>fs.toList|_=>[])).map λb=>.bool (!b)else none
  |_,_,_=>yg cx F o
 |.unOp ..=>yg cx F o
 |.convert s t x=>XU cx F o s t x
 |.makeInterface ..=>yg cx F o
 |.typeAssert x _ t ok=>qbz cx F x t ok
 |.load t a=>match (F.ev a).cell,qQ cx.P t,zW cx.P t with
  |some c,some n,some g=>(F.loadL n c).bind (mkAV g)
  |_,_,_=>none
 |.nilCheck x=>match (F.ev x).cell with
  |some (.ptr p)=>if p.isM then none else some (.c (.ptr p))
  |some (.cptr row o)=>some (.c (.cptr row o))
  |_=>none
 |.fieldAddr s x f=>match cx.P.underlying s,(F.ev x).cell with
  |some (.struct fields),some c=>match fields[f]? with
   |some h=>match qQ cx.P h.type with
    |some (_+1)=>(ZE h.offset c).map .c
    |_=>none
   |none=>none
  |_,_=>none
 |.indexAddr t x i=>match cx.P.underlying t,(F.ev x).cell,asInt (F.ev i)with
  |some (.slice d),some (.imm rows),some n=>match rows[n.toNat]?,qQ cx.P d with
   |some row,some sz=>if 0<=n&&row.length==sz then some (.c (.cptr row 0))else none
   |_,_=>none
  |some (.slice d),some (.ref p),some n=>match F.get p,qQ cx.P d with
   |some (.own m rows),some sz=>if 0<=n&&n<rows.length&&m==sz then some (.c (.ptr ⟨p.toKey,n.toNat,0⟩))else none
   |_,_=>none
  |some (.array len d),some c,some n=>match qQ cx.P d with
   |some sz=>if 0<=n/\n<len then(ZE (n.toNat*sz) c).map .c else none
   |none=>none
  |_,_,_=>none
 |.index ..=>yg cx F o
 |.field s x f=>match cx.P.underlying s,F.ev x with
  |some (.struct fields),⟨.agg,[l]⟩=>match fields[f]? with
   |some h=>match qQ cx.P h.type,zW cx.P h.type with
    |some n,some g=>if h.offset+n<=l.length then mkAV g ((l.drop h.offset).take n)else none
    |_,_=>none
   |none=>none
  |_,_=>none
 |.extract x i=>match F.ev x with
  |⟨.tup q,rows⟩=>match q[i]?,rows[i]? with
   |some g,some l=>mkAV g l
   |_,_=>none
  |_=>none
 |.call { callee:=.builtin .len,args,argTypes }=>match args[0]?,argTypes[0]? with
  |some x,some t=>match cx.P.underlying t,(F.ev x).cell with
   |some (.slice _),some c=>(F.look c).map λrows=>.int rows.length
   |_,_=>yg cx F o
  |_,_=>none
 |.call { callee:=.builtin .max,.. }|.call { callee:=.builtin .min,.. }=>yg cx F o
 |.makeFunc (.func f) first j=>
  let fs:=first.toList.map λx=>(F.ev x).cell
  let cs:=j.toList.map λx=>(F.ev x).cell
  let e:Option Cell->Bool:=λc=>match c with
   |some (.ptr p)=>p.key.path.isEmpty&&p.r==0
   |some (.val _)=>true
   |_=>false
  if fs.all e&&cs.all e then some (.c (.clo f (fs.map (·.getD .dead)) (cs.map (·.getD .dead))))else none
 |_=>none
def yH (s:ByteArray):List (List Cell):=s.data.toList.map λb=>[.val (.int .u8 b.toNat)]
def srcU:Option TypeDesc->Option TypeDesc
 |some .string=>some (.slice 0)
 |u=>u
def QM:Cell->Option (List (List Cell))
 |.val (.string s)=>some (yH s)
 |.nil=>some []
 |.imm r=>some r
 |.own _ r=>some r
 |_=>none
def qg3:Option Pl->Cell->Bool
 |some p,.ref q=>p.key.path.isEmpty||decide (q.key.root≠p.key.root)
 |_,_=>true
def Yo (cx:Cx)(F:Fr)(d:Nat)(a:TypeId)(i:TypeInfo)(rows:List (List Cell))(p:Option Pl)(b:Cell):Option Fr:=match takeC cx F b with
 |some (c,e)=>match QM c with
  |some more=>if (rows.length+more.length)*i.bytes<=140737488355328&&rows.length+more.length<=lim&&0<i.size&&(XP cx.P a).isSome&&more.head?.all (·.length==i.size) &&
     qg3 p b then
    some (e.putS (some d) (.c (if p.isNone&&more.isEmpty then .nil else .own i.size (rows++more))))else none
  |none=>none
 |none=>none
def loud (cx:Cx)(F:Fr)(o:Oper):Option Fr:=match o.op with
 |.assign x=>match (F.ev x).cell,o.dst with
  |some (.ref p),some d=>
   if p.key.root=.slot d then(if p=⟨⟨.slot d,[]⟩,0,0⟩then match F.slots[d]? with
     |some ⟨.one,[[c]]⟩=>if qy c then some F else none
     |_=>none
    else none)
   else if cx.temp p.key.root then match takeC cx F (.ref p)with
    |some (c,F')=>some (F'.putS (some d) (.c c))
    |none=>none
   else some (F.putS (some d) (.c (.ref p)))
  |some c,some d=>some (F.putS (some d) (.c c))
  |none,some d=>(Qb cx F (F.ev x)).map λ(v,F')=>F'.putS (some d) v
  |_,none=>none
 |.alloc t=>match XP cx.P t with
  |some l=>qaN F o.dst l
  |none=>none
 |.box _ x=>match Qb cx F (F.ev x)with
  |some (v,F')=>v.cells.bind (qaN F' o.dst)
  |none=>none
 |.store t a x=>match o.dst,(F.ev a).cell,qQ cx.P t,Qb cx F (F.ev x)with
  |none,some (.ptr p),some n,some (v,F')=>match v.cells with
   |some l=>if l.length=n&&(p.key.heap && !p.isM)&&(p.key.path.isEmpty||l.all qw)then F'.setL p 0 l else none
   |none=>none
  |_,_,_,_=>none
 |.build t g=>match XP cx.P t,placeOf cx.P t,ym cx F (g.toList.map λ(i,x)=>(i,F.ev x))with
  |some l,some j,some (k,F')=>(qbn j l k).map λq=>F'.putS o.dst (.ag q)
  |_,_,_=>none
 |.buildSlice t len g=>match cx.P.underlying t with
  |some (.slice f)=>match qQ cx.P f,XP cx.P f,ym cx F (g.toList.map λ(i,x)=>(i,F.ev x))with
   | some sz,some r,some (k,F')=>if len*sz<=16777216&&0<sz then
     match qbn (λi=>some (i*sz,sz)) (List.replicate len r).flatten k with
     |some l=>if l.all qw then some (F'.putS o.dst (.c (.own sz (chunk sz len l))))else none
     |none=>none
    else none
   |_,_,_=>none
  |_=>none
 |.convert s t x=>match cx.P.underlying s,cx.P.underlying t,(F.ev x).con with
  |some .string,some (.slice e),some (.string b)=>match cx.P.underlying e with
   |some (.int .u8)=>some (F.putS o.dst (.c (.imm (yH b))))
   |_=>none
  |_,_,_=>none
 |.slice t x u w none=>match cx.P.underlying t with
  |some (.slice f)=>match frzC F (((F.ev x).cell).getD .dead),qQ cx.P f with
   |some (rows,F'),some sz=>
    let l:=match u with|some y=>asInt (F.ev y)|none=>some 0
    let h:=match w with|some y=>asInt (F.ev y)|none=>some (rows.length:Int)
    match l,h with
    |some l,some h=>if 0<=l/\l<=h/\h<=rows.length/\(rows.head?.all (·.length==sz))then some (F'.putS o.dst (.c (.imm ((rows.take h.toNat).drop l.toNat))))else none
    |_,_=>none
   |_,_=>none
  |_=>(yg cx F o).map (F.putS o.dst)
 |.call { callee:=.builtin .append,args,argTypes }=>match args.toList,argTypes.toList,o.dst with
  |[s,x],[t,t1],some d=>match cx.P.underlying t,srcU (cx.P.underlying t1),(F.ev s).cell,(F.ev x).cell with
   |some (.slice f),some (.slice _),some .nil,some m=>match cx.P.info? f with
    |some i=>Yo cx F d f i [] none m
    |none=>none
   |some (.slice f),some (.slice _),some (.ref p),some m=>match F.get p,cx.P.info? f,F.set p .dead with
    |some (.own z rows),some i,some A=>if z=i.size then Yo cx (A.kill p) d f i rows (some p) m else none
    |_,_,_=>none
   |_,_,_,_=>none
  |_,_,_=>none
 |_=>none
inductive AExit where
 |normal
 |exit (id:Nat)
 |ret
 |panic (v:Value)
inductive ARes where
 |ret (v:AV)
 |panic (v:Value)
abbrev Oracle:=Nat->List AV->List (List Cell)->Option (ARes×List (List Cell))
abbrev Orac:=Option Nat->Oracle
def Xz:Cell->List Root
 |.ptr p=>[p.key.root]
 |.clo _ fs cs=>(fs++cs).flatMap λ(c:Cell)=>match c with|.ptr p=>[p.key.root]|_=>[]
 |_=>[]
def zm (l m:List Root):List Root:=m.foldl (λl r=>if l.contains r then l else l++[r]) l
def yl (F:Fr):Nat->List Root->List Root
 |0,l=>l
 |n+1,l=>yl F n (zm l (l.flatMap λr=>((F.boxes.lookup r).getD []).flatMap Xz))
def renP (f:Root->Option Root)(p:Pl):Option Pl:=(f p.key.root).map λr=>{ p with key:={ p.key with root:=r } }
def renF (f:Root->Option Root):Cell->Option Cell
 |.ptr p=>(renP f p).map .ptr
 |.val v=>some (.val v)
 |_=>none
def renC (f:Root->Option Root):Cell->Option Cell
 |.ptr p=>(renP f p).map .ptr
 |.clo g fs cs=>match mapO (renF f) fs,mapO (renF f) cs with
  |some a,some b=>some (.clo g a b)
  |_,_=>none
 |.ref _=>none
 |c=>some c
def idxOf (l:List Root)(r:Root):Option Root:=(l.idxOf? r).map .par
def yP (l:List Root):Root->Option Root
 |.par i=>l[i]?
 |_=>none
def yT (cx:Cx)(f:Nat)(F:Fr):Nat->List AV->Option (List AV×Fr)
 |_,[]=>some ([],F)
 | j,v::rest=>if cx.hand f j then match Qb cx F v with
   |some (v',F')=>match yT cx f F' (j+1) rest with
    |some (vs,a)=>some (v'::vs,a)
    |none=>none
   |none=>none
  else match yT cx f F (j+1) rest with
   |some (vs,a)=>some (v::vs,a)
   |none=>none
def Yb (F:Fr):Cell->Option (Cell×List Pl)
 |.ref p=>match F.get p with
  |some (.own _ rows)=>some (.imm (qG rows),[p])
  |_=>none
 |.nil=>some (.imm [],[])
 |.dead=>none
 |.ptr q=>if q.key.path.isEmpty then some (.ptr q,[])else none
 |c=>some (c,[])
def qci (F:Fr):List Cell->Option (List Cell×List Pl)
 |[]=>some ([],[])
 |c::l=>match Yb F c with
  |some (a,b)=>match qci F l with
   |some (d,e)=>some (a::d,b++e)
   |none=>none
  |none=>none
def qgH (F:Fr)(v:AV):Option (AV×List Pl):=
 match v.tag,v.rows with
 |.one,[[x]]=>match Yb F x with
  |some (c,a)=>some (.c c,a)
  |none=>none
 |.agg,[l]=>match qci F l with
  |some (b,a)=>some (.ag b,a)
  |none=>none
 |_,_=>none
def vg (cx:Cx)(f:Nat)(F:Fr):Nat->List AV->Option (List AV×List Pl)
 |_,[]=>some ([],[])
 |j,v::rest=>match (if cx.hand f j then some (v,[])else qgH F v)with
  |some (v',a)=>match vg cx f F (j+1) rest with
   |some (vs,b)=>some (v'::vs,a++b)
   |none=>none
  |none=>none
def zG (F:Fr):List Pl->Option Fr
 |[]=>some F
 |p::rest=>match F.get p with
  |some (.own _ rows)=>match (F.set p (.imm (qG rows)))with
   |some F'=>zG F' rest
   |none=>none
  |_=>zG F rest
def Xg:Cell->Bool
 |.imm _|.cptr _ _|.mp _|.mpb _=>false
 |.own _ rows=>rows.all λl=>l.all λc=>match c with|.val _=>true|_=>false
 |_=>true
def qu2 (F:Fr):List Root->List (List Cell)->Fr
 |r::a,l::ls=>qu2 { F with boxes:=YQ r l F.boxes } a ls
 |_,_=>F
def nodupB:List Root->Bool
 |[]=>true
 |r::l=>!l.contains r&&nodupB l
def renV (f:Root->Option Root)(v:AV):Option AV:=match mapO (mapO (renC f)) v.rows with
 |some rows=>some ⟨v.tag,rows⟩
 |none=>none
def qbl (F:Fr)(f:Root->Option Root)(r:Root):Option (List Cell):=if r.boxed then(F.boxes.lookup r).bind (mapO (renC f))else none
def yj (F:Fr):List Root->Fr
 |[]=>F
 |r::l=>yj (F.killR r) l
def Fr.putK (F:Fr)(dst:Option Nat)(v:AV):Fr:=match dst with
 |some d=>(F.mapC (zn (.slot d))).put (some d) v
 |none=>F
def vZ (cx:Cx)(rec:Oracle)(F:Fr)(dst:Option Nat)(f:Nat)(vs:List AV):Option (Fr×Option Value):=
 match yT cx f F 0 vs with
 |some (d,c)=>match vg cx f c 0 d with
  |some (args,a)=>
   let roots:=yl c 3 (zm [] (args.flatMap λv=>v.rows.flatMap λl=>l.flatMap Xz))
   match mapO (renV (idxOf roots)) args,mapO (qbl c (idxOf roots)) roots with
   |some b,some e=>match rec f b e with
    |some (res,bx')=>match mapO (mapO (renC (yP roots))) bx' with
     |some bx''=>
      if a.all (λp=>!roots.contains p.key.root)&&bx'.length==roots.length&&bx''.map List.length==e.map List.length&&nodupB roots then
       match zG c a with
       |some Ff=>match res with
        |.panic v=>some (qu2 (yj Ff roots) roots bx'',some v)
        |.ret v=>match renV (yP roots) v with
         |some v'=>some ((qu2 (yj (if roots.isEmpty&&v'.rows.all (λ(l:List Cell)=>l.all Xg)then c else Ff) roots) roots bx'').putK dst v',none)
         |none=>none
       |none=>none
      else none
     |none=>none
    |none=>none
   |_,_=>none
  |none=>none
 |none=>none
def mvC (F:Fr)(p:Pl):Option (Cell×Fr):=match F.get p with
 |some c=>if qw c then(if qy c then(F.set p .dead).map λa=>(c,a.kill p)else some (c,F))else none
 |none=>none
def mvL (F:Fr)(K:Key)(r:Nat):Nat->Nat->Option (List Cell×Fr)
 |_,0=>some ([],F)
 |o,n+1=>match mvC F ⟨K,r,o⟩with
  |some (c,a)=>match mvL a K r (o+1) n with
   |some (l,b)=>some (c::l,b)
   |none=>none
  |none=>none
def mvop (cx:Cx)(F:Fr)(o:Oper):Option Fr:=match cx.mv with
 |[]=>none
 |ms=>match o.op,o.dst with
  |.load t a,some d=>if ms.contains d then(match (F.ev a).cell,qQ cx.P t,zW cx.P t with
   |some (.ptr p),some n,some g=>if !(p.key.heap && !p.isM)then none else match mvL F p.key p.r p.o n with
    |some (l,b)=>(mkAV g l).map λv=>b.putS (some d) v
    |none=>none
   |_,_,_=>none)else none
  |_,_=>none
def aop0 (cx:Cx)(rec:Oracle)(F:Fr)(o:Oper):Option (Fr×Option Value):=
 match quiet cx F o with
 |some v=>some (F.putS o.dst v,none)
 |none=>match loud cx F o with
  |some F'=>some (F',none)
  |none=>match o.op with
   |.panic x=>match (F.ev x).con with
    |some (.iface t v)=>some (F,some (.iface t v))
    |_=>none
   |.call { callee:=.value g,args,.. }=>match (F.ev g).cell with
    |some (.clo f first a)=>vZ cx rec F o.dst f (first.map .c++args.toList.map F.ev++a.map .c)
    |_=>none
   |_=>none
def aop (cx:Cx)(rec:Oracle)(F:Fr)(o:Oper):Option (Fr×Option Value):=match mvop cx F o with
 |some F'=>some (F',none)
 |none=>aop0 cx rec F o
def zi (ops:List Oper)(F:Fr)(o:Oper):Option Bool:=match o.guard with
 |none=>some true
 |some (j,a)=>match ops[j]? with
  |some c=>match c.dst with
   |some d=>match F.slots[d]? with
    |some ⟨.one,[[.val (.bool b)]]⟩=>some (b==a)
    |some ⟨.tup [],[]⟩=>some false
    |_=>none
   |none=>none
  |none=>none
def aops (cx:Cx)(rec:Orac)(ops:List Oper):List Oper->Fr->Option (Fr×Option Value)
 |[],F=>some (F,none)
 |o::rest,F=>match zi ops F o with
  |some true=>match aop cx (rec o.dst) F o with
   |some (F',none)=>aops cx rec ops rest F'
   |r=>r
  |some false=>aops cx rec ops rest (F.putS o.dst .undef)
  |none=>none
def Fr.at (F:Fr):Root->Option AV
 |.slot k=>F.slots[k]?
 |r=>(F.boxes.lookup r).map AV.ag
def qJ:Cell->List Root
 |.ref p|.ptr p=>[p.key.root]
 |.clo _ fs cs=>(fs++cs).filterMap λc=>match c with|.ptr p=>some p.key.root|_=>none
 |_=>[]
def qie (p:Pl):Bool:=!(p.key.path.isEmpty&&p.key.root.boxed)
def qvN:Cell->List Root
 |.ref p=>[p.key.root]
 |.ptr p=>if qie p then [p.key.root]else []
 |.clo _ fs cs=>(fs++cs).filterMap λc=>match c with|.ptr p=>if qie p then some p.key.root else none|_=>none
 |_=>[]
def AV.rootsBy (f:Cell->List Root)(v:AV):List Root:=v.rows.flatMap (·.flatMap f)
def yt (F:Fr)(f:Cell->List Root)(l:List Root):List Root:=l.flatMap λr=>match F.at r with
 |some v=>v.rootsBy f
 |none=>[]
def inter (l m:List Root):Bool:=l.any m.contains
def qld:Root->Nat
 |.slot k=>4*k
 |.par k=>4*k+1
 |.loc k=>4*k+2
 |.res=>3
def Ym:List Root->Nat
 |[]=>0
 |r::l=>2 ^ qld r ||| Ym l
structure Info where
 W:List Root
 Rd:List Root
 S:List Root
 cl:Bool
 mW:Nat
 mS:Nat
def zJ (F F':Fr)(W a:List Root)(b:Bool):Info:=⟨W,a,W++a++yt F qvN (W++a)++yt F' qvN W,b,Ym W,Ym (W++a++yt F qvN (W++a)++yt F' qvN W)⟩
def readsOf (o:Oper):List Nat:=o.op.operands.toList.filterMap λx=>match x with
 |.tmp t=>some t
 |_=>none
def slotsOf (o:Oper):List Root:=(readsOf o).map .slot
def xW (ops:List Oper)(o:Oper):List Root:=match o.guard with
 |some (j,_)=>match (ops[j]?).bind (·.dst)with
  |some d=>[.slot d]
  |none=>[]
 |none=>[]
def qR (F:Fr)(o:Oper):List Root:=(readsOf o).flatMap λt=>(F.ev (.tmp t)).rootsBy qJ
def dstR (o:Oper):List Root:=match o.dst with
 |some d=>[.slot d]
 |none=>[]
def locR (o:Oper):List Root:=match o.dst with
 |some d=>[.slot d,.loc d]
 |none=>[]
def Xl:Op->Bool
 |.load ..|.indexAddr ..|.lookup ..|.call _|.convert ..=>true
 |_=>false
def qcg (F:Fr):List Root:=(List.range F.slots.length).map .slot++F.boxes.map (·.1)
def qgd (n:Nat):List Root:=(List.range n).map .slot++(List.range n).map .par++(List.range n).map .loc
def xX (F:Fr)(r:Root):List Root:=if r.boxed then((F.boxes.lookup r).getD []).flatMap Xz else []
def YL (F:Fr):Nat->List Root->List Root
 |0,l=>l
 |n+1,l=>YL F n (zm l (l.flatMap (xX F)))
def qu7 (F:Fr)(W:List Root)(r:Root):Bool:=match F.at r with
 |some v=>inter (v.rootsBy qvN) W
 |none=>false
def holders (F:Fr)(W:List Root):List Root:=(qgd F.slots.length).filter (qu7 F W)
def xG (F:Fr)(W:List Root):Bool:=(qcg F).all λr=>W.contains r || !qu7 F W r
def cutC (W:List Root)(c:Cell):Cell:=if (qJ c).all W.contains then c else .dead
def lslots (W:List Root)(ts:List Nat):Nat->List AV->List AV
 |_,[]=>[]
 |k,v::l=>(if W.contains (.slot k)then v.mapC (cutC W)else if ts.contains k then v.mapC (λc=>if qy c then .dead else cutC W c)else .deadv)::lslots W ts (k+1) l
def lboxes (F:Fr)(W:List Root):List Root->List (Root×List Cell)
 |[]=>[]
 |r::l=>match (if r.boxed then F.boxes.lookup r else none)with
  |some b=>(r,b.map (cutC W))::lboxes F W l
  |none=>lboxes F W l
def Fr.part (F:Fr)(W:List Root)(ts:List Nat):Fr:=⟨lslots W ts 0 F.slots,lboxes F W W⟩
def mslots (W:List Root)(a:List AV):Nat->List AV->List AV
 |k,v::l=>(if W.contains (.slot k)then((a[k]?).getD .deadv).mapC (cutC W)else v)::mslots W a (k+1) l
 |_,[]=>[]
def mboxes (a:Fr)(W:List Root):List (Root×List Cell)->List (Root×List Cell)
 |[]=>[]
 | (r,l)::rest=>if W.contains r then(match (if r.boxed then a.boxes.lookup r else none)with
   |some b=>(r,b.map (cutC W))::mboxes a W rest
   |none=>mboxes a W rest)
  else(r,l)::mboxes a W rest
def Fr.merge (F a:Fr)(W:List Root):Fr:=⟨mslots W a.slots 0 F.slots,(lboxes a W W).filter (λx=>(F.boxes.lookup x.1).isNone)++mboxes a W F.boxes⟩
def qC (F:Fr)(o:Oper):List Root:=
 let a:=YL F 3 (zm (locR o) (qR F o))
 zm a (holders F a)
def mvD (cx:Cx)(o:Oper):Bool:=match cx.mv with
 |[]=>false
 |ms=>match o.op,o.dst with
  |.load _ _,some d=>ms.contains d
  |_,_=>false
def qD (cx:Cx)(F:Fr)(o:Oper):Option AV:=bif mvD cx o then none else quiet cx F o
def dop (cx:Cx)(rec:Orac)(ops:List Oper)(F:Fr)(o:Oper):Option (Fr×Info):=match zi ops F o with
 |none=>none
 |some false=>some (F.put o.dst .undef,zJ F (F.put o.dst .undef) (dstR o) (xW ops o) false)
 |some true=>match qD cx F o with
  |some v=>some (F.put o.dst v,zJ F (F.put o.dst v) (dstR o) (xW ops o++slotsOf o++(if Xl o.op then qR F o else [])) false)
  | none=>if xG F (qC F o)then match aop cx (rec o.dst) (F.part (qC F o) (readsOf o)) o with
    |some (a,none)=>some (F.merge a (qC F o),zJ F (F.merge a (qC F o)) (qC F o) (xW ops o++slotsOf o) true)
    |_=>none
   else none
def drun (cx:Cx)(rec:Orac)(ops:List Oper):List Oper->Fr->Option (Fr×List Info)
 |[],F=>some (F,[])
 |o::rest,F=>match dop cx rec ops F o with
  |some (a,i)=>match drun cx rec ops rest a with
   |some (b,is)=>some (b,i::is)
   |none=>none
  |none=>none
def befE (a:List Nat):List Edge->Nat
 |[]=>0
 |e::l=>if Region.binds .any e then 2 ^ e.on ||| ((a[e.on]?).getD 0 ||| befE a l)else befE a l
def befL:List Oper->List Nat->List Nat
 |[],a=>a
 |o::rest,a=>befL rest (a++[befE a o.after.toList])
def vY (a b:Info):Bool:=a.mW &&& b.mS==0&&b.mW &&& a.mS==0
def qaB (a:Nat)(b:Info):Nat->List Info->Bool
 |_,[]=>true
 |i,x::l=>(a.testBit i||vY x b)&&qaB a b (i+1) l
def vS (a:List Nat)(all:List Info):Nat->List Info->Bool
 |_,[]=>true
 |j,b::l=>qaB ((a[j]?).getD 0) b 0 (all.take j)&&vS a all (j+1) l
def vw:Nat->List Oper->Bool
 |_,[]=>true
 |j,o::l=>o.after.toList.all (λe=>!Region.binds .any e||decide (e.on<j))&&vw (j+1) l
def adraw (cx:Cx)(rec:Orac)(ops:List Oper)(F:Fr):Option Fr:=match drun cx rec ops ops F with
 |some (F',is)=>if vw 0 ops&&vS (befL ops []) is 0 is then some F' else none
 |none=>none
def opsOf:Code->List Oper
 |.region _ ops _=>ops.toList
 |.seq a b=>opsOf a++opsOf b
 |.cond _ a b=>opsOf a++opsOf b
 |.block _ b=>opsOf b
 |.loop b=>opsOf b
 |_=>[]
def natF {α:Type}(m:Nat)(k:Nat->α):α:=match m with|0=>k 0|m+1=>k (m+1)
def qfB (b:Code):List Nat:=(opsOf b).filterMap λo=>match o.op with
 |.alloc _|.box _ _=>o.dst
 |_=>none
def gone (a ls:List Nat):Root->Bool
 |.slot k=>a.contains k
 |.loc k=>ls.contains k
 |_=>false
def yV (a ls:List Nat):Cell->Cell
 |.ref q=>if gone a ls q.key.root then .dead else .ref q
 |.ptr q=>if gone a ls q.key.root then .dead else .ptr q
 |.clo f fs cs=>if (fs++cs).any (λc=>match c with|.ptr q=>gone a ls q.key.root|_=>false)then .dead else .clo f fs cs
 |c=>c
def YS (a ls:List Nat):Nat->List AV->List AV
 |_,[]=>[]
 |i,v::l=>(if a.contains i then .deadv else v.mapC (yV a ls))::YS a ls (i+1) l
def qcZ (a ls:List Nat):List (Root×List Cell)->List (Root×List Cell)
 |[]=>[]
 |(r,l)::rest=>if gone a ls r then qcZ a ls rest else(r,l.map (yV a ls))::qcZ a ls rest
def Fr.norm (F:Fr)(a ls:List Nat):Fr:={ slots:=YS a ls 0 F.slots,boxes:=qcZ a ls F.boxes }
def movable (p:Pl):Bool:=match p.key.root with
 |.slot _|.loc _=>p.key.path.isEmpty
 |_=>false
def resC (F:Fr):Cell->Option (Cell×Fr)
 |.ref p=>match F.get p with
  |some (.own a rows)=>if movable p then(F.set p .dead).map λF'=>(.own a rows,F'.kill p)else(F.set p (.imm (qG rows))).map λF'=>(.imm (qG rows),F')
  |some (.mp b)=>if movable p then(F.set p .dead).map λF'=>(.mp b,F'.kill p)else none
  |_=>none
 |.ptr p=>match p.key.root with
  |.par _=>some (.ptr p,F)
  |_=>none
 |.clo _ _ _=>none
 |c=>some (c,F)
def resL (F:Fr):List Cell->Option (List Cell×Fr)
 |[]=>some ([],F)
 |c::l=>match resC F c with
  |some (b,F')=>match resL F' l with
   |some (d,a)=>some (b::d,a)
   |none=>none
  |none=>none
def resV (P:Program)(F:Fr):ResultVar->Option AV
 |.tmp t=>some (F.ev (.tmp t))
 |.cell a t=>match (F.ev (.tmp a)).cell,qQ P t,zW P t with
  |some c,some n,some g=>(F.loadL n c).bind (mkAV g)
  |_,_,_=>none
def QS (P:Program)(F:Fr):List ResultVar->Option (List (Bool×List Cell)×Fr)
 |[]=>some ([],F)
 |x::rest=>match resV P F x with
  |some v=>match v.tag,v.cells with
   |.tup _,_=>none
   |t,some l=>match resL F l with
    |some (b,F')=>match QS P F' rest with
     |some (vs,a)=>some (((match t with|.agg=>true|_=>false),b)::vs,a)
     |none=>none
    |none=>none
   |_,none=>none
  |none=>none
def qjr:List (Bool×List Cell)->Option AV
 |[(g,l)]=>mkAV g l
 |vs=>some ⟨.tup (vs.map (·.1)),vs.map (·.2)⟩
def qcR:Root->Option Root
 |.par i=>some (.par i)
 |_=>none
def zD (F:Fr)(n:Nat):Option (List (List Cell)):=mapO (λi=>(F.boxes.lookup (.par i)).bind (mapO (renC qcR))) (List.range n)
def qd:Nat->List (List Cell)->List (Root×List Cell)
 |_,[]=>[]
 |i,l::rest=>(.par i,l)::qd (i+1) rest
section
structure Hd where
 b:Nat
 sz:Nat
 len:Nat
 cap:Nat
 isMap:Bool
def Hd.val (h:Hd):Value:=if h.isMap then .map (some h.b)else .slice (some ⟨h.b,0,none⟩) h.len h.cap
def Hd.adr (h:Hd)(r o:Nat):Value:=if h.isMap then h.val else .pointer (some ⟨h.b,r*h.sz+o,none⟩)
theorem Hd.adr_of {h:Hd}(e:h.isMap=false)(r o):h.adr r o=.pointer (some ⟨h.b,r*h.sz+o,none⟩):=by simp[Hd.adr,e]
structure Gh where
 γ:Key->Option Hd
 im:Nat->Prop
 lv:Nat->Prop      -- the boxes of the call's own that are there
def Gh.ok (G:Gh):Root->Prop
 |.loc d=>G.lv d
 |_=>True
inductive RelI (im:Nat->Prop) (w:World):Cell->Value->Prop
 |val (v:Value) (h:oneC v=true):RelI im w (.val v) v
 |nil:RelI im w .nil (.slice none 0 0)
 |immE (a:Option Addr) (cap:Nat):RelI im w (.imm []) (.slice a 0 cap)
 | imm (rows:List (List Cell)) (b off cap sz:Nat) (vs:Array Value) (T:TypeId) (fr:Nat×Nat) (us:Nat->Nat->Value)
   (hb:w.heap[b]? = some (.cells vs T fr)) (hi:im b) (hcap:rows.length<=cap) (hsz:∀ row∈rows,row.length=sz)
   (hv:∀ r o c,cellAt rows r o=some c->vs[off+r*sz+o]? = some (us r o))
   (hr:∀ r o c,cellAt rows r o=some c->RelI im w c (us r o)):RelI im w (.imm rows) (.slice (some ⟨b,off,none⟩) rows.length cap)
 |dead (v:Value) (h:oneC v=true):RelI im w .dead v
theorem RelI.mono {im im' w w'}(e:∀ b,im b->im' b)(l:∀ b,im b->w'.heap[b]? = w.heap[b]?){c v}(h:RelI im w c v):RelI im' w' c v:=by
 induction h with
 |val v h=>exact .val v h
 |nil=>exact .nil
 |immE a cap=>exact .immE a cap
 |imm rows b f cap sz vs T fr us m i d g j _ k=>exact .imm rows b f cap sz vs T fr us (by grind) (e b i) d g j k
 |dead v h=>exact .dead v h
theorem RelI.one {im w c v}(h:RelI im w c v):oneC v=true:=by cases h<;>first|rfl|omega
def RelX (G:Gh):Cell->Value->Prop
 |.val u,v=>v=u/\oneC u=true
 |.ptr q,v=>G.ok q.key.root/\q.key.path=[]/\∃ h,G.γ q.key=some h/\h.isMap=false/\v=.pointer (some ⟨h.b,q.r*h.sz+q.o,none⟩)
 |_,_=>False
def qY (G:Gh):List Cell->List Value->Prop
 |[],[]=>True
 |c::l,v::vs=>RelX G c v/\qY G l vs
 |_,_=>False
def ZQ (im:Nat->Prop)(w:World)(l:List Cell)(v:Value):Prop:=(if l.length=1 then oneC v=true else ∃ cs,v=.agg cs)/\v.cells.size=l.length/\∀ (o:Nat) c,l[o]? = some c->∃ u,v.cells[o]? = some u/\RelI im w c u
def ZB (im:Nat->Prop)(w:World):List (Value×List Cell)->List MapEntry->Prop
 |[],[]=>True
 |(k,l)::b,e::a=>e.key=k/\ZQ im w l e.val/\ZB im w b a
 |_,_=>False
def Sh (G:Gh)(w:World)(p:Pl)(c:Cell)(v:Value):Prop:=match c with
 |.val u=>v=u/\oneC u=true
 |.nil=>v=.slice none 0 0
 |.imm rows=>RelI G.im w (.imm rows) v
 |.own d rows=>(G.γ p.toKey=none/\rows=[]/\v=.slice none 0 0)\/∃ h,G.γ p.toKey=some h/\h.isMap=false/\v=h.val/\h.len=rows.length/\h.sz=d
 |.mp e=>∃ h a clock,G.γ p.toKey=some h/\h.isMap=true/\v=h.val/\¬ G.im h.b/\w.heap[h.b]? = some (.map a clock)/\ZB G.im w e a.toList
 |.mpb _=>False
 |.ptr q=>G.ok q.key.root/\∃ h,G.γ q.key=some h/\(h.isMap=true->q.isM=true)/\v=h.adr q.r q.o
 | .cptr row o=>∃ b base vs T fr,G.im b/\v=.pointer (some ⟨b,base+o,none⟩)/\w.heap[b]? = some (.cells vs T fr) /\
   ∀ (j:Nat) c,row[j]? = some c->∃ u,vs[base+j]? = some u/\RelI G.im w c u
 |.ref q=>G.ok q.key.root/\((G.γ q.toKey=none/\v=.slice none 0 0)\/∃ h,G.γ q.toKey=some h/\v=h.val)
 |.clo f fs cs=>∃ vs us,v=.func (.func f) vs us/\qY G fs vs.toList/\qY G cs us.toList
 |.dead=>oneC v=true
def RelC (G:Gh)(w:World)(k:Key)(rows:List (List Cell)):Prop:=
 ∃ h vs T,G.γ k=some h/\h.isMap=false/\¬ G.im h.b/\w.heap[h.b]? = some (.cells vs T (0,0)) /\
  (∀ row∈rows,row.length=h.sz)/\rows.length*h.sz<=vs.size/\rows.length<=h.cap/\(k.path≠[]->vs.size=h.cap*h.sz/\∀ r o c,cellAt rows r o=some c->qw c=true) /\
  ∀ r o c,cellAt rows r o=some c->∃ u,vs[r*h.sz+o]? = some u/\Sh G w ⟨k,r,o⟩ c u
def RelM (G:Gh)(w:World)(k:Key)(rows:List (List Cell)):Prop:=∃ h b a clock,rows=[[.mpb b]]/\k.path=[]/\G.γ k=some h/\h.isMap=true/\¬ G.im h.b/\w.heap[h.b]? = some (.map a clock)/\ZB G.im w b a.toList
def qU (G:Gh)(w:World)(k:Key)(rows:List (List Cell)):Prop:=((G.γ k=none/\rows=[]/\k.path≠[])\/RelM G w k rows)\/RelC G w k rows
theorem qU.of_cell {G w k rows}(h:qU G w k rows){r o c}(e:cellAt rows r o=some c)(b:∀ a,c≠.mpb a):RelC G w k rows:=by
 rcases h with(⟨_,rfl,_⟩|⟨_,a,_,_,rfl,_⟩)|h
 . simp[cellAt]at e
 .
  obtain⟨l,d,f⟩:∃ l,[[Cell.mpb a]][r]? = some l/\l[o]? = some c:=by
   unfold cellAt at e
   grind
  grind
 omega
theorem qU.of_hd {G w k rows}(h:qU G w k rows){x}(e:G.γ k=some x)(a:x.isMap=false):RelC G w k rows:=by
 rcases h with(⟨h,_⟩|⟨y,_,_,_,_,_,h,b,_⟩)|h
 . grind
 . grind
 omega
theorem qU.arr {G w k rows}(h:qU G w k rows)(a:k.path≠[]):(G.γ k=none/\rows=[]/\k.path≠[])\/RelC G w k rows:=by
 rcases h with(h|⟨_,_,_,_,_,h,_⟩)|h
 . grind
 . grind
 grind
theorem qU.pure {G w k rows}(h:qU G w k rows)(a:k.path≠[]){r o c}(e:cellAt rows r o=some c):qw c=true:=by
 rcases h with(⟨_,rfl,_⟩|⟨_,_,_,_,_,h,_⟩)|h
 . simp[cellAt]at e
 . grind
 . obtain⟨_,_,_,_,_,_,_,_,_,_,b,_⟩:=h
   grind
def QO:Tag->List Nat->Value->Prop
 |.one,[1],_=>True
 |.agg,[n],V=>∃ vs,V=.agg vs/\vs.size=n
 | .tup b,a,V=>∃ Vs,V=.tuple Vs/\b.length=a.length/\Vs.size=a.length /\
   ∀ (i:Nat) g n,b[i]? = some g->a[i]? = some n->∃ U,Vs[i]? = some U/\if g then ∃ vs,U=.agg vs/\vs.size=n else n=1
 |_,_,_=>False
def qX:Tag->Value->Nat->Nat->Option Value
 |.one,V,0,0=>some V
 |.agg,.agg vs,0,o=>vs[o]?
 |.tup a,.tuple Vs,r,o=>match a[r]?,Vs[r]? with
  |some true,some (.agg vs)=>vs[o]?
  |some false,some U=>if o=0 then some U else none
  |_,_=>none
 |_,_,_,_=>none
def YY (G:Gh)(w:World)(k:Key)(v:AV)(V:Value):Prop:=QO v.tag (v.rows.map List.length) V/\∀ r o c,cellAt v.rows r o=some c->∃ u,qX v.tag V r o=some u/\(c=.dead\/Sh G w ⟨k,r,o⟩ c u)
def Key.inHeap (k:Key):Prop:=k.path≠[]\/k.root.boxed=true
theorem qcn {k:Key}:k.heap=true↔k.inHeap:=by
 unfold Key.heap Key.inHeap
 grind
class Glob where
 n:Nat
 H:Nat->Option Obj
variable [Glob]
structure GInv (G:Gh) (w:World):Prop where
 inj:∀ k k' h h',G.γ k=some h->G.γ k'=some h'->h.b=h'.b->k=k'
 lt:∀ k h,G.γ k=some h->h.b<w.heap.size
 imlt:∀ b,G.im b->b<w.heap.size
 glob:∀ b,b<Glob.n->G.im b/\w.heap[b]? = Glob.H b
structure RelF (G:Gh) (w:World) (F:Fr) (ts:Array Value):Prop where
 inv:GInv G w
 size:F.slots.length=ts.size
 slots:∀ k v,F.slots[k]? = some v->∃ V,ts[k]? = some V/\YY G w ⟨.slot k,[]⟩ v V
 boxes:∀ r l,F.boxes.lookup r=some l->r.boxed=true/\G.ok r
 live:∀ d,G.lv d->(F.boxes.lookup (.loc d)).isSome=true
 cont:∀ k rows,F.rowsAt k=some rows->k.inHeap->qU G w k rows
def Out (w w':World):Prop:=w'.os=w.os/\w'.output=w.output
theorem Out.refl (w):Out w w:=⟨rfl,rfl⟩
theorem Out.trans {w w1 a}(b:Out w w1)(c:Out w1 a):Out w a:=⟨c.1.trans b.1,c.2.trans b.2⟩
structure Gain (G:Gh) (w:World) (G':Gh) (w':World):Prop where
 size:w.heap.size<=w'.heap.size
 im:∀ b,G.im b->G'.im b
 keep:∀ b,G.im b->w'.heap[b]? = w.heap[b]?
 rest:∀ b,b<w.heap.size->(∀ k h,G.γ k=some h->h.b≠b)->w'.heap[b]? = w.heap[b]?/\(G'.im b->G.im b)
 own:∀ k h,G'.γ k=some h->(∃ k0 h0,G.γ k0=some h0/\h0.b=h.b)\/w.heap.size<=h.b
 par:∀ i,G'.γ ⟨.par i,[]⟩=G.γ ⟨.par i,[]⟩
 out:Out w w'
 loc:∀ d,G.lv d->G'.lv d/\G'.γ ⟨.loc d,[]⟩=G.γ ⟨.loc d,[]⟩
structure zS (G:Gh) (w:World) (G':Gh) (w':World):Prop where
 size:w.heap.size<=w'.heap.size
 im:∀ b,G.im b->G'.im b
 keep:∀ b,G.im b->w'.heap[b]? = w.heap[b]?
 rest:∀ b,b<w.heap.size->(∀ k h,G.γ k=some h->h.b≠b)->w'.heap[b]? = w.heap[b]?/\(G'.im b->G.im b)
 own:∀ k h,G'.γ k=some h->(∃ k0 h0,G.γ k0=some h0/\h0.b=h.b)\/w.heap.size<=h.b
 par:∀ i,G'.γ ⟨.par i,[]⟩=G.γ ⟨.par i,[]⟩
 out:Out w w'
theorem Gain.w {G w G' w'}(h:Gain G w G' w'):zS G w G' w':=⟨h.size,h.im,h.keep,h.rest,h.own,h.par,h.out⟩
theorem zS.full {G w G' w'}(h:zS G w G' w')(a:∀ d,¬ G.lv d):Gain G w G' w':=⟨h.size,h.im,h.keep,h.rest,h.own,h.par,h.out,λd hd=>absurd hd (a d)⟩
theorem Gain.refl (G)(w):Gain G w G w:=⟨Nat.le_refl _,λ_ h=>h,λ_ _=>rfl,λ_ _ _=>⟨rfl,λh=>h⟩,λk h e=>.inl ⟨k,h,e,rfl⟩,λ_=>rfl,.refl w,λ_ h=>⟨h,rfl⟩⟩
theorem zS.trans {G f m w w1 n}(a:zS G w f w1)(c:zS f w1 m n):zS G w m n where
 size:=Nat.le_trans a.size c.size
 im b h:=c.im b (a.im b h)
 keep b h:=by rw[c.keep b (a.im b h),a.keep b h]
 rest b o p:=by
  have g:∀ k h,f.γ k=some h->h.b≠b:=by
   intro k h e q;rcases a.own k h e with⟨r,s,t,j⟩|d
   . grind
   . omega
  have x:=a.rest b o p;have r2:=c.rest b (Nat.lt_of_lt_of_le o a.size) g
  grind
 own k h e:=by
  rcases c.own k h e with⟨k1,l,u,v⟩|d
  . rcases a.own k1 l u with⟨r,s,t,j⟩|d
    . grind
    omega
  . exact .inr (Nat.le_trans a.size d)
 par i:=by rw[c.par i,a.par i]
 out:=a.out.trans c.out
theorem Gain.trans {G j o w w1 p}(c:Gain G w j w1)(f:Gain j w1 o p):Gain G w o p where
 size:=Nat.le_trans c.size f.size
 im b h:=f.im b (c.im b h)
 keep b h:=by rw[f.keep b (c.im b h),c.keep b h]
 rest b q r:=by
  have l:∀ k h,j.γ k=some h->h.b≠b:=by
   intro k h e s;rcases c.own k h e with⟨t,u,v,m⟩|g
   . grind
   . omega
  have z:=c.rest b q r;have r2:=f.rest b (Nat.lt_of_lt_of_le q c.size) l
  grind
 own k h e:=by
  rcases f.own k h e with⟨k1,n,x,y⟩|g
  . rcases c.own k1 n x with⟨t,u,v,m⟩|g
    . grind
    omega
  . exact .inr (Nat.le_trans c.size g)
 par i:=by rw[f.par i,c.par i]
 out:=c.out.trans f.out
 loc d h:=let a:=c.loc d h;let b:=f.loc d a.1;⟨b.1,b.2.trans a.2⟩
structure Same (G:Gh) (w w':World):Prop where
 size:w.heap.size<=w'.heap.size
 im:∀ b,G.im b->w'.heap[b]? = w.heap[b]?
 γ:∀ k h,G.γ k=some h->w'.heap[h.b]? = w.heap[h.b]?
structure qjb (G:Gh) (w w':World):Prop where
 im:∀ b,G.im b->w'.heap[b]? = w.heap[b]?
 mp:∀ k h es c,G.γ k=some h->w.heap[h.b]? = some (.map es c)->w'.heap[h.b]? = w.heap[h.b]?
theorem Same.m {G w w'}(h:Same G w w'):qjb G w w':=⟨h.im,λk x _ _ e _=>h.γ k x e⟩
theorem ZQ.mono {im im' w w'}(a:∀ b,im b->im' b)(d:∀ b,im b->w'.heap[b]? = w.heap[b]?){l v}(h:ZQ im w l v):ZQ im' w' l v:=⟨h.1,h.2.1,λo c e=>let ⟨u,f,g⟩:=h.2.2 o c e;⟨u,f,g.mono a d⟩⟩
theorem ZB.mono {im im' w w'}(c:∀ b,im b->im' b)(d:∀ b,im b->w'.heap[b]? = w.heap[b]?):
  ∀ {e:List (Value×List Cell)} {a:List MapEntry},ZB im w e a->ZB im' w' e a
 |[],[],_=>trivial
 |(_,_)::_,_::_,⟨f,g,i⟩=>⟨f,g.mono c d,ZB.mono c d i⟩
 |[],_::_,h=>h.elim
 |_::_,[],h=>h.elim
theorem Sh.same {G w w'}(a:qjb G w w'){p c v}(h:Sh G w p c v):Sh G w' p c v:=by
 cases c with
 |imm rows=>exact RelI.mono (λ_ h=>h) a.im h
 |mp r=>obtain⟨h,d,clock,f,g,i,k,l,m⟩:=h;exact⟨h,d,clock,f,g,i,k,by rw[a.mp _ _ _ _ f l];exact l,m.mono (λ_ h=>h) a.im⟩
 |cptr row o=>obtain⟨b,base,vs,T,fr,f,g,i,k⟩:=h;exact⟨b,base,vs,T,fr,f,g,by rw[a.im _ f];exact i,λj c e=>let ⟨u,n,q⟩:=k j c e;⟨u,n,q.mono (λ_ h=>h) a.im⟩⟩
 |_=>exact h
theorem RelC.same {G w w'}(a:Same G w w'){k rows}(h:RelC G w k rows):RelC G w' k rows:=by obtain⟨h,vs,T,b,d,f,g,i,j,l,m,n⟩:=h;exact⟨h,vs,T,b,d,f,by rw[a.γ _ _ b];exact g,i,j,l,m,λr o c e=>let ⟨u,p,q⟩:=n r o c e;⟨u,p,q.same a.m⟩⟩
theorem RelM.same {G w w'}(b:qjb G w w'){k rows}(h:RelM G w k rows):RelM G w' k rows:=by obtain⟨h,e,a,clock,f,g,c,i,j,d,l⟩:=h;exact⟨h,e,a,clock,f,g,c,i,j,by rw[b.mp _ _ _ _ c d];exact d,l.mono (λ_ h=>h) b.im⟩
theorem qU.same {G w w'}(a:Same G w w'){k rows}(h:qU G w k rows):qU G w' k rows:=h.imp (Or.imp (λh=>h) (RelM.same a.m)) (RelC.same a)
theorem YY.map {G G' w w' k a v V}(h:YY G w k v V)(b:∀ r o c u,cellAt v.rows r o=some c->Sh G w ⟨k,r,o⟩ c u->Sh G' w' ⟨a,r,o⟩ c u):YY G' w' a v V:=⟨h.1,λr o c e=>let ⟨u,d,f⟩:=h.2 r o c e;⟨u,d,f.imp (λh=>h) (b r o c u e)⟩⟩
theorem RelF.same {G w w' F ts}(h:RelF G w F ts)(a:Same G w w'):RelF G w' F ts where
 inv:=⟨h.inv.inj,λk x e=>Nat.lt_of_lt_of_le (h.inv.lt k x e) a.size,λb e=>Nat.lt_of_lt_of_le (h.inv.imlt b e) a.size,λb c=>⟨(h.inv.glob b c).1,(a.im b (h.inv.glob b c).1).trans (h.inv.glob b c).2⟩⟩
 size:=h.size
 slots k v e:=let ⟨V,d,f⟩:=h.slots k v e;⟨V,d,f.map λ_ _ _ _ _ h=>h.same a.m⟩
 boxes:=h.boxes
 live:=h.live
 cont k rows e i:=(h.cont k rows e i).same a
theorem Hd.val_one (h:Hd):oneC h.val=true:=by unfold Hd.val;split<;>rfl
theorem Hd.adr_one (h:Hd)(r o):oneC (h.adr r o)=true:=by
 unfold Hd.adr;split
 . exact h.val_one
 . rfl
theorem Sh.one {G w p c v}(h:Sh G w p c v):oneC v=true:=by
 cases c with
 |val u=>obtain⟨rfl,h⟩:=h;exact h
 |nil=>cases h;rfl
 |imm rows=>exact RelI.one h
 |own b rows=>
  rcases h with⟨_,_,rfl⟩|⟨x,_,_,rfl,_⟩
  . rfl
  . exact x.val_one
 |mp a=>obtain⟨x,_,_,_,_,rfl,_⟩:=h;exact x.val_one
 |mpb a=>exact h.elim
 |ptr q=>obtain⟨_,x,_,_,rfl⟩:=h;exact x.adr_one _ _
 |cptr row o=>obtain⟨_,_,_,_,_,_,rfl,_⟩:=h;rfl
 |ref q=>
  rcases h with⟨_,⟨_,rfl⟩|⟨x,_,rfl⟩⟩
  . rfl
  . exact x.val_one
 |clo f fs cs=>obtain⟨_,_,rfl,_⟩:=h;rfl
 |dead=>exact h
end
section
variable [Glob]
theorem qc {rows r o c}:cellAt rows r o=some c↔∃ row,rows[r]? = some row/\row[o]? = some c:=by unfold cellAt;cases rows[r]?<;>simp
theorem Yp (rows r o)(c):(setRow rows r o c).map List.length=rows.map List.length:=by
 apply List.ext_getElem?;intro i;simp only[setRow,aH,List.getElem?_set]
 grind
theorem qO {rows r o c b}(h:cellAt rows r o=some b)(r' a):
  cellAt (setRow rows r o c) r' a=if r'=r/\a=o then some c else cellAt rows r' a:=by
 obtain⟨row,d,e⟩:=qc.1 h;obtain⟨f,rfl⟩:=az.1 d;obtain⟨g,_⟩:=az.1 e;unfold cellAt setRow
 grind
def Shp (c b:Cell):Prop:=c=b\/∃ d rows a,c=.own d rows/\b=.own d a/\rows.map List.length=a.map List.length
structure Like (ex:Option (Nat×Nat)) (a b:List (List Cell)):Prop where
 len:a.map List.length=b.map List.length
 cell:∀ r o c',cellAt b r o=some c'->ex≠some (r,o)->∃ c,cellAt a r o=some c/\Shp c c'
theorem Like.refl (a):Like none a a:=⟨rfl,λ_ _ b h _=>⟨b,h,.inl rfl⟩⟩
def subR (c:Cell)(rest:List (Nat×Nat)):Option (List (List Cell)):=match c with|.own _ a=>getR a rest|_=>none
theorem qe2 (c)(r o):∀ (π:List (Nat×Nat)) (rows d:List (List Cell)),updR (putAt r o c) rows π=some d ->
    (∃ a b,getR rows π=some a/\getR d π=some b/\b=setRow a r o c/\(∃ w,cellAt a r o=some w))/\rows.map List.length=d.map List.length /\
    ∀ f,(∃ rest,f=π++(r,o)::rest/\getR d f=subR c rest) \/
      (¬ (π++[(r,o)]) <+: f/\((getR rows f=none/\getR d f=none) \/
        ∃ a b,getR rows f=some a/\getR d f=some b/\Like (if f=π then some (r,o)else none) a b)):=by
  intro π
  induction π with
  | nil=>
    intro rows d h;simp only[updR,putAt]at h;cases g:cellAt rows r o with
    |none=>grind
    | some w=>
      simp only[g,aa]at h;subst h;refine⟨⟨rows,_,rfl,rfl,rfl,w,g⟩,(Yp rows r o c).symm,λf=>?_⟩;cases f with
      |nil=>right;refine⟨by simp,.inr ⟨rows,_,rfl,rfl,(Yp rows r o c).symm,λr' i l h j=>?_⟩⟩;rw[qO g]at h;simp only[if_true,ne_eq,aa,ai]at j;rw[aF (λe=>j ⟨e.1.symm,e.2.symm⟩)]at h;exact⟨l,h,.inl rfl⟩
      | cons x rest=>
        obtain⟨r',i⟩:=x;by_cases k:r'=r/\i=o
        . obtain⟨rfl,rfl⟩:=k;left;refine⟨rest,by simp,?_⟩;simp only[getR,qO g,and_self,if_true];cases c<;>rfl
        . right;refine⟨?_,?_⟩
          . grind
          . simp only[getR,qO g,aF k];cases C:cellAt rows r' i with
            |none=>grind
            | some l=>
              cases l<;>first
                |exact .inl ⟨rfl,rfl⟩
                |(rename_i s
                  simp only;cases t:getR s rest with
                  |none=>grind
                  |some a=>exact .inr ⟨a,a,rfl,rfl,by simpa using Like.refl a⟩)
  | cons x π D=>
    obtain⟨p,q⟩:=x;intro rows d h;simp only[updR]at h;cases g:cellAt rows p q with
    |none=>grind
    | some c1=>
      cases c1<;>simp only[g]at h<;>try (exact absurd h (by simp))
      rename_i s;cases B:updR (putAt r o c) s π with
      |none=>grind
      | some u=>
        simp only[B,aa]at h;subst h;obtain⟨⟨a,b,E,F,G,z⟩,v,m⟩:=D s u B;refine⟨⟨a,b,by simp[getR,g,E],by simp[getR,qO g,F],G,z⟩,(Yp rows p q _).symm,λf=>?_⟩;cases f with
        | nil=>
          right;refine⟨by simp,.inr ⟨rows,_,rfl,rfl,(Yp rows p q _).symm,λr' i l h _=>?_⟩⟩;rw[qO g]at h;by_cases k:r'=p/\i=q
          . obtain⟨rfl,rfl⟩:=k;simp only[and_self,if_true,aa]at h;subst h;exact⟨_,g,.inr ⟨_,s,u,rfl,rfl,v⟩⟩
          . rw[aF k]at h;exact⟨l,h,.inl rfl⟩
        | cons y rest=>
          obtain⟨r',i⟩:=y;by_cases k:r'=p/\i=q
          . obtain⟨rfl,rfl⟩:=k;rcases m rest with⟨n,e,t⟩|⟨H,t⟩
            . left;refine⟨n,by grind,?_⟩;simp only[getR,qO g,and_self,if_true];exact t
            . right;refine⟨by grind,?_⟩;simp only[getR,qO g,g,and_self,if_true,List.cons.injEq,true_and];exact t
          . right;refine⟨?_,?_⟩
            . grind
            . simp only[getR,qO g,aF k];have j:¬ ((r',i)::rest=(p,q)::π):=by
                grind
              simp only[j,if_false];cases C:cellAt rows r' i with
              |none=>grind
              | some l=>
                cases l<;>first
                  |exact .inl ⟨rfl,rfl⟩
                  |(rename_i A
                    simp only;cases t:getR A rest with
                    |none=>grind
                    |some a=>exact .inr ⟨a,a,rfl,rfl,Like.refl a⟩)
def Pl.under (p:Pl)(rest:List (Nat×Nat)):Key:=⟨p.key.root,p.key.path++(p.r,p.o)::rest⟩
theorem Pl.under_nil (p:Pl):p.under []=p.toKey:=rfl
theorem Pl.under_inHeap (p:Pl)(rest):(p.under rest).inHeap:=.inl (by simp[Pl.under])
theorem yu (r r' l)(a):
  (YQ r l a).lookup r'=if r'=r then(if (a.lookup r).isSome then some l else none)else a.lookup r':=by
 induction a with
 |nil=>simp[YQ]
 |cons x a b=>
  obtain⟨c,d⟩:=x;simp only[YQ]
  grind
theorem Fr.rows_ns (F:Fr){r}(a:∀ k,r≠.slot k):F.rows r=(F.boxes.lookup r).map λl=>[l]:=by cases r<;>first|exact absurd rfl (a _)|rfl
theorem Fr.setRows_ns (F:Fr){r}(a:∀ k,r≠.slot k)(rows):F.setRows r rows={ F with boxes:=YQ r (rows.headD []) F.boxes }:=by cases r<;>first|exact absurd rfl (a _)|rfl
theorem qkH {α:Type}{l a}{f:α->Nat}(c:[l].map f=a.map f):∃ b,a=[b]:=by
 match a,c with
 |[],h=>grind
 |[b],_=>grind
 |_::_::_,h=>grind
theorem qao {F:Fr}{r rows b}(h:F.rows r=some rows)(i:rows.map List.length=b.map List.length)(r'):
  (F.setRows r b).rows r'=if r'=r then some b else F.rows r':=by
 by_cases f:∃ k,r=.slot k
 .
  obtain⟨k,rfl⟩:=f;simp only[Fr.rows]at h;cases j:F.slots[k]? with
  |none=>grind
  |some v=>
   simp only[Fr.setRows,j];by_cases c:∃ k,r'=.slot k
   . obtain⟨g,rfl⟩:=c;simp only[Fr.rows,List.getElem?_set,Root.slot.injEq]
     grind
   . have a:∀ k,r'≠.slot k:=λk e=>c ⟨k,e⟩;rw[Fr.rows_ns _ a,Fr.rows_ns _ a,aF (a k)]
 .
  have a:∀ k,r≠.slot k:=λk e=>f ⟨k,e⟩;rw[Fr.setRows_ns _ a];rw[Fr.rows_ns _ a]at h;by_cases c:∃ k,r'=.slot k
  . obtain⟨g,rfl⟩:=c;rw[aF (λe=>a g e.symm)];rfl
  .
   have d:∀ k,r'≠.slot k:=λk e=>c ⟨k,e⟩;rw[Fr.rows_ns _ d,Fr.rows_ns _ d];simp only[yu];by_cases e:r'=r
   . subst e;cases m:F.boxes.lookup r' with
     |none=>grind
     |some l=>simp only[m,av,aa]at h;subst h;obtain⟨n,rfl⟩:=qkH i;simp
   grind
theorem qdg (F:Fr)(r a)(k:Nat):((F.setRows r a).slots[k]?).map AV.tag=(F.slots[k]?).map AV.tag:=by
 by_cases b:∃ k,r=.slot k
 . obtain⟨j,rfl⟩:=b;simp only[Fr.setRows]
   grind
 . rw[Fr.setRows_ns _ (λk e=>b ⟨k,e⟩)]
structure qau (F F':Fr) (p:Pl) (c:Cell):Prop where
 old:∃ c0,F.get p=some c0
 new:F'.get p=some c
 under:∀ rest,F'.rowsAt (p.under rest)=subR c rest
 other:∀ k,(∀ rest,k≠p.under rest)->(F.rowsAt k=none/\F'.rowsAt k=none) \/
  ∃ a b,F.rowsAt k=some a/\F'.rowsAt k=some b/\Like (if k=p.key then some (p.r,p.o)else none) a b
 len:F'.slots.length=F.slots.length
 tags:∀ k:Nat,(F'.slots[k]?).map AV.tag=(F.slots[k]?).map AV.tag
 boxes:∀ r,(F'.boxes.lookup r).isSome=(F.boxes.lookup r).isSome
theorem Fr.setTo {F F' p c}(h:F.set p c=some F'):qau F F' p c:=by
 unfold Fr.set at h;cases o:F.rows p.key.root with
 |none=>grind
 |some rows=>
  simp only[o]at h;cases t:updR (putAt p.r p.o c) rows p.key.path with
  |none=>grind
  |some d=>
   simp only[t,aa]at h;subst h;obtain⟨⟨a,b,w,x,y,z,l⟩,m,f⟩:=qe2 c p.r p.o _ _ _ t;have i:=qao o m;have j:∀ k,(F.setRows p.key.root d).rowsAt k=if k.root=p.key.root then getR d k.path else F.rowsAt k:=by intro k;simp only[Fr.rowsAt,i];split<;>simp
   have g:∀ k,k.root=p.key.root->F.rowsAt k=getR rows k.path:=by intro k e;simp[Fr.rowsAt,e,o]
   refine⟨⟨z,?_⟩,?_,λrest=>?_,λk A=>?_,?_,qdg F _ _,?_⟩
   . simp[Fr.get,g p.key rfl,w,l]
   . simp[Fr.get,j p.key,x,y,qO l]
   . rw[j];simp only[Pl.under,if_true];rcases f (p.key.path++(p.r,p.o)::rest)with⟨q,e,u⟩|⟨B,_⟩
     . simp_all
     simp_all
   .
    rw[j];by_cases e:k.root=p.key.root
    . simp only[e,if_true];rw[g k e];rcases f k.path with⟨rest,v,u⟩|⟨B,u⟩
      . exact absurd (by cases k;simp_all[Pl.under]) (A rest)
      . have:(k=p.key)=(k.path=p.key.path):=by cases k;cases D:p.key;simp_all
        grind
    . simp only[e,if_false];have s:¬ k=p.key:=λv=>e (by rw[v]);cases C:F.rowsAt k with
      |none=>grind
      |some a=>exact .inr ⟨a,a,rfl,rfl,by simpa [s]using Like.refl a⟩
   . by_cases n:∃ k,p.key.root=.slot k
     . obtain⟨k,e⟩:=n;rw[e];simp only[Fr.setRows];split<;>simp
     . rw[Fr.setRows_ns _ (λk e=>n ⟨k,e⟩)]
   .
    intro r;by_cases n:∃ k,p.key.root=.slot k
    . obtain⟨k,e⟩:=n;rw[e];simp only[Fr.setRows];split<;>rfl
    . rw[Fr.setRows_ns _ (λk e=>n ⟨k,e⟩)];simp only[yu];split
      . grind
      . rfl
end
section
variable [Glob]
theorem Shp.pure {c d}(h:Shp c d)(f:qw c=true):qw d=true:=by
 rcases h with h|⟨z,a,b,g,e,i⟩
 . grind
 . rw[e];rfl
theorem Sh.shp {G w p c d v}(e:Shp c d)(h:Sh G w p c v):Sh G w p d v:=by
 rcases e with e|⟨z,a,b,f,g,i⟩
 . grind
 .
  subst f;subst g;rcases h with⟨j,k,l⟩|⟨hd,m,n,o,r,q⟩
  . subst k;exact .inl ⟨j,by simp_all,l⟩
  exact .inr ⟨hd,m,n,o,by have:=congrArg List.length i;grind,q⟩
def Tree (G:Gh)(w:World)(p:Pl)(c:Cell):Prop:=∀ rest rows,subR c rest=some rows->qU G w (p.under rest) rows
theorem Tree.flat {G w p c}(h:∀ a rows,c≠.own a rows):Tree G w p c:=by intro rest rows e;cases c<;>first|exact absurd rfl (h _ _)|simp[subR]at e
def Val (G:Gh)(w:World)(F:Fr)(ts:Array Value)(p:Pl)(u:Value):Prop:=
 (p.key.inHeap/\∃ h vs T,G.γ p.key=some h/\w.heap[h.b]? = some (.cells vs T (0,0))/\vs[p.r*h.sz+p.o]? = some u) \/
 (¬ p.key.inHeap/\∃ k v V,p.key=⟨.slot k,[]⟩/\F.slots[k]? = some v/\ts[k]? = some V/\qX v.tag V p.r p.o=some u)
theorem Zi (k):¬ (⟨.slot k,[]⟩:Key).inHeap:=by simp[Key.inHeap,Root.boxed]
theorem RelF.rowsAt_cases {G w F ts}(h:RelF G w F ts){k rows}(e:F.rowsAt k=some rows):
  k.inHeap\/∃ j v,k=⟨.slot j,[]⟩/\F.slots[j]? = some v/\v.rows=rows:=by
 by_cases a:k.inHeap
 . grind
 .
  right;obtain⟨r,π⟩:=k;simp only[Key.inHeap,not_or,ne_eq,Decidable.not_not,Bool.not_eq_true]at a;obtain⟨rfl,b⟩:=a;simp only[Fr.rowsAt]at e;cases r with
  |slot j=>
   simp only[Fr.rows]at e;cases c:F.slots[j]? with
   |none=>grind
   |some v=>exact⟨j,v,rfl,c,by simpa [c,getR]using e⟩
  |par i=>simp[Root.boxed]at b
  |loc i=>simp[Root.boxed]at b
  |res=>
   simp only[Fr.rows]at e;cases d:F.boxes.lookup .res with
   |none=>grind
   |some l=>have:=(h.boxes _ _ d).1;grind
theorem RelF.val {G w F ts}(h:RelF G w F ts){p c}(e:F.get p=some c)(l:∀ m,c≠.mpb m:=by intro _;simp):
  ∃ u,Val G w F ts p u/\((c=.dead/\¬ p.key.inHeap)\/Sh G w p c u):=by
 unfold Fr.get at e;cases d:F.rowsAt p.key with
 |none=>grind
 |some rows=>
  simp only[d,ae]at e;rcases h.rowsAt_cases d with i|⟨k,v,f,j,a⟩
  . obtain⟨hd,vs,T,n,t,x,o,y,z,A,B,q⟩:=(h.cont _ _ d i).of_cell e l;obtain⟨u,g,hs⟩:=q _ _ _ e;exact⟨u,.inl ⟨i,hd,vs,T,n,o,g⟩,.inr hs⟩
  .
   obtain⟨V,r,b⟩:=h.slots k v j;rw[<- a]at e;obtain⟨u,g,hs⟩:=b.2 _ _ _ e;have s:¬ p.key.inHeap:=by rw[f];exact Zi k
   refine⟨u,.inr ⟨s,k,v,V,f,j,r,g⟩,?_⟩;rcases hs with hs|hs
   . grind
   . exact .inr (by rw[<- f]at hs;exact hs)
theorem Like.len_row {c a b}(h:Like c a b){n}(e:∀ row∈a,row.length=n):∀ row∈b,row.length=n:=by
 intro row d;have:row.length∈b.map List.length:=List.mem_map.2 ⟨row,d,rfl⟩;rw[<- h.len]at this
 grind
theorem Like.length {c a b}(h:Like c a b):a.length=b.length:=by
 have:=congrArg List.length h.len
 grind
theorem qAE {a r o c}(e:cellAt [[Cell.mpb a]] r o=some c):r=0/\o=0/\c=.mpb a:=by
 obtain⟨l,b,d⟩:=qc.1 e
 grind
theorem Like.mpb {a d b}(h:Like a [[Cell.mpb d]] b):∃ c,b=[[c]]/\(a≠some (0,0)->c=.mpb d):=by
 have e:=h.len
 match b,e with
 |[[c]],_=>
  refine⟨c,rfl,λf=>?_⟩;obtain⟨j,g,i⟩:=h.cell 0 0 c rfl f;obtain⟨_,_,rfl⟩:=qAE g;rcases i with rfl|⟨_,_,_,h,_⟩
  . rfl
  grind
 |[],h=>grind
 |[[]],h=>grind
 |[_::_::_],h=>grind
 |_::_::_,h=>grind
theorem qyL {a b}(e:[[Cell.mpb a]].map List.length=b.map List.length)(d:cellAt b 0 0=some (.mpb a)):b=[[.mpb a]]:=by
 match b,e with
 |[[c]],_=>simp[cellAt]at d;rw[d]
 |[],h=>grind
 |[[]],h=>grind
 |[_::_::_],h=>grind
 |_::_::_,h=>grind
theorem qBT {q a:Pl}(b:q.key.path=a.key.path)(c:q.r=a.r):q.isM=a.isM:=by simp[Pl.isM,b,c]
theorem RelF.set {G w F F' ts p c}(h:RelF G w F ts)(t:qau F F' p c)(hp:p.key.path≠[]->qw c=true)(U:∀ u,Val G w F ts p u->(c=.dead/\¬ p.key.inHeap)\/Sh G w p c u)(ht:Tree G w p c)(hm:∀ N,F.get p≠some (.mpb N)):RelF G w F' ts:=by
 refine⟨h.inv,by rw[t.len];exact h.size,λk v' O=>?_,λr l e=>?_,λd hd=>by rw[t.boxes];exact h.live d hd,λk rows e hi=>?_⟩
 .
  have I:=t.tags k;rw[O]at I;cases z:F.slots[k]? with
  |none=>grind
  |some v=>
   simp only[z,av,aa]at I;obtain⟨V,W,hsh,A⟩:=h.slots k v z;refine⟨V,W,?_⟩;rcases t.other ⟨.slot k,[]⟩ (λrest e=>by simp[Pl.under]at e)with⟨K,_⟩|⟨a,b,L,P,E⟩
   . simp[Fr.rowsAt,Fr.rows,z,getR]at K
   .
    have ea:a=v.rows:=by simpa [Fr.rowsAt,Fr.rows,z,getR]using L.symm
    have eb:b=v'.rows:=by simpa [Fr.rowsAt,Fr.rows,O,getR]using P.symm
    subst ea;subst eb;refine⟨by rw[I,<- E.len];omega,λr o q j=>?_⟩;by_cases J:(⟨.slot k,[]⟩:Key)=p.key/\r=p.r/\o=p.o
    . obtain⟨m,B,C⟩:=J;have Q:q=c:=by
       have K:=t.new;unfold Fr.get at K
       grind
      subst Q;obtain⟨s,f⟩:=t.old;unfold Fr.get at f;rw[<- m,L]at f;simp only[ae,<- B,<- C]at f;obtain⟨u,H,_⟩:=A r o s f;refine⟨u,by grind,?_⟩;have R:¬ p.key.inHeap:=by rw[<- m];exact Zi k
      have:=U u (.inr ⟨R,k,v,V,m.symm,z,W,by grind⟩);simp_all
    .
     have S:(if (⟨.slot k,[]⟩:Key)=p.key then some (p.r,p.o)else none)≠some (r,o):=by grind
     obtain⟨s,f,i⟩:=E.cell r o q j S;obtain⟨u,H,n⟩:=A r o s f;refine⟨u,by grind,?_⟩;rcases n with hd|n
     . left;rcases i with e|⟨_,x,y,X,_⟩
       . grind
       grind
     . exact .inr (n.shp i)
 .
  have:=t.boxes r;rw[e]at this;cases P:F.boxes.lookup r with
  |none=>grind
  |some l0=>exact h.boxes _ _ P
 .
  by_cases H:∃ rest,k=p.under rest
  . obtain⟨rest,rfl⟩:=H;rw[t.under]at e;exact ht rest rows e
  .
   rcases t.other k (λrest e=>H ⟨rest,e⟩)with⟨_,K⟩|⟨a,b,L,P,E⟩
   . grind
   .
    have e':b=rows:=by grind
    subst e';rcases h.cont k a L hi with(⟨g1,g2,g3⟩|⟨x,N,M,clock,rfl,g⟩)|⟨hd,vs,T,X,e2,e3,Y,e5,e6,e7,Z,e9⟩
    . subst g2;exact .inl (.inl ⟨g1,List.eq_nil_of_length_eq_zero (by simpa using E.length.symm),g3⟩)
    . obtain⟨q,rfl,j⟩:=E.mpb;have:(if k=p.key then some (p.r,p.o)else none)≠some (0,0):=by
       split
       . rename_i O;intro J;simp only[aa,ai]at J;refine hm N ?_;unfold Fr.get;rw[<- O,L,J.1,J.2];rfl
       . simp
      rw[j this];exact .inl (.inr ⟨x,N,M,clock,rfl,g⟩)
    have key:∀ r o q,cellAt b r o=some q->(k=p.key/\r=p.r/\o=p.o/\q=c)\/∃ s,cellAt a r o=some s/\Shp s q:=by
     intro r o q j;by_cases J:k=p.key/\r=p.r/\o=p.o
     . obtain⟨m,B,C⟩:=J;refine .inl ⟨m,B,C,?_⟩;have K:=t.new;unfold Fr.get at K
       grind
     . right;refine E.cell r o q j ?_
       grind
    refine .inr ⟨hd,vs,T,X,e2,e3,Y,E.len_row e5,by rw[<- E.length];exact e6,by rw[<- E.length];exact e7,
     λD=>⟨(Z D).1,λr o q j=>?_⟩,λr o q j=>?_⟩
    . rcases key r o q j with⟨m,_,_,rfl⟩|⟨s,f,i⟩
      . grind
      . exact i.pure ((Z D).2 r o s f)
    .
     rcases key r o q j with⟨m,B,C,rfl⟩|⟨s,f,i⟩
     . obtain⟨s,f⟩:=t.old;unfold Fr.get at f;rw[<- m,L]at f;simp only[ae,<- B,<- C]at f;obtain⟨u,H,_⟩:=e9 r o s f;refine⟨u,H,?_⟩;have hpe:p=⟨k,r,o⟩:=by simp_all
       have:=U u (.inl ⟨by grind,hd,vs,T,by grind,Y,by grind⟩)
       grind
     . obtain⟨u,H,n⟩:=e9 r o s f;exact⟨u,H,n.shp i⟩
theorem RelF.no_mpb {G w F ts}(h:RelF G w F ts){q y}(b:G.γ q.key=some y)(c:y.isMap=false)(d:q.key.inHeap)(f):F.get q≠some (.mpb f):=by
 intro e;unfold Fr.get at e;cases a:F.rowsAt q.key with
 |none=>grind
 |some rows=>simp only[a,ae]at e;obtain⟨_,_,_,_,_,_,_,_,_,_,_,g⟩:=(h.cont _ _ a d).of_hd b c;obtain⟨_,_,i⟩:=g _ _ _ e;exact i
theorem RelF.no_map {G w F ts}(h:RelF G w F ts){p:Pl}{y}(f:G.γ p.key=some y)(b:y.isMap=true->p.isM=true){rows row}(c:F.rowsAt p.key=some rows)(a:rows[p.r]? = some row)(d:p.key.inHeap):y.isMap=false:=by
 cases e:y.isMap with
 |false=>rfl
 |true=>
  have:=b e;simp only[Pl.isM,aC,bne_iff_ne,ne_eq]at this;rcases h.cont _ _ c d with(⟨n,_⟩|⟨_,g,_,_,rfl,_⟩)|⟨z,_,_,i,j,_⟩
  . grind
  . grind
  grind
end
section
variable [Glob]
theorem qba (π):∀ (rows:List (List Cell)) (a:List (Nat×Nat)),getR rows (π++a)=(getR rows π).bind (getR · a):=by
 induction π with
 |nil=>intro rows a;simp[getR]
 |cons x π b=>
  obtain⟨r,o⟩:=x;intro rows a;simp only[List.cons_append,getR];cases cellAt rows r o with
  |none=>rfl
  |some c=>cases c<;>first|rfl|grind
theorem qoN {F:Fr}{p c}(h:F.get p=some c)(rest):F.rowsAt (p.under rest)=subR c rest:=by
 unfold Fr.get at h;cases b:F.rowsAt p.key with
 |none=>grind
 |some rows=>
  simp only[b,ae]at h;unfold Fr.rowsAt at *;cases a:F.rows p.key.root with
  |none=>grind
  |some d=>simp only[a,ae]at b;simp only[Pl.under,a,ae,qba,b,getR,h];cases c<;>rfl
theorem Xu {p q:Pl}(h:p.toKey=q.toKey):p=q:=by obtain⟨⟨r,π⟩,a,b⟩:=p;obtain⟨⟨r',c⟩,d,e⟩:=q;simp only[Pl.toKey,Key.mk.injEq]at h;simp_all
def deps (x:Pl):Cell->List Key
 |.own _ _|.mp _=>[x.toKey]
 |.ref q=>[q.toKey]
 |.ptr q=>[q.key]
 |.clo _ fs cs=>(fs++cs).filterMap λc=>match c with|.ptr q=>some q.key|_=>none
 |_=>[]
theorem qY.ghost {G G'}(a:∀ r,G.ok r->G'.ok r):∀ {l:List Cell} {vs:List Value},
  (∀ k∈l.filterMap (λc=>match c with|.ptr q=>some q.key|_=>none),G'.γ k=G.γ k)->qY G l vs->qY G' l vs
 |[],[],_,_=>trivial
 |c::l,v::vs,d,⟨b,e⟩=>by
  refine⟨?_,qY.ghost a (λk m=>d k ?_) e⟩
  .
   cases c with
   |ptr q=>obtain⟨f,g,x,n,i,j⟩:=b;exact⟨a _ f,g,x,by grind,i,j⟩
   |val u=>exact b
   |_=>exact b.elim
  grind
 |[],_::_,_,h=>h.elim
 |_::_,[],_,h=>h.elim
theorem Sh.ghost {G G' w p n c v}(l:G'.im=G.im)(a:∀ r,G.ok r->G'.ok r)(s:p=n)(d:∀ k∈deps p c,G'.γ k=G.γ k)(h:Sh G w p c v):Sh G' w n c v:=by
 subst s;cases c with
 |val u=>exact h
 |nil=>exact h
 |imm rows=>unfold Sh;rw[l];exact h
 |own B rows=>unfold Sh;rw[d _ (by simp[deps])];exact h
 |mp t=>obtain⟨x,j,clock,i,e,g,y,z,C⟩:=h;exact⟨x,j,clock,by rw[d _ (by simp[deps])];exact i,e,g,by grind,z,by grind⟩
 |mpb t=>exact h.elim
 |ptr q=>obtain⟨A,x,i,e,g⟩:=h;exact⟨a _ A,x,by rw[d _ (by simp[deps])];exact i,e,g⟩
 |cptr row o=>obtain⟨b,base,vs,T,fr,i,e,g,y⟩:=h;exact⟨b,base,vs,T,fr,by grind,e,g,by grind⟩
 |ref q=>exact⟨a _ h.1,by rw[d _ (by simp[deps])];exact h.2⟩
 |clo f fs cs=>obtain⟨vs,us,i,e,g⟩:=h;simp only[deps,List.filterMap_append,List.mem_append]at d;exact⟨vs,us,i,e.ghost a (λk m=>d k (.inl m)),g.ghost a (λk m=>d k (.inr m))⟩
 |dead=>exact h
def Uses (F:Fr)(k:Key):Prop:=((F.rowsAt k).isSome=true/\k.inHeap)\/∃ x c,F.get x=some c/\k∈deps x c
theorem qz {F:Fr}{k rows r o c}(h:F.rowsAt k=some rows)(a:cellAt rows r o=some c):F.get ⟨k,r,o⟩=some c:=by simp[Fr.get,h,a]
theorem zR {F:Fr}{k v}(h:F.slots[k]? = some v):F.rowsAt ⟨.slot k,[]⟩=some v.rows:=by simp[Fr.rowsAt,Fr.rows,h,getR]
theorem RelF.ghost {G G' w F ts}(h:RelF G w F ts)(inv:GInv G' w)(a:G'.im=G.im)(y:G'.lv=G.lv)(b:∀ k,Uses F k->G'.γ k=G.γ k):RelF G' w F ts where
 inv:=inv
 size:=h.size
 slots k v e:=by obtain⟨V,z,j⟩:=h.slots k v e;refine⟨V,z,j.map λr o c u g m=>m.ghost a (λr j=>by cases r<;>simp_all[Gh.ok]) rfl λn p=>b n (.inr ⟨⟨⟨.slot k,[]⟩,r,o⟩,c,?_,p⟩)⟩;exact qz (zR e) g
 boxes r l e:=⟨(h.boxes r l e).1,by have:=(h.boxes r l e).2;cases r<;>simp_all[Gh.ok]⟩
 live d hd:=h.live d (by grind)
 cont k rows e i:=by
  rcases h.cont k rows e i with(⟨q,s,t⟩|⟨x,A,f,clock,B,q,s,t,O,C,P⟩)|⟨hd,vs,T,D,E,Q,H,I,J,K,L,M⟩
  . exact .inl (.inl ⟨by rw[b k (.inl ⟨by grind,i⟩)];exact q,s,t⟩)
  . exact .inl (.inr ⟨x,A,f,clock,B,q,by rw[b k (.inl ⟨by grind,i⟩)];exact s,t,by grind,C,by grind⟩)
  refine .inr ⟨hd,vs,T,by rw[b k (.inl ⟨by grind,i⟩)];exact D,E,by grind,H,I,J,K,L,λr o c g=>?_⟩;obtain⟨u,N,m⟩:=M r o c g;exact⟨u,N,m.ghost a (λr j=>by cases r<;>simp_all[Gh.ok]) rfl λn p=>b n (.inr ⟨⟨k,r,o⟩,c,qz e g,p⟩)⟩
def zy (a b:List (List Cell)):Prop:=a.map List.length=b.map List.length /\
 (∀ r o d,cellAt b r o=some d->∃ c,cellAt a r o=some c/\(d=c\/d=.dead))/\∀ r o e,cellAt a r o=some (.mpb e)->cellAt b r o=some (.mpb e)
structure Weak (F F':Fr):Prop where
 len:F'.slots.length=F.slots.length
 slot:∀ (k:Nat) v',F'.slots[k]? = some v'->v'=.deadv\/∃ v,F.slots[k]? = some v/\v'.tag=v.tag/\zy v.rows v'.rows
 box:∀ r l',F'.boxes.lookup r=some l'->∃ l,F.boxes.lookup r=some l/\zy [l] [l']
theorem zy.getR {a b}(h:zy a b){x π rows}(e:Ab.getR b (x::π)=some rows):
  Ab.getR a (x::π)=some rows:=by
 obtain⟨r,o⟩:=x;simp only[Ab.getR]at *;cases d:cellAt b r o with
 |none=>grind
 |some f=>
  obtain⟨c,g,i⟩:=h.2.1 r o f d
  grind
theorem qbT {π}(h:π≠[]):Ab.getR AV.deadv.rows π=none:=by
 cases π with
 |nil=>grind
 |cons x π=>
  obtain⟨r,o⟩:=x;simp only[Ab.getR];have:∀ c,cellAt AV.deadv.rows r o=some c->c=.dead:=by
   intro c b;obtain⟨row,a,d⟩:=qc.1 b;cases r with
   |zero=>
    simp[AV.deadv,AV.c]at a
    grind
   |succ r=>simp[AV.deadv,AV.c]at a
  grind
theorem Weak.rowsAt {F F'}(h:Weak F F'){k rows}(e:F'.rowsAt k=some rows)(hi:k.inHeap):
  ∃ b,F.rowsAt k=some b/\zy b rows:=by
 have refl:∀ a,zy a a:=λa=>⟨rfl,λr o c e=>⟨c,e,.inl rfl⟩,λ_ _ _ e=>e⟩
 obtain⟨r,π⟩:=k;unfold Fr.rowsAt at *;simp only at *;by_cases n:∃ j,r=.slot j
 .
  obtain⟨j,rfl⟩:=n;have d:π≠[]:=by
   rcases hi with hi|hi
   . exact hi
   . simp[Root.boxed]at hi
  simp only[Fr.rows]at *;cases g:F'.slots[j]? with
  |none=>simp[g]at e
  |some v'=>
   simp only[g,av,ae]at e;rcases h.slot j v' g with rfl|⟨v,p,_,f⟩
   . rw[qbT d]at e;cases e
   . cases π with
     |nil=>exact absurd rfl d
     |cons x π=>exact⟨rows,by simp only[p,av,ae];exact f.getR e,refl _⟩
 .
  have i:∀ k,r≠.slot k:=λk e=>n ⟨k,e⟩;rw[Fr.rows_ns _ i]at *;cases m:F'.boxes.lookup r with
  |none=>simp[m]at e
  |some q=>
   obtain⟨l,s,f⟩:=h.box r q m;simp only[m,s,av,ae]at *;cases π with
   |nil=>simp only[Ab.getR,aa]at e;subst e;exact⟨[l],rfl,f⟩
   |cons x π=>exact⟨rows,f.getR e,refl _⟩
theorem RelF.weak {G w F F' ts}(h:RelF G w F ts)(y:Weak F F')(b)(I:∀ d,b d->G.lv d/\(F'.boxes.lookup (.loc d)).isSome=true)(hb:∀ d,(F'.boxes.lookup (.loc d)).isSome=true->b d)(J:∀ x c,F'.get x=some c->(∀ q,c=.ptr q\/c=.ref q->Gh.ok { G with lv:=b } q.key.root)/\(∀ f fs cs q,c=.clo f fs cs->.ptr q∈fs++cs->Gh.ok { G with lv:=b } q.key.root)):
  RelF { G with lv:=b } w F' ts:=by
 have keep:∀ x c u,F'.get x=some c->Sh G w x c u->Sh { G with lv:=b } w x c u:=by
  intro x c u K p;have D:=J x c K;cases c with
  |ptr q=>exact⟨D.1 q (.inl rfl),p.2⟩
  |ref q=>exact⟨D.1 q (.inr rfl),p.2⟩
  |clo f fs cs=>
   obtain⟨vs,us,L,M,N⟩:=p;have go:∀ (l:List Cell) (vs:List Value),(∀ q,.ptr q∈l->Gh.ok { G with lv:=b } q.key.root)->qY G l vs->qY { G with lv:=b } l vs:=by
    intro l
    induction l with
    |nil=>intro vs _ h;cases vs<;>exact h
    |cons c l ih=>
     intro vs E h;cases vs with
     |nil=>exact h
     |cons v vs=>
      refine⟨?_,ih vs (λq z=>E q (aB _ z)) h.2⟩;cases c with
      |ptr q=>exact⟨E q (by simp),h.1.2⟩
      |val u=>exact h.1
      |_=>exact h.1.elim
   exact⟨vs,us,L,go fs _ (λq z=>D.2 f fs cs q rfl (aL _ z)) M,go cs _ (λq z=>D.2 f fs cs q rfl (aR _ z)) N⟩
  |_=>exact p
 refine⟨⟨h.inv.inj,h.inv.lt,h.inv.imlt,h.inv.glob⟩,by rw[y.len];exact h.size,λk v' e=>?_,λr l' e=>?_,λd hd=>(I d hd).2,λk rows e U=>?_⟩
 .
  rcases y.slot k v' e with rfl|⟨v,hv,W,n⟩
  .
   have O:k<ts.size:=by rw[<- h.size,<- y.len];exact(az.1 e).1
   refine⟨ts[k],by simp[O],⟨trivial,λr o c P=>?_⟩⟩;obtain⟨row,A,X⟩:=qc.1 P;cases r with
   |zero=>simp[AV.deadv,AV.c]at A;subst A;cases o<;>simp at X;exact⟨_,rfl,.inl X.symm⟩
   |succ r=>simp[AV.deadv,AV.c]at A
  . obtain⟨V,hV,Q,P⟩:=h.slots k v hv;refine⟨V,hV,by rw[W,<- n.1];exact Q,λr o s a=>?_⟩;obtain⟨c,i,t⟩:=n.2.1 r o s a;obtain⟨u,R,p⟩:=P r o c i;refine⟨u,by rw[W];exact R,?_⟩;rcases t with rfl|rfl
    . exact p.imp (λh=>h) (keep _ _ _ (qz (zR e) a))
    . exact .inl rfl
 .
  obtain⟨l,hl,_⟩:=y.box r l' e;refine⟨(h.boxes r l hl).1,?_⟩;cases r with
  |loc d=>exact hb d (by rw[e];rfl)
  |_=>trivial
 .
  obtain⟨j,e0,n⟩:=y.rowsAt e U;have m:j.length=rows.length:=by have:=congrArg List.length n.1;simpa using this
  rcases h.cont k j e0 U with(⟨g1,g2,g3⟩|⟨x,H,B,clock,rfl,g⟩)|⟨hd,vs,T,L,M,N,e4,e5,e6,e7,Y,e9⟩
  . subst g2;exact .inl (.inl ⟨g1,List.eq_nil_of_length_eq_zero (by simpa using m.symm),g3⟩)
  . have A:Like (some (0,0)) [[Cell.mpb H]] rows:=⟨n.1,λr o s a K=>by obtain⟨c,i,t⟩:=n.2.1 r o s a;obtain⟨rfl,rfl,rfl⟩:=qAE i;exact absurd rfl K⟩
    obtain⟨s,rfl,_⟩:=A.mpb;have:=n.2.2 0 0 H rfl;obtain rfl:s=.mpb H:=by simpa [cellAt]using this
    exact .inl (.inr ⟨x,H,B,clock,rfl,g⟩)
  refine .inr ⟨hd,vs,T,L,M,N,e4,?_,by rw[<- m];exact e6,by rw[<- m];exact e7,λZ=>⟨(Y Z).1,λr o s a=>?_⟩,λr o s a=>?_⟩
  . intro row E;have:row.length∈rows.map List.length:=List.mem_map.2 ⟨row,E,rfl⟩;rw[<- n.1]at this;obtain⟨C,S,e'⟩:=List.mem_map.1 this;rw[<- e',e5 C S]
  . obtain⟨c,i,t⟩:=n.2.1 r o s a;rcases t with rfl|rfl
    . exact(Y Z).2 r o _ i
    . rfl
  . obtain⟨c,i,t⟩:=n.2.1 r o s a;obtain⟨u,R,p⟩:=e9 r o c i;refine⟨u,R,?_⟩;rcases t with rfl|rfl
    . exact keep _ _ _ (qz e a) p
    . exact p.one
end
section
variable [Glob]
theorem qah {rows r o b}(h:cellAt (qG rows) r o=some b):∃ c,cellAt rows r o=some c/\b=immC c:=by
 rw[Yr]at h;unfold cellAt at *;simp only[aH]at h;cases d:rows[r]? with
 |none=>simp[d]at h
 |some row=>
  simp only[d,av,ae,aH]at h;cases a:row[o]? with
  |none=>simp[a]at h
  |some c=>simp only[a,av,aa]at h;exact⟨c,by simp[a],h.symm⟩
theorem qaq (rows):(qG rows).length=rows.length:=by rw[Yr];simp
theorem qhO {rows n}(h:∀ row∈rows,row.length=n):∀ row∈qG rows,row.length=n:=by rw[Yr];intro row c;obtain⟨a,b,rfl⟩:=List.mem_map.1 c;simpa using h a b
theorem qW (p:Pl)(r o)(rest):(⟨p.toKey,r,o⟩:Pl).under rest=p.under ((r,o)::rest):=by simp[Pl.under,Pl.toKey]
theorem qlu {rows r o c}(h:cellAt rows r o=some c):SizeOf.sizeOf c<SizeOf.sizeOf rows:=by obtain⟨row,a,b⟩:=qc.1 h;have d:=List.sizeOf_lt_of_mem (aM a);have e:=List.sizeOf_lt_of_mem (aM b);omega
theorem Tree.relI {G w im'}(i:∀ b,G.im b->im' b)(c):∀ (p:Pl) (v:Value),qw c=true->Sh G w p c v->Tree G w p c ->
  (∀ rest rows h,subR c rest=some rows->G.γ (p.under rest)=some h->im' h.b)->RelI im' w (immC c) v:=by
 intro p v A a k l
 match c,A,a,k,l with
 |.val u,_,a,_,_=>obtain⟨rfl,h⟩:=a;exact .val _ h
 |.nil,_,a,_,_=>cases a;exact .immE none 0
 |.dead,_,a,_,_=>exact .dead _ a
 |.imm rows,_,a,_,_=>exact RelI.mono i (λ_ _=>rfl) a
 |.own B rows,_,a,k,l=>
  rcases a with⟨_,m,n⟩|⟨C,q,x,D,E,_⟩
  . subst m;subst n;exact .immE none 0
  obtain⟨hd,vs,T,s,O,P,F,H,Q,I,J,y⟩:=(k [] rows rfl).of_hd (by rw[Pl.under_nil];exact q) x;rw[Pl.under_nil]at s;have:hd=C:=by rw[s]at q;exact aQ q
  subst this;have K:v=.slice (some ⟨hd.b,0,none⟩) (qG rows).length hd.cap:=by rw[D,qaq,<- E];simp[Hd.val,x]
  rw[K];simp only[immC];refine .imm (qG rows) hd.b 0 hd.cap hd.sz vs T (0,0) (λr o=>(vs[r*hd.sz+o]?).getD .nilIface) F (l [] rows hd rfl (by rw[Pl.under_nil];exact s)) (by rw[qaq];exact I) (qhO H) ?_ ?_
  . intro r o L e;obtain⟨c,g,_⟩:=qah e;obtain⟨u,t,_⟩:=y r o c g;simp[t]
  .
   intro r o L e;obtain⟨c,g,rfl⟩:=qah e;obtain⟨u,t,j⟩:=y r o c g;simp only[t,Option.getD_some];rw[Pl.under_nil]at j;have M:=qlu g;have d:∀ rest,subR (.own B rows) ((r,o)::rest)=subR c rest:=by intro rest;simp only[subR,getR,g];cases c<;>rfl
   refine Tree.relI i c ⟨p.toKey,r,o⟩ u ((J (by simp[Pl.under])).2 r o c g) j (λrest f h=>?_) (λrest f h N z=>?_)
   . rw[qW];exact k _ _ (by rw[d];exact h)
   . rw[qW]at z;exact l _ _ _ (by rw[d];exact N) z
termination_by SizeOf.sizeOf c
decreasing_by simp;omega
theorem RelF.freeze {G w F ts}(h:RelF G w F ts)(im')(a:∀ b,G.im b->im' b)(B:∀ b,im' b->b<w.heap.size)(p:∀ k x,G.γ k=some x->((F.rowsAt k).isSome=true/\k.inHeap\/∃ y q,F.get y=some (.mp q)/\y.toKey=k)->im' x.b->G.im x.b):RelF { G with im:=im' } w F ts:=by
 have keep:∀ x c u,F.get x=some c->Sh G w x c u->Sh { G with im:=im' } w x c u:=by
  intro x c u s g;cases c with
  |imm rows=>exact RelI.mono a (λ_ _=>rfl) g
  |mp q=>obtain⟨y,d,clock,i,m,n,t,C,D⟩:=g;exact⟨y,d,clock,i,m,n,λz=>t (p _ _ i (.inr ⟨x,q,s,rfl⟩) z),C,D.mono a (λ_ _=>rfl)⟩
  |cptr row o=>obtain⟨b,base,vs,T,fr,i,m,n,t⟩:=g;exact⟨b,base,vs,T,fr,a _ i,m,n,λj c e=>let ⟨u,E,H⟩:=t j c e;⟨u,E,H.mono a (λ_ _=>rfl)⟩⟩
  |clo f fs cs=>
   obtain⟨vs,us,i,m,n⟩:=g;have go:∀ (l:List Cell) (vs:List Value),qY G l vs->qY { G with im:=im' } l vs:=by
    intro l
    induction l with
    |nil=>intro vs h;cases vs<;>exact h
    |cons c l K=>
     intro vs h;cases vs with
     |nil=>exact h
     |cons v vs=>exact⟨by cases c<;>exact h.1,K vs h.2⟩
   exact⟨vs,us,i,go _ _ m,go _ _ n⟩
  |_=>exact g
 refine⟨⟨h.inv.inj,h.inv.lt,B,λb I=>⟨a b (h.inv.glob b I).1,(h.inv.glob b I).2⟩⟩,h.size,λk v e=>?_,h.boxes,h.live,λk rows e z=>?_⟩
 . obtain⟨V,L,H⟩:=h.slots k v e;exact⟨V,L,H.map λr o c u A g=>keep _ _ _ (qz (zR e) A) g⟩
 .
  rcases h.cont k rows e z with(p|⟨x,q,d,clock,M,N,J,O,P,Q,R⟩)|⟨hd,vs,T,i,m,n,t,C,D,S,U,W⟩
  . exact .inl (.inl p)
  . exact .inl (.inr ⟨x,q,d,clock,M,N,J,O,λs=>P (p _ _ J (.inl ⟨by rw[e];rfl,z⟩) s),Q,R.mono a (λ_ _=>rfl)⟩)
  exact .inr ⟨hd,vs,T,i,m,λs=>n (p _ _ i (.inl ⟨by rw[e];rfl,z⟩) s),t,C,D,S,U,
   λr o c A=>let ⟨u,E,g⟩:=W r o c A;⟨u,E,keep _ _ _ (qz e A) g⟩⟩
theorem heap_setCell {w:World}{b i vs T fr}(h:w.heap[b]? = some (.cells vs T fr))(u)(a):
  (w.setCell ⟨b,i,none⟩ u).heap[a]? = if a=b then some (.cells (vs.setIfInBounds i u) T fr)else w.heap[a]?:=by
 unfold World.setCell;simp only[Array.getElem?_modify,Option.isSome_none,aS,if_false];by_cases e:b=a
 . subst e;simp[h]
 . rw[aF e,aF (λc=>e c.symm)]
theorem size_setCell (w:World)(a)(u):(w.setCell a u).heap.size=w.heap.size:=by unfold World.setCell;simp
theorem RelF.write {G w F ts}(h:RelF G w F ts){p}(hd:F.get p=some .dead)(X:p.key.inHeap){x}(Y:G.γ p.key=some x){u}(Z:oneC u=true):RelF G (w.setCell ⟨x.b,p.r*x.sz+p.o,none⟩ u) F ts:=by
 have a:∃ rows,F.rowsAt p.key=some rows/\cellAt rows p.r p.o=some .dead:=by
  unfold Fr.get at hd;cases j:F.rowsAt p.key with
  |none=>simp[j]at hd
  |some rows=>exact⟨rows,rfl,by simpa [j]using hd⟩
 obtain⟨rows,a,d⟩:=a;obtain⟨x',vs,T,m,e2,Q,E,H,e6,e7,e8,R⟩:=(h.cont _ _ a X).of_cell d (by intro _;simp);have:x'=x:=by rw[Y]at m;exact(aQ m).symm
 subst this;have B:=heap_setCell E u (i:=p.r*x'.sz+p.o);have n:qjb G w (w.setCell ⟨x'.b,p.r*x'.sz+p.o,none⟩ u):=by
  refine⟨λb q=>?_,λk y es c I S=>?_⟩
  . rw[B,aF];exact λe=>Q (e▸q)
  . rw[B,aF];intro e;rw[e,E]at S;cases S
 refine⟨⟨h.inv.inj,λk y e=>by rw[size_setCell];exact h.inv.lt k y e,λb e=>by rw[size_setCell];exact h.inv.imlt b e,λb q=>⟨(h.inv.glob b q).1,(n.im b (h.inv.glob b q).1).trans (h.inv.glob b q).2⟩⟩,h.size,λk v e=>?_,h.boxes,h.live,λk f e J=>?_⟩
 . obtain⟨V,hV,j⟩:=h.slots k v e;exact⟨V,hV,j.map λr o c u l s=>s.same n⟩
 .
  rcases h.cont k f e J with(hn|hn)|⟨y,K,T',C,f2,f3,L,f5,f6,f7,f8,f9⟩
  . exact .inl (.inl hn)
  . exact .inl (.inr (hn.same n))
  by_cases I:y.b=x'.b
  .
   have M:k=p.key:=h.inv.inj _ _ _ _ C m I;subst M;have:y=x':=by rw[m]at C;exact(aQ C).symm
   subst this;have:f=rows:=by rw[a]at e;exact(aQ e).symm
   subst this;rw[E]at L;cases L;refine .inr ⟨y,_,T,m,e2,Q,by rw[B,aD rfl],H,by simpa using e6,e7,by simpa using e8,λr o c l=>?_⟩;by_cases U:r=p.r/\o=p.o
   .
    obtain⟨rfl,rfl⟩:=U;rw[d]at l;cases l;refine⟨u,?_,Z⟩;obtain⟨D,g,_⟩:=R _ _ _ d;have N:p.r*y.sz+p.o<vs.size:=by
     rcases Nat.lt_or_ge (p.r*y.sz+p.o) vs.size with h|h
     . exact h
     . simp[Array.getElem?_eq_none h]at g
    simp[N]
   .
    obtain⟨D,g,s⟩:=R r o c l;refine⟨D,?_,s.same n⟩;rw[aV,aF]
    . exact g
    . intro t;obtain⟨z,r1,r2⟩:=qc.1 l;obtain⟨A,s1,s2⟩:=qc.1 d;have O:o<y.sz:=by rw[<- H z (aM r1)];exact(az.1 r2).1
      have P:p.o<y.sz:=by rw[<- H A (aM s1)];exact(az.1 s2).1
      have j:p.r=r:=by have W:=congrArg (· / y.sz) t;simp only[Nat.mul_comm _ y.sz,Nat.mul_add_div (by omega:y.sz>0),Nat.div_eq_of_lt O,Nat.div_eq_of_lt P,Nat.add_zero]at W;exact W
      exact U ⟨j.symm,by subst j;omega⟩
  . refine .inr ⟨y,K,T',C,f2,f3,by rw[B,aF I];exact L,f5,f6,f7,f8,λr o c l=>?_⟩;obtain⟨D,g,s⟩:=f9 r o c l;exact⟨D,g,s.same n⟩
theorem Yw {F:Fr}{d v k}(h:k.root≠.slot d):(F.put (some d) v).rowsAt k=F.rowsAt k:=by
 unfold Fr.rowsAt;congr 1;cases a:k.root with
 |slot j=>have:d≠j:=λe=>h (by rw[a,e]);simp[Fr.rows,Fr.put,List.getElem?_set,this]
 |_=>rfl
theorem zN {F:Fr}{d v π}(h:d<F.slots.length):(F.put (some d) v).rowsAt ⟨.slot d,π⟩=getR v.rows π:=by simp[Fr.rowsAt,Fr.rows,Fr.put,h]
theorem RelF.put {G w F ts}(h:RelF G w F ts){d v V}(g:YY G w ⟨.slot d,[]⟩ v V)(i:∀ π rows,π≠[]->getR v.rows π=some rows->qU G w ⟨.slot d,π⟩ rows):RelF G w (F.put (some d) v) (ts.setIfInBounds d V):=by
 refine⟨h.inv,by simp[Fr.put,h.size],λk v' e=>?_,h.boxes,h.live,λk rows e hi=>?_⟩
 .
  simp only[Fr.put,List.getElem?_set]at e;by_cases b:d=k
  . subst b;simp only[if_true]at e;split at e
    . rename_i a;cases e;exact⟨V,by simp[<- h.size,a],g⟩
    . cases e
  . rw[aF b]at e;obtain⟨j,c,l⟩:=h.slots k v' e;exact⟨j,by rw[aV,aF b];exact c,l⟩
 .
  by_cases b:k.root=.slot d
  .
   obtain⟨r,π⟩:=k;simp only at b;subst b;have f:π≠[]:=by
    rcases hi with hi|hi
    . exact hi
    . simp[Root.boxed]at hi
   by_cases a:d<F.slots.length
   . rw[zN a]at e;exact i π rows f e
   . simp[Fr.rowsAt,Fr.rows,Fr.put,a]at e
  . rw[Yw b]at e;exact h.cont k rows e hi
theorem qbi {rows}(h:∀ r o c b d,cellAt rows r o=some c->c≠.own b d){π}(a:π≠[]):getR rows π=none:=by
 cases π with
 |nil=>exact absurd rfl a
 |cons x π=>
  obtain⟨r,o⟩:=x;simp only[getR];cases e:cellAt rows r o with
  |none=>rfl
  |some c=>cases c<;>first|rfl|exact absurd rfl (h r o _ _ _ e)
theorem RelF.put_flat {G w F ts}(h:RelF G w F ts){d v V}(b:YY G w ⟨.slot d,[]⟩ v V)(f:∀ r o c g i,cellAt v.rows r o=some c->c≠.own g i):RelF G w (F.put (some d) v) (ts.setIfInBounds d V):=h.put b λπ rows a e=>by rw[qbi f a]at e;cases e
def Gh.add (G:Gh)(k:Key)(h:Hd):Gh:={ G with γ:=λa=>if a=k then some h else G.γ a }
theorem size_alloc (w:World)(o):(w.alloc o).heap.size=w.heap.size+1:=by unfold World.alloc;exact Array.size_push _
theorem heap_alloc (w:World)(o)(b):(w.alloc o).heap[b]? = if b=w.heap.size then some o else w.heap[b]?:=by unfold World.alloc;simp only[Array.getElem?_push]
theorem Same.alloc {G w}(a:GInv G w)(o):Same G w (w.alloc o):=by
 refine⟨by rw[size_alloc];omega,λb c=>?_,λk h e=>?_⟩
 . rw[heap_alloc,aF];exact Nat.ne_of_lt (a.imlt b c)
 . rw[heap_alloc,aF];exact Nat.ne_of_lt (a.lt k h e)
theorem GInv.add {G w}(a:GInv G w)(k h)(g:h.b=w.heap.size)(o):GInv (G.add k h) (w.alloc o):=by
 have d:∀ j i,G.γ j=some i->i.b<w.heap.size:=a.lt;refine⟨λk1 m l n c f e=>?_,λk1 l c=>?_,λb e=>?_,λb g=>⟨(a.glob b g).1,((Same.alloc a o).im b (a.glob b g).1).trans (a.glob b g).2⟩⟩
 .
  simp only[Gh.add]at c f;split at c<;>split at f
  . simp_all
  . cases c;have:=d _ _ f;omega
  . cases f;have:=d _ _ c;omega
  . exact a.inj _ _ _ _ c f e
 .
  simp only[Gh.add]at c;rw[size_alloc];split at c
  . cases c;omega
  . have:=d _ _ c;omega
 . rw[size_alloc];have:=a.imlt b e;omega
theorem Out.alloc (w)(o):Out w (w.alloc o):=⟨rfl,rfl⟩
theorem Out.setCell (w a)(v):Out w (w.setCell a v):=⟨rfl,rfl⟩
theorem Out.drew (w)(n):Out w { w with drawn:=n }:=⟨rfl,rfl⟩
theorem Gain.same {G w w'}(d:w.heap.size<=w'.heap.size)(h:∀ b,b<w.heap.size->w'.heap[b]? = w.heap[b]?)(a:GInv G w)(f:Out w w'):Gain G w G w':=⟨d,λ_ h=>h,λb c=>h b (a.imlt b c),λb c _=>⟨h b c,λh=>h⟩,λk x e=>.inl ⟨k,x,e,rfl⟩,λ_=>rfl,f,λ_ h=>⟨h,rfl⟩⟩
theorem Gain.alloc {G w}(c:GInv G w)(k h)(a:h.b=w.heap.size)(o)(f:∀ i,k≠⟨.par i,[]⟩)(g:∀ d,G.lv d->k≠⟨.loc d,[]⟩)(m:∀ vs T fr,o=.cells vs T fr->fr=(0,0)):Gain G w (G.add k h) (w.alloc o):=by
 refine⟨by rw[size_alloc];omega,λ_ h=>h,λb a=>(Same.alloc c o).im b a,λb a _=>⟨?_,λh=>h⟩,λj l e=>?_,λi=>?_,Out.alloc w o,λd hd=>⟨hd,?_⟩⟩
 . rw[heap_alloc,aF (Nat.ne_of_lt a)]
 .
  simp only[Gh.add]at e;split at e
  . cases e;exact .inr (by omega)
  . exact .inl ⟨j,l,e,rfl⟩
 . simp only[Gh.add];rw[aF (λe=>f i e.symm)]
 . simp only[Gh.add];rw[aF (λe=>g d hd e.symm)]
theorem RelF.add {G w F ts}(h:RelF G w F ts)(k x)(a:x.b=w.heap.size)(o)(b:¬ Uses F k):
  RelF (G.add k x) (w.alloc o) F ts:=
 (h.same (Same.alloc h.inv o)).ghost (h.inv.add k x a o) rfl rfl λc d=>by simp only[Gh.add];rw[aF (λe:c=k=>b (by rw[<- e];exact d))]
end
section
variable [Glob]
theorem qH (f a)(r):(mapB f a).lookup r=(a.lookup r).map (·.map f):=by
 induction a with
 |nil=>rfl
 |cons x a b=>obtain⟨r',l⟩:=x;simp only[mapB,List.lookup_cons];cases r==r'<;>simp[b]
theorem zH {f rows r o b}(h:cellAt (rows.map (·.map f)) r o=some b):∃ c,cellAt rows r o=some c/\b=f c:=by
 unfold cellAt at *;simp only[aH]at h;cases d:rows[r]? with
 |none=>simp[d]at h
 |some row=>
  simp only[d,av,ae,aH]at h;cases a:row[o]? with
  |none=>simp[a]at h
  |some c=>simp only[a,av,aa]at h;exact⟨c,by simp[a],h.symm⟩
theorem qvZ (f rows)(r o):cellAt (rows.map (·.map f)) r o=(cellAt rows r o).map f:=by unfold cellAt;cases h:rows[r]?<;>simp[h]
theorem zy.map {f}(b:∀ c,f c=c\/f c=.dead)(rows)(d:∀ a,f (.mpb a)=.mpb a:=by intro _;rfl):zy rows (rows.map (·.map f)):=by
 refine⟨by simp[Function.comp_def],λr o g h=>?_,λr o a h=>?_⟩
 . obtain⟨c,e,rfl⟩:=zH h;exact⟨c,e,b c⟩
 . rw[qvZ,h,av,d]
theorem Weak.mapC {f}(a:∀ c,f c=c\/f c=.dead)(F)(b:∀ d,f (.mpb d)=.mpb d:=by intro _;rfl):Weak F (F.mapC f):=by
 refine⟨by simp[Fr.mapC],λk v' e=>?_,λr i e=>?_⟩
 .
  simp only[Fr.mapC,aH]at e;cases g:F.slots[k]? with
  |none=>simp[g]at e
  |some v=>simp only[g,av,aa]at e;subst e;exact .inr ⟨v,rfl,rfl,zy.map a v.rows b⟩
 .
  simp only[Fr.mapC,qH]at e;cases h:F.boxes.lookup r with
  |none=>simp[h]at e
  |some l=>simp only[h,av,aa]at e;subst e;exact⟨l,rfl,by simpa using zy.map a [l] b⟩
theorem RelF.okPtr {G w F ts}(h:RelF G w F ts){x c}(e:F.get x=some c):
  (∀ q,c=.ptr q\/c=.ref q->G.ok q.key.root)/\(∀ f fs cs q,c=.clo f fs cs->.ptr q∈fs++cs->G.ok q.key.root):=by
 by_cases b:∃ a,c=.mpb a
 . obtain⟨a,rfl⟩:=b;exact⟨λq h=>(by rcases h with h|h<;>cases h),λf fs cs q h=>(by cases h)⟩
 obtain⟨u,_,hs⟩:=h.val e (λa d=>b ⟨a,d⟩);have go:∀ (l:List Cell) (vs:List Value) q,qY G l vs->.ptr q∈l->G.ok q.key.root:=by
  intro l
  induction l with
  |nil=>intro vs q _ hm;simp at hm
  |cons c l g=>
   intro vs q h hm;cases vs with
   |nil=>exact h.elim
   |cons v vs=>
    rcases List.mem_cons.1 hm with rfl|hm
    . exact h.1.1
    . exact g vs q h.2 hm
 rcases hs with⟨rfl,_⟩|hs
 . exact⟨λq h=>(by rcases h with h|h<;>cases h),λf fs cs q h=>(by cases h)⟩
 .
  refine⟨λq h=>?_,λf fs cs q h hm=>?_⟩
  . rcases h with rfl|rfl
    . exact hs.1
    . exact hs.1
  . subst h;obtain⟨vs,us,_,i,j⟩:=hs;rcases List.mem_append.1 hm with hm|hm
    . exact go _ _ q i hm
    . exact go _ _ q j hm
theorem Weak.get {F F'}(h:Weak F F'){x j}(e:F'.get x=some j):j=.dead\/F.get x=some j:=by
 unfold Fr.get at e;cases a:F'.rowsAt x.key with
 |none=>simp[a]at e
 |some rows=>
  simp only[a,ae]at e;by_cases m:x.key.inHeap
  . obtain⟨n,s,d⟩:=h.rowsAt a m;obtain⟨c,f,g⟩:=d.2.1 _ _ _ e;rcases g with rfl|rfl
    . exact .inr (by simp[Fr.get,s,f])
    . exact .inl rfl
  .
   obtain⟨⟨r,π⟩,t,u⟩:=x;simp only[Key.inHeap,not_or,ne_eq,Decidable.not_not,Bool.not_eq_true]at m;obtain⟨rfl,p⟩:=m;cases r with
   |slot k=>
    simp only[Fr.rowsAt,Fr.rows]at a;cases b:F'.slots[k]? with
    |none=>simp[b]at a
    |some v'=>
     have:v'.rows=rows:=by simpa [b,getR]using a
     subst this;rcases h.slot k v' b with rfl|⟨v,w,_,d⟩
     . left;obtain⟨row,o,q⟩:=qc.1 e;cases t with
       |zero=>simp[AV.deadv,AV.c]at o;subst o;cases u<;>simp at q;exact q.symm
       |succ r=>simp[AV.deadv,AV.c]at o
     . obtain⟨c,f,g⟩:=d.2.1 _ _ _ e;rcases g with rfl|rfl
       . exact .inr (qz (zR w) f)
       . exact .inl rfl
   |par i=>simp[Root.boxed]at p
   |loc i=>simp[Root.boxed]at p
   |res=>
    simp only[Fr.rowsAt,Fr.rows]at a;cases b:F'.boxes.lookup .res with
    |none=>simp[b]at a
    |some y=>
     obtain⟨l,z,d⟩:=h.box _ _ b;have:[y]=rows:=by simpa [b,getR]using a
     subst this;obtain⟨c,f,g⟩:=d.2.1 _ _ _ e;rcases g with rfl|rfl
     . right;have:F.rowsAt ⟨.res,[]⟩=some [l]:=by simp[Fr.rowsAt,Fr.rows,z,getR]
       exact qz this f
     . exact .inl rfl
theorem RelF.weak0 {G w F F' ts}(h:RelF G w F ts)(a:Weak F F')(b:∀ r,(F'.boxes.lookup r).isSome=(F.boxes.lookup r).isSome):
  RelF G w F' ts:=by
 refine h.weak a G.lv (λd hd=>⟨hd,by rw[b];exact h.live d hd⟩) (λd hd=>?_) (λx c e=>?_)
 .
  rw[b]at hd;cases g:F.boxes.lookup (.loc d)with
  |none=>simp[g]at hd
  |some l=>exact(h.boxes _ _ g).2
 .
  rcases a.get e with rfl|i
  . exact⟨λq h=>(by rcases h with h|h<;>cases h),λf fs cs q h=>(by cases h)⟩
  . exact h.okPtr i
theorem RelF.mapC {G w F ts}(h:RelF G w F ts){f}(b:∀ c,f c=c\/f c=.dead)(d:∀ a,f (.mpb a)=.mpb a:=by intro _;rfl):RelF G w (F.mapC f) ts:=h.weak0 (Weak.mapC b F d) λr=>by simp[Fr.mapC,qH]
theorem qM (p)(c):vI p c=c\/vI p c=.dead:=by unfold vI;split<;>(try split)<;>simp
theorem qP (r)(c):yz r c=c\/yz r c=.dead:=by unfold yz;split<;>(try split)<;>simp
theorem yN (r)(c):zn r c=c\/zn r c=.dead:=by unfold zn;split<;>(try split)<;>simp
theorem ZZ (a ls)(c):yV a ls c=c\/yV a ls c=.dead:=by unfold yV;split<;>(try split)<;>simp
theorem Weak.uses {F F'}(h:Weak F F'){k}(d:Uses F' k):Uses F k:=by
 rcases d with⟨f,b⟩|⟨x,c,g,hd⟩
 .
  cases e:F'.rowsAt k with
  |none=>simp[e]at f
  |some rows=>obtain⟨a,i,_⟩:=h.rowsAt e b;exact .inl ⟨by rw[i];rfl,b⟩
 .
  rcases h.get g with rfl|e
  . simp[deps]at hd
  . exact .inr ⟨x,c,e,hd⟩
theorem qeX (F:Fr)(f)(r):(F.mapC f).rowsAt ⟨r,[]⟩=(F.rowsAt ⟨r,[]⟩).map (·.map (·.map f)):=by
 unfold Fr.rowsAt;by_cases b:∃ k,r=.slot k
 . obtain⟨k,rfl⟩:=b;simp only[Fr.rows,Fr.mapC,aH];cases F.slots[k]?<;>simp[getR,AV.mapC]
 . have a:∀ k,r≠.slot k:=λk e=>b ⟨k,e⟩;simp only[Fr.rows_ns _ a,Fr.mapC,qH];cases F.boxes.lookup r<;>simp[getR]
theorem qaH (F:Fr)(f){x}(c:x.key.path=[]):(F.mapC f).get x=(F.get x).map f:=by
 obtain⟨⟨r,π⟩,a,b⟩:=x;simp only at c;subst c;unfold Fr.get;simp only[qeX];cases F.rowsAt ⟨r,[]⟩with
 |none=>rfl
 |some rows=>simp only[av,ae,cellAt,aH];cases rows[a]?<;>simp
theorem RelF.pure {G w F ts}(h:RelF G w F ts){x c}(e:F.get x=some c)(b:x.key.path≠[]):qw c=true:=by
 unfold Fr.get at e;cases a:F.rowsAt x.key with
 |none=>simp[a]at e
 |some rows=>simp only[a,ae]at e;exact(h.cont _ _ a (.inl b)).pure b e
theorem qD5 {l m:List (Nat×Nat)}:(l.length.ble m.length&&l.isPrefixOf m)=l.isPrefixOf m:=by
 cases h:l.isPrefixOf m
 . simp
 . have:=(List.isPrefixOf_iff_prefix.1 h).length_le;simpa using this
theorem qaC {p:Pl}{k:Key}:under p k=true↔∃ π,k=p.under π:=by
 unfold under;rw[qD5];simp only[aC,aW,List.isPrefixOf_iff_prefix];constructor
 . rintro ⟨a,t,b⟩
   refine⟨t,?_⟩;cases k;simp only[Pl.under,Pl.toKey]at *;simp[a,<- b]
 . rintro ⟨π,rfl⟩
   exact⟨rfl,π,by simp[Pl.under,Pl.toKey]⟩
theorem RelF.clo_path {G w F ts}(h:RelF G w F ts){x f fs cs}(e:F.get x=some (.clo f fs cs)){k}(a:k∈deps x (.clo f fs cs)):k.path=[]:=by
 obtain⟨u,_,hs⟩:=h.val e;rcases hs with⟨hd,_⟩|hs
 . cases hd
 .
  obtain⟨vs,us,_,g,i⟩:=hs;have go:∀ (l:List Cell) (vs:List Value),qY G l vs->k∈l.filterMap (λc=>match c with|.ptr q=>some q.key|_=>none)->k.path=[]:=by
   intro l
   induction l with
   |nil=>intro vs _ hm;simp at hm
   |cons c l b=>
    intro vs h hm;cases vs with
    |nil=>exact h.elim
    |cons v vs=>
     simp only[List.filterMap_cons]at hm;split at hm
     . exact b vs h.2 hm
     . rename_i j d;rcases List.mem_cons.1 hm with rfl|hm
       . cases c<;>simp at d;subst d;exact h.1.2.1
       . exact b vs h.2 hm
  simp only[deps,List.filterMap_append,List.mem_append]at a;rcases a with a|a
  . exact go _ _ g a
  . exact go _ _ i a
theorem vH {G w F ts}(h:RelF G w F ts){p}(hd:F.get p=some .dead)(π):¬ Uses (F.kill p) (p.under π):=by
 have A:=Weak.mapC (qM p) F;have m:∀ π,F.rowsAt (p.under π)=none:=λπ=>by rw[qoN hd];rfl
 have g:∀ π,(F.kill p).rowsAt (p.under π)=none:=by
  intro π;cases e:(F.kill p).rowsAt (p.under π)with
  |none=>rfl
  |some rows=>obtain⟨C,t,_⟩:=A.rowsAt e (p.under_inHeap π);rw[m]at t;cases t
 rintro (⟨o,D⟩|⟨x,c,d,i⟩)
 . rw[g]at o;cases o
 .
  by_cases r:x.key.path=[]
  .
   rw[Fr.kill,qaH F _ r]at d;cases j:F.get x with
   |none=>simp[j]at d
   |some u=>
    simp only[j,av,aa]at d;have l:x.toKey=p.under π->u=.dead:=by
     intro e;cases π with
     |nil=>rw[Pl.under_nil]at e;have:=Xu e;subst this;rw[hd]at j;exact(aQ j).symm
     |cons y π=>
      obtain⟨a,b⟩:=y;exfalso;have v:x.key.path++[(x.r,x.o)]=p.key.path++(p.r,p.o)::(a,b)::π:=by have:=congrArg Key.path e;simpa [Pl.toKey,Pl.under]using this
      rw[r]at v;have:=congrArg List.length v;simp at this;omega
    cases u with
    |own z rows=>simp[vI]at d;subst d;simp only[deps,aU]at i;have:=l i.symm;cases this
    |mp E=>simp[vI]at d;subst d;simp only[deps,aU]at i;have:=l i.symm;cases this
    |ref q=>
     simp only[vI]at d;split at d
     . subst d;simp[deps]at i
     . rename_i s;subst d;simp only[deps,aU]at i;exact s (qaC.2 ⟨π,i.symm⟩)
    |ptr q=>
     simp only[vI]at d;split at d
     . subst d;simp[deps]at i
     . rename_i s;subst d;simp only[deps,aU]at i;exact s (qaC.2 ⟨π,i.symm⟩)
    |clo f fs cs=>simp only[vI]at d;subst d;have:=h.clo_path j (k:=p.under π) i;simp[Pl.under]at this
    |_=>simp[vI]at d;subst d;simp[deps]at i
  . have n:=(h.mapC (qM p)).pure (x:=x) (c:=c) d r;cases c<;>simp[qw]at n<;>simp only[deps,List.not_mem_nil,aU]at i;rename_i z B;have o:(F.kill p).rowsAt x.toKey=none:=by rw[<- i];exact g π
    have:(F.kill p).rowsAt x.toKey=subR (.own z B) []:=by rw[<- Pl.under_nil];exact qoN d []
    rw[o]at this;simp[subR,getR]at this
theorem vQ {G w F ts}(h:RelF G w F ts){d v π}(g:π≠[])(I:∀ r o c t y D,cellAt v.rows r o=some c->c≠.own t y/\c≠.mp D)(z:∀ r o c,cellAt v.rows r o=some c->∀ k∈deps ⟨⟨.slot d,[]⟩,r,o⟩ c,k.root≠.slot d):
    ¬ Uses ((F.killR (.slot d)).put (some d) v) ⟨.slot d,π⟩:=by
  have J:=h.mapC (qP (.slot d));have i:∀ π,π≠[]->((F.killR (.slot d)).put (some d) v).rowsAt ⟨.slot d,π⟩=none:=by
    intro π g;by_cases j:d<(F.killR (.slot d)).slots.length
    . rw[zN j,qbi (λr o c t y K=>(I r o c t y [] K).1) g]
    . simp[Fr.rowsAt,Fr.rows,Fr.put,j]
  rintro (⟨E,_⟩|⟨x,c,l,b⟩)
  . rw[i π g]at E;cases E
  . by_cases hd:x.key.root=.slot d
    . by_cases u:x.key.path=[]
      . have s:x.key=⟨.slot d,[]⟩:=by cases A:x.key;simp_all
        by_cases j:d<(F.killR (.slot d)).slots.length
        . have a:cellAt v.rows x.r x.o=some c:=by
            unfold Fr.get at l;rw[s,zN j]at l;simpa [getR]using l
          have:=z _ _ _ a ⟨.slot d,π⟩ (by have:x=⟨⟨.slot d,[]⟩,x.r,x.o⟩:=by cases x;simp_all
                                          rw[<- this];exact b)
          exact this rfl
        . unfold Fr.get at l;rw[s]at l;simp[Fr.rowsAt,Fr.rows,Fr.put,j]at l
      . have:x.key=⟨.slot d,x.key.path⟩:=by cases A:x.key;simp_all
        unfold Fr.get at l;rw[this,i _ u]at l;cases l
    . have a:(F.killR (.slot d)).get x=some c:=by
        unfold Fr.get at *;rw[Yw hd]at l;exact l
      by_cases u:x.key.path=[]
      . rw[Fr.killR,qaH F _ u]at a;cases n:F.get x with
        |none=>simp[n]at a
        | some L=>
          simp only[n,av,aa]at a;have m:∀ B,deps x B=[x.toKey]->⟨.slot d,π⟩∈deps x B->False:=by intro B e H;rw[e,aU]at H;exact hd (by have:=congrArg Key.root H;simpa [Pl.toKey]using this.symm)
          cases L with
          |own t rows=>simp[yz]at a;subst a;exact m _ rfl b
          |mp D=>simp[yz]at a;subst a;exact m _ rfl b
          | ref q=>
            simp only[yz]at a;split at a
            . subst a;simp[deps]at b
            . rename_i C;subst a;simp only[deps,aU]at b;exact C (by have:=congrArg Key.root b;simpa [Pl.toKey]using this.symm)
          | ptr q=>
            simp only[yz]at a;split at a
            . subst a;simp[deps]at b
            . rename_i C;subst a;simp only[deps,aU]at b;refine C ?_;rw[<- b];simp[g]
          |clo f fs cs=>simp only[yz]at a;subst a;have:=h.clo_path n (k:=⟨.slot d,π⟩) b;exact g this
          |_=>simp[yz]at a;subst a;simp[deps]at b
      . have p:=J.pure (x:=x) (c:=c) a u;cases c<;>simp[qw]at p<;>simp only[deps,List.not_mem_nil,aU]at b;exact hd (by have:=congrArg Key.root b;simpa [Pl.toKey]using this.symm)
def Zk (K k:Key):Option (Nat×Nat×List (Nat×Nat)):=
 if k.root=K.root/\K.path <+: k.path then match k.path.drop K.path.length with
  |(r,o)::π=>some (r,o,π)
  |[]=>none
 else none
theorem xz {K k r o π}:Zk K k=some (r,o,π)↔k=(⟨K,r,o⟩:Pl).under π:=by
 unfold Zk;constructor
 .
  intro h;split at h
  . rename_i c;obtain⟨e,t,d⟩:=c;rw[<- d,List.drop_left]at h;cases t with
    |nil=>cases h
    |cons y t=>obtain⟨a,b⟩:=y;simp only[aa,ai]at h;obtain⟨rfl,rfl,rfl⟩:=h;cases k;simp_all[Pl.under]
  . cases h
 . rintro rfl
   simp[Pl.under]
open Classical in
noncomputable def QU (G:Gh)(Y:Nat->Nat->Option (Option Pl))(k:Key):Option Hd:=if ∃ r o x π,Y r o=some (some x)/\k=x.under π then none else G.γ k
theorem Qc {G Y k}(h:¬ ∃ r o x π,Y r o=some (some x)/\k=x.under π):QU G Y k=G.γ k:=by unfold QU;rw[aF h]
theorem qf6 {G Y k}(h:∃ r o x π,Y r o=some (some x)/\k=x.under π):QU G Y k=none:=by unfold QU;rw[aD h]
noncomputable def Gh.mv (G:Gh)(K:Key)(Y:Nat->Nat->Option (Option Pl)):Gh:=
 { G with γ:=λk=>match Zk K k with
  |some (r,o,π)=>(match Y r o with
   |some (some x)=>G.γ (x.under π)
   |some none=>none
   |none=>QU G Y k)
  |none=>QU G Y k }
def Inj (Y:Nat->Nat->Option (Option Pl)):Prop:=∀ r o r' b x x' π a,Y r o=some (some x)->Y r' b=some (some x')->x.under π=x'.under a->r=r'/\o=b/\π=a
theorem YE (G:Gh)(K Y)(k):
  (∃ r o x π,Y r o=some (some x)/\k=(⟨K,r,o⟩:Pl).under π/\(G.mv K Y).γ k=G.γ (x.under π))\/(G.mv K Y).γ k=none \/
  ((∀ r o x π,Y r o=some (some x)->k≠x.under π)/\(G.mv K Y).γ k=G.γ k):=by
 have base:QU G Y k=none\/((∀ r o x π,Y r o=some (some x)->k≠x.under π)/\QU G Y k=G.γ k):=by
  by_cases h:∃ r o x π,Y r o=some (some x)/\k=x.under π
  . exact .inl (qf6 h)
  . exact .inr ⟨λr o x π c d=>h ⟨r,o,x,π,c,d⟩,Qc h⟩
 cases a:Zk K k with
 |none=>right;simp only[Gh.mv,a];exact base
 |some y=>
  obtain⟨r,o,π⟩:=y;cases b:Y r o with
  |none=>right;simp only[Gh.mv,a,b];exact base
  |some z=>
   cases z with
   |none=>right;left;simp only[Gh.mv,a,b]
   |some x=>left;exact⟨r,o,x,π,b,xz.1 a,by simp only[Gh.mv,a,b]⟩
theorem GInv.mv {G w}(b:GInv G w)(K){Y}(n:Inj Y):GInv (G.mv K Y) w:=by
 refine⟨λk m h q e d i=>?_,λk h e=>?_,b.imlt,b.glob⟩
 .
  rcases YE G K Y k with⟨r,o,x,π,h1,g,j⟩|h1|⟨h1,g⟩
  .
   rw[j]at e;rcases YE G K Y m with⟨r',p,x',l,a,c,f⟩|a|⟨a,c⟩
   . rw[f]at d;obtain⟨rfl,rfl,rfl⟩:=n _ _ _ _ _ _ _ _ h1 a (b.inj _ _ _ _ e d i);rw[g,c]
   . rw[a]at d;cases d
   . rw[c]at d;exact absurd (b.inj _ _ _ _ e d i).symm (a _ _ _ _ h1)
  . rw[h1]at e;cases e
  .
   rw[g]at e;rcases YE G K Y m with⟨r',p,x',l,a,c,f⟩|a|⟨a,c⟩
   . rw[f]at d;exact absurd (b.inj _ _ _ _ e d i) (h1 _ _ _ _ a)
   . rw[a]at d;cases d
   . rw[c]at d;exact b.inj _ _ _ _ e d i
 .
  rcases YE G K Y k with⟨r,o,x,π,h1,g,j⟩|h1|⟨h1,g⟩
  . rw[j]at e;exact b.lt _ _ e
  . rw[h1]at e;cases e
  . rw[g]at e;exact b.lt _ _ e
theorem YR {G:Gh}{K Y k}(e:∀ r o π,k=(⟨K,r,o⟩:Pl).under π->Y r o=none)(f:∀ r o x π,Y r o=some (some x)->k≠x.under π):(G.mv K Y).γ k=G.γ k:=by
 have d:¬ ∃ r o x π,Y r o=some (some x)/\k=x.under π:=λ⟨r,o,x,π,a,b⟩=>f r o x π a b;cases c:Zk K k with
 |none=>simp only[Gh.mv,c];exact Qc d
 |some y=>obtain⟨r,o,π⟩:=y;simp only[Gh.mv,c,e r o π (xz.1 c)];exact Qc d
theorem Ze (G:Gh)(K){Y r o x}(h:Y r o=some (some x))(π):
  (G.mv K Y).γ ((⟨K,r,o⟩:Pl).under π)=G.γ (x.under π):=by
 simp only[Gh.mv,xz.2 rfl,h]
theorem RelF.mv {G w F ts}(h:RelF G w F ts)(K){Y}(b:Inj Y)(c:∀ r o π,Y r o≠none->¬ Uses F ((⟨K,r,o⟩:Pl).under π))(d:∀ r o x π,Y r o=some (some x)->¬ Uses F (x.under π)):RelF (G.mv K Y) w F ts:=by
 refine h.ghost (h.inv.mv K b) rfl rfl λk a=>YR (λr o π e=>?_) (λr o x π e f=>?_)
 .
  cases g:Y r o with
  |none=>rfl
  |some z=>exact absurd (e▸a) (c r o π (by rw[g];simp))
 . exact d r o x π e (f▸a)
theorem Gain.mv {G w}(K)(Y):Gain G w (G.mv K Y) w:=by
 refine⟨Nat.le_refl _,λ_ h=>h,λ_ _=>rfl,λ_ _ _=>⟨rfl,λh=>h⟩,λk h e=>?_,λi=>?_,.refl w,λd hd=>⟨hd,?_⟩⟩
 .
  rcases YE G K Y k with⟨r,o,x,π,h1,b,c⟩|h1|⟨h1,b⟩
  . rw[c]at e;exact .inl ⟨_,h,e,rfl⟩
  . rw[h1]at e;cases e
  . rw[b]at e;exact .inl ⟨_,h,e,rfl⟩
 .
  refine YR (λr o π e=>?_) (λr o x π e a=>?_)
  . simp[Pl.under]at e
  . simp[Pl.under]at a
 .
  refine YR (λr o π e=>?_) (λr o x π e a=>?_)
  . simp[Pl.under]at e
  . simp[Pl.under]at a
theorem qaF {G:Gh}{K Y k}(h:k.path=[]):(G.mv K Y).γ k=G.γ k:=by
 refine YR (λr o π e=>?_) (λr o x π e a=>?_)
 . rw[e]at h;simp[Pl.under]at h
 . rw[a]at h;simp[Pl.under]at h
def Seen (c:Cell):Prop:=(∀ a rows,c≠.own a rows)/\(∀ b,c≠.mp b)
theorem Sh.seen {G w p q c v}(h:Sh G w p c v)(a:Seen c):Sh G w q c v:=by
 cases c with
 |own d rows=>exact absurd rfl (a.1 _ rows)
 |mp b=>exact absurd rfl (a.2 b)
 |_=>exact h
theorem Tree.mv {G w K Y r o x c}(i:Y r o=some (some x))(h:Tree G w x c):
  Tree (G.mv K Y) w ⟨K,r,o⟩ c:=by
 intro rest rows e;have j:(x.under rest).path≠[]:=by simp[Pl.under]
 rcases h rest rows e with(⟨q,s,D⟩|⟨_,_,_,_,_,g,_⟩)|⟨hd,vs,T,k,l,t,v,y,z,A,p,B⟩
 . exact .inl (.inl ⟨by rw[Ze G K i];exact q,s,by simp[Pl.under]⟩)
 . exact absurd g j
 refine .inr ⟨hd,vs,T,by rw[Ze G K i];exact k,l,t,v,y,z,A,λ_=>p j,λr' b m d=>?_⟩;obtain⟨u,C,f⟩:=B r' b m d;refine⟨u,C,?_⟩;have a:=(p j).2 r' b m d;cases m with
 |own E n=>
  have k:(⟨(⟨K,r,o⟩:Pl).under rest,r',b⟩:Pl).toKey=(⟨K,r,o⟩:Pl).under (rest++[(r',b)]):=by simp[Pl.toKey,Pl.under]
  have l:(⟨x.under rest,r',b⟩:Pl).toKey=x.under (rest++[(r',b)]):=by simp[Pl.toKey,Pl.under]
  unfold Sh;rw[k,Ze G K i,<- l];exact f
 |val u=>exact f
 |nil=>exact f
 |imm rows=>exact f
 |dead=>exact f
 |_=>simp[qw]at a
theorem Sh.mv {G w K Y r o x c v}(b:Y r o=some (some x))(d:¬ Seen c)(h:Sh G w x c v):Sh (G.mv K Y) w ⟨K,r,o⟩ c v:=by
 have e:(⟨K,r,o⟩:Pl).toKey=(⟨K,r,o⟩:Pl).under []:=rfl;cases c with
 |own i rows=>unfold Sh;rw[e,Ze G K b,Pl.under_nil];exact h
 |mp j=>obtain⟨y,a,clock,f,g⟩:=h;exact⟨y,a,clock,by rw[e,Ze G K b,Pl.under_nil];exact f,g⟩
 |_=>exact absurd (by constructor<;>intros<;>simp) d
end
section
variable [Glob]
theorem Shp.comb {a b c}(e:Shp a b)(d:Shp a c):Shp b c:=by
 rcases e with e|⟨z,j,r2,f,g,h⟩
 . rw[<- e];exact d
 .
  rcases d with d|⟨n,o,k,i,l,m⟩
  . rw[<- d];exact .inr ⟨z,r2,j,g,f,h.symm⟩
  . rw[f]at i;cases i;exact .inr ⟨z,r2,k,g,l,by rw[<- h,m]⟩
theorem qcU {a b}(h:a.map List.length=b.map List.length){r o c}(g:cellAt a r o=some c):∃ i,cellAt b r o=some i:=by
 obtain⟨row,j,k⟩:=qc.1 g;have e:(a.map List.length)[r]? = some row.length:=by simp[j]
 rw[h,aH]at e;cases f:b[r]? with
 |none=>simp[f]at e
 |some d=>
  simp only[f,av,aa]at e;have:o<d.length:=by rw[e];exact(az.1 k).1
  exact⟨d[o],by simp[cellAt,f,this]⟩
theorem qau.comb {F u v p c1 w}(f:qau F u p c1)(e:qau F v p w):qau u v p w where
 old:=⟨c1,f.new⟩
 new:=e.new
 under:=e.under
 other k l:=by
  rcases f.other k l with⟨A,B⟩|⟨a,b,m,C,n⟩
  . rcases e.other k l with⟨x,b2⟩|⟨D,y,c,_⟩
    . exact .inl ⟨B,b2⟩
    . rw[A]at c;cases c
  . rcases e.other k l with⟨x,b2⟩|⟨D,y,c,q,g⟩
    . rw[x]at m;cases m
    . rw[m]at c;cases c;refine .inr ⟨b,y,C,q,by rw[<- n.len,g.len],λr o E s h=>?_⟩;obtain⟨I,i,G⟩:=g.cell r o E s h;obtain⟨z,j⟩:=qcU n.len i;obtain⟨H,d,t⟩:=n.cell r o z j h;rw[i]at d;cases d;exact⟨z,j,t.comb G⟩
 len:=by rw[e.len,f.len]
 tags k:=by rw[e.tags,f.tags]
 boxes r:=by rw[e.boxes,f.boxes]
theorem Fr.set_of_get {F:Fr}{p m}(h:F.get p=some m)(c):∃ F',F.set p c=some F':=by
 have up:∀ (π:List (Nat×Nat)) (f i:List (List Cell)),getR f π=some i->cellAt i p.r p.o=some m->∃ r2,updR (putAt p.r p.o c) f π=some r2:=by
  intro π
  induction π with
  |nil=>intro f i e k;simp only[getR,aa]at e;subst e;exact⟨setRow f p.r p.o c,by simp only[updR,putAt,k]⟩
  |cons y π n=>
   obtain⟨a,b⟩:=y;intro f i e k;simp only[getR]at e;cases j:cellAt f a b with
   |none=>simp[j]at e
   |some c1=>
    cases c1 with
    |own o q=>simp only[j]at e;obtain⟨r2,l⟩:=n _ _ e k;exact⟨setRow f a b (.own o r2),by simp only[updR,j,l]⟩
    |_=>simp[j]at e
 unfold Fr.get at h;cases g:F.rowsAt p.key with
 |none=>simp[g]at h
 |some q=>
  simp only[g,ae]at h;unfold Fr.rowsAt at g;cases d:F.rows p.key.root with
  |none=>simp[d]at g
  |some r=>simp only[d,ae]at g;obtain⟨r2,l⟩:=up _ _ _ g h;exact⟨F.setRows p.key.root r2,by unfold Fr.set;simp only[d,l]⟩
structure Shr (G:Gh) (F:Fr) (G':Gh) (F':Fr):Prop where
 γ:G'.γ=G.γ
 lv:G'.lv=G.lv
 im:∀ b,G.im b->G'.im b
 new:∀ b,G'.im b->G.im b\/∃ k h,Uses F k/\G.γ k=some h/\h.b=b
 uses:∀ k,Uses F' k->Uses F k
theorem Shr.refl (G)(F):Shr G F G F:=⟨rfl,rfl,λ_ h=>h,λ_ h=>.inl h,λ_ h=>h⟩
theorem Shr.trans {G d e F f g}(a:Shr G F d f)(c:Shr d f e g):Shr G F e g where
 γ:=by rw[c.γ,a.γ]
 lv:=by rw[c.lv,a.lv]
 im b h:=c.im b (a.im b h)
 new b h:=by
  rcases c.new b h with h|⟨k,x,i,j,l⟩
  . exact a.new b h
  . exact .inr ⟨k,x,a.uses k i,by rw[<- a.γ];exact j,l⟩
 uses k h:=a.uses k (c.uses k h)
theorem qY.lv {G G'}(a:G'.γ=G.γ)(b:G'.lv=G.lv):∀ {l:List Cell} {vs:List Value},qY G l vs->qY G' l vs:=by intro l vs h;refine h.ghost (λr c=>?_) (λk _=>by rw[a]);cases r<;>simp_all[Gh.ok]
theorem Sh.shr {G G' F F' w}(a:Shr G F G' F'){p c v}(m:∀ i,c≠.mp i)(h:Sh G w p c v):Sh G' w p c v:=by
 have ok:∀ r,G.ok r->G'.ok r:=λr l=>by cases r<;>simp_all[Gh.ok,a.lv]
 cases c with
 |val u=>exact h
 |nil=>exact h
 |imm rows=>exact RelI.mono a.im (λ_ _=>rfl) h
 |own y rows=>unfold Sh;rw[a.γ];exact h
 |mp i=>exact absurd rfl (m i)
 |mpb i=>exact h.elim
 |ptr q=>obtain⟨n,x,d,g⟩:=h;exact⟨ok _ n,x,by rw[a.γ];exact d,g⟩
 |cptr row o=>obtain⟨b,base,vs,T,fr,d,g,k,s⟩:=h;exact⟨b,base,vs,T,fr,a.im _ d,g,k,λj c e=>let ⟨u,t,l⟩:=s j c e;⟨u,t,l.mono a.im (λ_ _=>rfl)⟩⟩
 |ref q=>exact⟨ok _ h.1,by rw[a.γ];exact h.2⟩
 |clo f fs cs=>obtain⟨vs,us,d,g,k⟩:=h;exact⟨vs,us,d,g.lv a.γ a.lv,k.lv a.γ a.lv⟩
 |dead=>exact h
def Hold (G:Gh)(w:World)(F:Fr):Option Pl->Cell->Value->Prop
 |none,c,v=>Seen c/\c≠.dead/\(∀ q,c≠.ref q)/\(∀ q,c=.ptr q->q.key.path=[])/\∀ p,Sh G w p c v
 |some s,c,v=>(∃ k r o,s=⟨⟨.slot k,[]⟩,r,o⟩)/\¬ Seen c/\Sh G w s c v/\Tree G w s c/\∀ π,¬ Uses F (s.under π)
theorem Hold.one {G w F x c v}(h:Hold G w F x c v):oneC v=true:=by
 cases x with
 |none=>exact(h.2.2.2.2 ⟨⟨.res,[]⟩,0,0⟩).one
 |some s=>exact h.2.2.1.one
theorem Tree.shr {G G' F F' w}(a:Shr G F G' F')(b:GInv G w){s c}(j:∀ π,¬ Uses F (s.under π))(h:Tree G w s c):Tree G' w s c:=by
 intro rest rows e;rcases(h rest rows e).arr (by simp[Pl.under])with⟨l,m,n⟩|⟨hd,vs,T,f,p,q,t,v,y,z,g,A⟩
 . exact .inl (.inl ⟨by rw[a.γ];exact l,m,n⟩)
 refine .inr ⟨hd,vs,T,by rw[a.γ];exact f,p,λB=>?_,t,v,y,z,g,λr o c i=>?_⟩
 .
  rcases a.new _ B with h|⟨k,x,C,D,E⟩
  . exact q h
  . have:=b.inj _ _ _ _ f D E.symm;exact j rest (this▸C)
 . obtain⟨u,H,d⟩:=A r o c i;refine⟨u,H,d.shr a ?_⟩;intro J I;have:=(g (by simp[Pl.under])).2 r o c i;rw[I]at this;simp[qw]at this
theorem Hold.shr {G G' F F' w}(a:Shr G F G' F')(b:GInv G w){x c v}(h:Hold G w F x c v):Hold G' w F' x c v:=by
 cases x with
 |none=>exact⟨h.1,h.2.1,h.2.2.1,h.2.2.2.1,λp=>(h.2.2.2.2 p).shr a h.1.2⟩
 |some s=>
  obtain⟨j,f,g,l,e⟩:=h;refine⟨j,f,?_,l.shr a b e,λπ m=>e π (a.uses _ m)⟩;cases c with
  |own D rows=>exact g.shr a (by intros;simp)
  |mp E=>
   obtain⟨y,d,clock,i,n,o,q,r,t⟩:=g;refine⟨y,d,clock,by rw[a.γ];exact i,n,o,λu=>?_,r,t.mono a.im (λ_ _=>rfl)⟩;rcases a.new _ u with h|⟨k,z,A,B,C⟩
   . exact q h
   . have:=b.inj _ _ _ _ i B C.symm;exact e [] (by rw[Pl.under_nil,this];exact A)
  |_=>exact absurd (by constructor<;>intros<;>simp) f
theorem qau.uses {F F' p c}(j:qau F F' p c)(hd:deps p c=[])(u:∀ rest,subR c rest=none){k}(v:Uses F' k):Uses F k:=by
 have row:∀ k rows,F'.rowsAt k=some rows->(∀ rest,k≠p.under rest)/\∃ a,F.rowsAt k=some a/\Like (if k=p.key then some (p.r,p.o)else none) a rows:=by
  intro k rows e;have r:∀ rest,k≠p.under rest:=by intro rest w;rw[w,j.under,u]at e;cases e
  rcases j.other k r with⟨_,h⟩|⟨a,b,d,y,l⟩
  . rw[h]at e;cases e
  . rw[y]at e;cases e;exact⟨r,a,d,l⟩
 rcases v with⟨z,A⟩|⟨x,B,g,i⟩
 .
  cases e:F'.rowsAt k with
  |none=>simp[e]at z
  |some rows=>obtain⟨_,a,d,_⟩:=row k rows e;exact .inl ⟨by rw[d];rfl,A⟩
 .
  by_cases f:x=p
  . subst f;rw[j.new]at g;cases g;rw[hd]at i;simp at i
  .
   cases e:F'.rowsAt x.key with
   |none=>simp[Fr.get,e]at g
   |some rows=>
    have m:cellAt rows x.r x.o=some B:=by simpa [Fr.get,e]using g
    obtain⟨_,a,d,l⟩:=row _ rows e;have n:(if x.key=p.key then some (p.r,p.o)else none)≠some (x.r,x.o):=by
     split
     . rename_i D;simp only[ne_eq,aa,ai]
       rintro ⟨s,t⟩
       exact f (by cases x;cases p;simp_all)
     . simp
    obtain⟨C,o,q⟩:=l.cell _ _ _ m n;refine .inr ⟨x,C,by simp[Fr.get,d,o],?_⟩;rcases q with rfl|⟨_,E,r2,s,t,_⟩
    . exact i
    . subst s;subst t;exact i
theorem Val.unique {G w F ts p u j}(h:Val G w F ts p u)(l:Val G w F ts p j):u=j:=by
 rcases h with⟨d,x,vs,T,e,f,g⟩|⟨i,k,v,V,e,f,g,n⟩
 .
  rcases l with⟨_,x',o,r,a,b,c⟩|⟨i,_⟩
  . rw[e]at a;cases a;rw[f]at b;cases b;rw[g]at c;exact aQ c
  . exact absurd d i
 .
  rcases l with⟨d,_⟩|⟨_,q,v',s,a,b,c,m⟩
  . exact absurd d i
  . rw[e]at a;have:k=q:=by simpa using a
    subst this;rw[f]at b;cases b;rw[g]at c;cases c;rw[n]at m;exact aQ m
theorem RelF.tree {G w F ts}(h:RelF G w F ts){p c}(e:F.get p=some c):Tree G w p c:=by intro rest rows a;refine h.cont _ _ ?_ (p.under_inHeap rest);rw[qoN e];exact a
theorem RelF.empty {G w F F' ts}(h:RelF G w F ts){p}(d:qau F F' p .dead)(e:∀ b,F.get p≠some (.mpb b)):RelF G w F' ts:=by
 refine h.set d (λ_=>rfl) (λu f=>?_) (Tree.flat (by intros;simp)) e;obtain⟨j,a⟩:=d.old;obtain⟨k,c,hs⟩:=h.val a (λb g=>e b (g▸a));have:=f.unique c;subst this;rcases hs with⟨_,i⟩|hs
 . exact .inl ⟨rfl,i⟩
 . exact .inr hs.one
theorem yD {G w F ts}(h:RelF G w F ts){p c v}(k:∀ q,Sh G w q (.ref p) v)(e:F.get p=some c)(i:¬ Seen c):
  Sh G w p c v/\∀ u,Val G w F ts p u->u=v:=by
 obtain⟨u,l,a⟩:=h.val e (λm n=>i (by subst n;exact⟨by simp,by simp⟩));obtain⟨_,b⟩:=k p;have key:Sh G w p c u/\u=v:=by
  rcases a with⟨hd,_⟩|a
  . subst hd;exact absurd (by constructor<;>intros<;>simp) i
  .
   refine⟨a,?_⟩;cases c with
   |own o rows=>
    rcases b with⟨b,d⟩|⟨x,b,d⟩<;>rcases a with⟨f,_,g⟩|⟨y,f,_,g,_⟩<;>rw[b]at f<;>cases f
    . rw[g,d]
    . rw[g,d]
   |mp m=>obtain⟨y,_,_,f,_,g,_⟩:=a;rcases b with⟨b,d⟩|⟨x,b,d⟩<;>rw[b]at f<;>cases f;rw[g,d]
   |_=>exact absurd (by constructor<;>intros<;>simp) i
 obtain⟨k1,rfl⟩:=key;exact⟨k1,λr j=>j.unique l⟩
def qjM (G:Gh)(p:Pl)(c:Cell)(b:Nat):Prop:=G.im b\/∃ rest rows h,subR c rest=some rows/\G.γ (p.under rest)=some h/\h.b=b
theorem RelF.freezeAt {G w F F' ts}(h:RelF G w F ts){p l rows}(e:F.get p=some (.own l rows))(L:qau F F' p (.imm (qG rows))):
  let G':Gh:={ G with im:=qjM G p (.own l rows) }
  RelF G' w F' ts/\Gain G w G' w/\Shr G F G' F'/\∀ u,Sh G w p (.own l rows) u->RelI G'.im w (.imm (qG rows)) u:=by
 intro G';obtain⟨M,t⟩:=Fr.set_of_get e .dead;have c:=Fr.setTo t;have Q:=h.empty c (by intro _;rw[e];simp);have tr:=h.tree e;have d:∀ b,G.im b->G'.im b:=λb a=>.inl a;have nouse:∀ π,M.rowsAt (p.under π)=none:=λπ=>by rw[c.under];rfl
 have r2:RelF G' w M ts:=by
  refine Q.freeze _ d (λb a=>?_) (λk x A m a=>?_)
  . rcases a with a|⟨_,_,y,_,i,rfl⟩
    . exact h.inv.imlt b a
    . exact h.inv.lt _ _ i
  .
   rcases a with a|⟨rest,B,y,r,i,a⟩
   . exact a
   .
    exfalso;have:=h.inv.inj _ _ _ _ A i a.symm;subst this;rcases m with⟨N,_⟩|⟨z,Z,n,f⟩
    . rw[nouse]at N;cases N
    .
     cases rest with
     |nil=>rw[Pl.under_nil]at f;have:=Xu f;subst this;rw[c.new]at n;cases n
     |cons C rest=>
      have:z.key=p.under ((C::rest).dropLast):=by
       have R:z.key.path++[(z.r,z.o)]=p.key.path++(p.r,p.o)::(C::rest):=by have:=congrArg Key.path f;simpa [Pl.toKey,Pl.under]using this
       have O:z.key.root=p.key.root:=by have:=congrArg Key.root f;simpa [Pl.toKey,Pl.under]using this
       have P:z.key.path=p.key.path++(p.r,p.o)::(C::rest).dropLast:=by have:=congrArg List.dropLast R;rw[List.dropLast_concat,List.dropLast_append_of_ne_nil (by simp)]at this;simpa using this
       cases o:z.key;rw[o]at O P;simp only[Pl.under,Key.mk.injEq];exact⟨O,P⟩
      unfold Fr.get at n;rw[this,nouse]at n;cases n
 have g:∀ u,Sh G w p (.own l rows) u->RelI G'.im w (.imm (qG rows)) u:=by intro u r;have:=Tree.relI (im':=G'.im) d (.own l rows) p u rfl r tr (λrest B y t S=>.inr ⟨rest,B,y,t,S,rfl⟩);simpa [immC]using this
 have D:=c.comb L;refine⟨r2.set D (λ_=>rfl) (λu E=>.inr ?_) (Tree.flat (by intros;simp)) (by intro _;rw[c.new];simp),?_,?_,g⟩
 .
  obtain⟨U,q,j⟩:=h.val e;rcases j with⟨hd,_⟩|j
  . cases hd
  .
   have:u=U:=by
    rcases E with⟨W,x,vs,T,H,I,J⟩|⟨K,k,v,V,H,I,J,X⟩
    . exact Val.unique (G:=G) (F:=F) (ts:=ts) (.inl ⟨W,x,vs,T,H,I,J⟩) q
    . have s:=c.tags k;rw[I]at s;cases m:F.slots[k]? with
      |none=>simp[m]at s
      |some Y=>simp only[m,av,aa]at s;exact Val.unique (.inr ⟨K,k,Y,V,H,m,J,by rw[<- s];exact X⟩) q
   subst this;exact g u j
 .
  refine⟨Nat.le_refl _,d,λ_ _=>rfl,λb _ K=>⟨rfl,λa=>?_⟩,λk x A=>.inl ⟨k,x,A,rfl⟩,λ_=>rfl,.refl w,λ_ h=>⟨h,rfl⟩⟩;rcases a with a|⟨_,_,y,_,i,a⟩
  . exact a
  . exact absurd a (K _ _ i)
 .
  refine⟨rfl,rfl,d,λb a=>?_,λk E=>L.uses rfl (λ_=>rfl) E⟩;rcases a with a|⟨rest,B,y,r,i,a⟩
  . exact .inl a
  . exact .inr ⟨_,y,.inl ⟨by rw[qoN e,r];rfl,p.under_inHeap rest⟩,i,a⟩
theorem qa2 {c}(h:¬ Seen c){x}:x.toKey∈deps x c:=by
 cases c with
 |own a rows=>simp[deps]
 |mp b=>simp[deps]
 |_=>exact absurd (by constructor<;>intros<;>simp) h
theorem qbK {cx G w F F' ts c j v}(h:RelF G w F ts)(D:Seen c)(r:∀ p,Sh G w p c v)(e:takeC cx F c=some (j,F')):
  ∃ im' x,RelF { G with im:=im' } w F' ts/\Gain G w { G with im:=im' } w/\Shr G F { G with im:=im' } F'/\Hold { G with im:=im' } w F' x j v /\
   ∀ s,x=some s->Uses F s.toKey/\c=.ref s:=by
 have same:c≠.dead->j=c->F'=F->(∀ q,c≠.ref q)->(∀ q,c=.ptr q->q.key.path=[])->∃ im' x,RelF { G with im:=im' } w F' ts/\Gain G w { G with im:=im' } w/\Shr G F { G with im:=im' } F'/\Hold { G with im:=im' } w F' x j v /\
   ∀ s,x=some s->Uses F s.toKey/\c=.ref s:=by
  rintro hd rfl rfl t E
  exact⟨G.im,none,h,Gain.refl G w,Shr.refl G F',⟨D,hd,t,E,r⟩,by intros;simp_all⟩
 have f:∀ p n g,F.get p=some n->¬ Seen n->(∃ k,p.key=⟨.slot k,[]⟩)->c=.ref p->F.set p .dead=some g->j=n->F'=g.kill p ->
   ∃ im' x,RelF { G with im:=im' } w F' ts/\Gain G w { G with im:=im' } w/\Shr G F { G with im:=im' } F'/\Hold { G with im:=im' } w F' x j v /\
   ∀ s,x=some s->Uses F s.toKey/\c=.ref s:=by
  rintro p n g d i ⟨k,H⟩ rfl a rfl rfl
  have u:=Fr.setTo a;have A:=h.empty u (by intro B C;rw[d]at C;cases C;exact i ⟨by simp,by simp⟩);have l:=(yD h r d i).1;refine⟨G.im,some p,A.mapC (qM p),Gain.refl G w,⟨rfl,rfl,λ_ h=>h,λ_ h=>.inl h,λk I=>?_⟩,⟨⟨k,p.r,p.o,?_⟩,i,l,h.tree d,λπ=>vH A u.new π⟩,λs e=>?_⟩
  . exact u.uses rfl (λ_=>rfl) ((Weak.mapC (qM p) g).uses I)
  . cases p;simp_all
  . cases e;exact⟨.inr ⟨p,j,d,qa2 i⟩,rfl⟩
 cases c with
 |ref p=>
  simp only[takeC]at e;cases d:F.get p with
  |none=>simp[d]at e
  |some n=>
   have b:(cx.temp p.key.root&&p.key.path.isEmpty)=true->∃ k,p.key=⟨.slot k,[]⟩:=by intro m;simp only[aC,List.isEmpty_iff]at m;cases t:p.key.root<;>rw[t]at m<;>simp[Cx.temp]at m;rename_i k;exact⟨k,by cases H:p.key;simp_all⟩
   cases n with
   |own N rows=>
    simp only[d]at e;split at e
    . rename_i m;cases a:F.set p .dead with
      |none=>simp[a]at e
      |some g=>simp only[a,av,aa,ai]at e;exact f p _ g d (λo=>o.1 _ rows rfl) (b m) rfl a e.1.symm e.2.symm
    . cases a:F.set p (.imm (qG rows))with
      |none=>simp[a]at e
      |some g=>simp only[a,av,aa,ai]at e;obtain⟨rfl,rfl⟩:=e;obtain⟨J,K,L,M⟩:=h.freezeAt d (Fr.setTo a);have l:=(yD h r d (λo=>o.1 _ rows rfl)).1;exact⟨_,none,J,K,L,⟨⟨by intros;simp,by intros;simp⟩,by simp,by intros;simp,by intros;simp_all,λp=>M v l⟩,by intros;simp_all⟩
   |mp B=>
    simp only[d]at e;split at e
    . rename_i m;cases a:F.set p .dead with
      |none=>simp[a]at e
      |some g=>simp only[a,av,aa,ai]at e;exact f p _ g d (λo=>o.2 B rfl) (b m) rfl a e.1.symm e.2.symm
    . cases e
   |_=>simp[d]at e
 |dead=>simp[takeC]at e
 |ptr q=>
  simp only[takeC]at e;split at e
  . rename_i y;simp only[aa,ai]at e;exact same (by simp) e.1.symm e.2.symm (by intros;simp) (λO z=>by cases z;simpa using y)
  . cases e
 |_=>simp only[takeC,aa,ai]at e;exact same (by simp) e.1.symm e.2.symm (by intros;simp) (λq y=>by cases y)
theorem YW {cx G w F F' ts c a v}(h:RelF G w F ts)(b:Seen c)(d:∀ p,Sh G w p c v)(e:takeC cx F c=some (a,F')):
  ∃ im' x,RelF { G with im:=im' } w F' ts/\Gain G w { G with im:=im' } w/\Shr G F { G with im:=im' } F'/\Hold { G with im:=im' } w F' x a v /\
   ∀ s,x=some s->Uses F s.toKey:=
 let ⟨im',x,f,g,i,j,k⟩:=qbK h b d e;⟨im',x,f,g,i,j,λs e=>(k s e).1⟩
end
section
variable [Glob]
def RelV (G:Gh)(w:World)(v:AV)(V:Value):Prop:=QO v.tag (v.rows.map List.length) V/\∀ r o c,cellAt v.rows r o=some c->∃ u,qX v.tag V r o=some u/\(c=.dead\/(Seen c/\∀ p,Sh G w p c u))
theorem qcc (p)(c):Seen (qf7 p c):=by cases c<;>simp only[qf7]<;>constructor<;>intros<;>simp
theorem Sh.view {G w p c u}(h:Sh G w p c u)(a:G.ok p.key.root)(q):Sh G w q (qf7 p c) u:=by
 cases c with
 |own e rows=>
  rcases h with⟨b,_,d⟩|⟨x,b,_,d,_⟩
  . exact⟨a,.inl ⟨b,d⟩⟩
  . exact⟨a,.inr ⟨x,b,d⟩⟩
 |mp f=>obtain⟨x,_,_,b,_,d,_⟩:=h;exact⟨a,.inr ⟨x,b,d⟩⟩
 |_=>exact h
theorem Xi (k)(r):∀ (l:List Cell) (a o:Nat),(xA k r a l)[o]? = (l[o]?).map (qf7 ⟨k,r,a+o⟩)
 |[],a,o=>by simp[xA]
 |c::l,a,0=>by simp[xA]
 |c::l,a,o+1=>by simp only[xA,List.getElem?_cons_succ];rw[Xi k r l (a+1) o];congr 2;simp only[Pl.mk.injEq,true_and];omega
theorem YU (k)(r):∀ (l:List Cell) (a:Nat),(xA k r a l).length=l.length
 |[],_=>rfl
 |c::l,a=>by simp[xA,YU k r l]
theorem qaf (k):∀ (rows:List (List Cell)) (a r:Nat),(xm k a rows)[r]? = (rows[r]?).map (xA k (a+r) 0)
 |[],a,r=>by simp[xm]
 |l::rows,a,0=>by simp[xm]
 |l::rows,a,r+1=>by simp only[xm,List.getElem?_cons_succ];rw[qaf k rows (a+1) r];congr 2;omega
theorem QI (k):∀ (rows:List (List Cell)) (a:Nat),(xm k a rows).map List.length=rows.map List.length
 |[],_=>rfl
 |l::rows,a=>by simp[xm,YU,QI k rows]
theorem qeK {k rows r o b}(h:cellAt (xm k 0 rows) r o=some b):∃ c,cellAt rows r o=some c/\b=qf7 ⟨k,r,o⟩ c:=by
 unfold cellAt at *;rw[qaf]at h;cases d:rows[r]? with
 |none=>simp[d]at h
 |some row=>
  simp only[d,av,ae,Xi]at h;cases a:row[o]? with
  |none=>simp[a]at h
  |some c=>simp only[a,av,aa,Nat.zero_add]at h;exact⟨c,by simp[a],h.symm⟩
theorem ZP (G w)(v):qm v=.dead\/(Seen (qm v)/\∀ p,Sh G w p (qm v) v):=by
 unfold qm;split
 . exact .inr ⟨⟨by intros;simp,by intros;simp⟩,λp=>rfl⟩
 .
  split
  . rename_i h;exact .inr ⟨⟨by intros;simp,by intros;simp⟩,λp=>⟨rfl,h⟩⟩
  . exact .inl rfl
theorem one_cell {c r o b}(h:cellAt [[c]] r o=some b):r=0/\o=0/\b=c:=by
 obtain⟨row,a,d⟩:=qc.1 h;cases r with
 |zero=>simp at a;subst a;cases o<;>simp at d;exact⟨rfl,rfl,d.symm⟩
 |succ r=>simp at a
theorem zI {l r o b}(h:cellAt [l] r o=some b):r=0/\l[o]? = some b:=by
 obtain⟨row,a,c⟩:=qc.1 h;cases r with
 |zero=>simp at a;subst a;exact⟨rfl,c⟩
 |succ r=>simp at a
theorem RelV.c {G w x V}(h:x=.dead\/(Seen x/\∀ p,Sh G w p x V)):RelV G w (.c x) V:=by refine⟨trivial,λr o c a=>?_⟩;obtain⟨rfl,rfl,rfl⟩:=one_cell a;exact⟨V,rfl,h⟩
theorem xI (G w)(v):RelV G w (yR v) v:=by
 unfold yR;split
 .
  rename_i cs;refine⟨⟨cs,rfl,by simp⟩,λr o c a=>?_⟩;obtain⟨rfl,b⟩:=zI a;have a:(cs.toList.map qm)[o]? = some c:=b;simp only[aH,aP]at a;cases d:cs[o]? with
  |none=>simp[d]at a
  |some u=>simp only[d,av,aa]at a;subst a;exact⟨u,by simp[qX,AV.ag,d],ZP G w u⟩
 . exact RelV.c (.inl rfl)
 . exact RelV.c (ZP G w _)
theorem qx {G w F}{a:Act}(h:RelF G w F a.tmps)(x):RelV G w (F.ev x) (a.eval x):=by
 cases x with
 |tmp s=>
  simp only[Fr.ev,Act.eval];cases hs:F.slots[s]? with
  |none=>exact RelV.c (.inl rfl)
  |some v=>
   obtain⟨V,i,b,j⟩:=h.slots s v hs;have:a.tmps.getD s Go.undef=V:=by rw[aJ,i];rfl
   rw[this];refine⟨by simp only[QI];exact b,λr o c d=>?_⟩;obtain⟨k,e,rfl⟩:=qeK d;obtain⟨u,l,hs⟩:=j r o k e;refine⟨u,l,?_⟩;rcases hs with rfl|hs
   . exact .inl rfl
   . exact .inr ⟨qcc _ _,λp=>hs.view trivial p⟩
 |const v=>exact xI G w v
 |global g=>exact RelV.c (.inr ⟨⟨by intros;simp,by intros;simp⟩,λp=>⟨rfl,rfl⟩⟩)
 |func f=>exact RelV.c (.inr ⟨⟨by intros;simp,by intros;simp⟩,λp=>⟨#[],#[],rfl,trivial,trivial⟩⟩)
def vz (G:Gh)(w:World):List Cell->List Value->Prop
 |[],[]=>True
 |c::l,u::us=>(c=.dead\/(Seen c/\∀ p,Sh G w p c u))/\vz G w l us
 |_,_=>False
theorem vz.of_get {G w}:∀ {l:List Cell} {us:List Value},us.length=l.length ->
  (∀ (o:Nat) c,l[o]? = some c->∃ u,us[o]? = some u/\(c=.dead\/(Seen c/\∀ p,Sh G w p c u)))->vz G w l us
 |[],[],_,_=>trivial
 |c::l,u::us,a,h=>by obtain⟨f,b,d⟩:=h 0 c rfl;cases b;exact⟨d,vz.of_get (by simpa using a) λo c e=>h (o+1) c e⟩
 |[],_::_,a,_=>by simp at a
 |_::_,[],a,_=>by simp at a
theorem qo1 {v}(h:oneC v=true):v.cells = #[v]:=by cases v<;>first|rfl|(simp[oneC]at h)
theorem RelV.cells {G w v V}(h:RelV G w v V){l}(e:v.cells=some l):l=[.dead]\/vz G w l V.cells.toList:=by
 obtain⟨j,g⟩:=h;unfold AV.cells at e;split at e
 .
  rename_i x d f;simp only[aa]at e;subst e;rw[f]at g;obtain⟨u,a,b⟩:=g 0 0 x rfl;rw[d]at a;simp only[qX,aa]at a;subst a;rcases b with rfl|b
  . exact .inl rfl
  . right;rw[qo1 ((b.2 ⟨⟨.res,[]⟩,0,0⟩).one)];exact⟨.inr b,trivial⟩
 . rename_i m d f;simp only[aa]at e;subst e;right;rw[d,f]at j;obtain⟨vs,rfl,i⟩:=j;refine vz.of_get (by simpa [Value.cells]using i) λo c k=>?_;obtain⟨u,a,b⟩:=g 0 o c (by rw[f];simp[cellAt,k]);rw[d]at a;exact⟨u,by simpa [qX,Value.cells]using a,b⟩
 . cases e
theorem vz.shr {G G' F F' w}(d:Shr G F G' F'):∀ {l:List Cell} {us:List Value},vz G w l us->vz G' w l us
 |[],[],_=>trivial
 |c::l,u::us,⟨e,f⟩=>⟨e.imp (λh=>h) λ⟨a,b⟩=>⟨a,λp=>(b p).shr d a.2⟩,vz.shr d f⟩
 |[],_::_,h=>h.elim
 |_::_,[],h=>h.elim
theorem RelV.shr {G G' F F' w}(d:Shr G F G' F'){v V}(h:RelV G w v V):RelV G' w v V:=⟨h.1,λr o c e=>let ⟨u,f,g⟩:=h.2 r o c e;⟨u,f,g.imp (λh=>h) λ⟨a,b⟩=>⟨a,λp=>(b p).shr d a.2⟩⟩⟩
def qvg (G:Gh)(w:World)(F:Fr):List (Option Pl)->List Cell->List Value->Prop
 |[],[],[]=>True
 |x::xs,c::l,u::us=>Hold G w F x c u/\qvg G w F xs l us
 |_,_,_=>False
def Dis (xs:List (Option Pl)):Prop:=∀ (i j:Nat) s,xs[i]? = some (some s)->xs[j]? = some (some s)->i=j
theorem qvg.shr {G G' F F' w}(b:Shr G F G' F')(a:GInv G w):∀ {xs:List (Option Pl)} {l:List Cell} {us:List Value},qvg G w F xs l us->qvg G' w F' xs l us
 |[],[],[],_=>trivial
 |_::_,_::_,_::_,⟨c,d⟩=>⟨c.shr b a,d.shr b a⟩
 |[],[],_::_,h=>h.elim
 |[],_::_,_,h=>h.elim
 |_::_,[],_,h=>h.elim
 |_::_,_::_,[],h=>h.elim
theorem qvg.len {G w F}:∀ {xs:List (Option Pl)} {l:List Cell} {us:List Value},qvg G w F xs l us->xs.length=l.length/\us.length=l.length
 |[],[],[],_=>⟨rfl,rfl⟩
 |_::_,_::_,_::_,⟨_,a⟩=>by have:=a.len;simp[this.1,this.2]
 |[],[],_::_,h=>h.elim
 |[],_::_,_,h=>h.elim
 |_::_,[],_,h=>h.elim
 |_::_,_::_,[],h=>h.elim
theorem qvg.get {G w F}:∀ {xs:List (Option Pl)} {l:List Cell} {us:List Value},qvg G w F xs l us->∀ {o:Nat} {c:Cell},l[o]? = some c ->
  ∃ x u,xs[o]? = some x/\us[o]? = some u/\Hold G w F x c u
 |x::xs,c::l,u::us,⟨a,b⟩,0,d,e=>by cases e;exact⟨x,u,rfl,rfl,a⟩
 |x::xs,c::l,u::us,⟨a,b⟩,o+1,d,e=>b.get (o:=o) e
 |[],[],[],_,o,d,e=>by simp at e
 |[],[],_::_,h,_,_,_=>h.elim
 |[],_::_,_,h,_,_,_=>h.elim
 |_::_,[],_,h,_,_,_=>h.elim
 |_::_,_::_,[],h,_,_,_=>h.elim
theorem qvg.nouse {G w F xs l us}(h:qvg G w F xs l us){s}(d:some s∈xs):¬ Uses F s.toKey:=by
 obtain⟨i,a⟩:=List.mem_iff_getElem?.1 d;have:i<l.length:=by rw[<- h.len.1];exact(az.1 a).1
 obtain⟨x,u,b,_,e⟩:=h.get (o:=i) (c:=l[i]) (by simp[this]);rw[a]at b;cases b;exact e.2.2.2.2 []
theorem Dis.cons {x xs}(h:Dis xs)(c:∀ s,x=some s->some s∉xs):Dis (x::xs):=by
 intro i j s a b;cases i with
 |zero=>
  cases j with
  |zero=>rfl
  |succ j=>simp only[aI,aa]at a;exact absurd (aM (by simpa using b)) (c s a)
 |succ i=>
  cases j with
  |zero=>simp only[aI,aa]at b;exact absurd (aM (by simpa using a)) (c s b)
  |succ j=>rw[h i j s (by simpa using a) (by simpa using b)]
theorem Zl {cx w ts}:∀ (l b:List Cell) (us:List Value) (G:Gh) (F F':Fr),RelF G w F ts->vz G w l us->qxi cx F l=some (b,F') ->
  ∃ im' xs,RelF { G with im:=im' } w F' ts/\Gain G w { G with im:=im' } w/\Shr G F { G with im:=im' } F'/\qvg { G with im:=im' } w F' xs b us/\Dis xs/\∀ s,some s∈xs->Uses F s.toKey:=by
 intro l
 induction l with
 |nil=>
  intro b us G F F' h a e;simp only[qxi,aa,ai]at e;obtain⟨rfl,rfl⟩:=e;cases us with
  |nil=>exact⟨G.im,[],h,Gain.refl G w,Shr.refl G F,trivial,by intro i j s q;simp at q,by simp⟩
  |cons u us=>exact a.elim
 |cons c l r=>
  intro b us G F F' h a e;cases us with
  |nil=>exact a.elim
  |cons u us=>
   simp only[qxi]at e;cases d:takeC cx F c with
   |none=>simp[d]at e
   |some y=>
    obtain⟨c1,m⟩:=y;simp only[d]at e;cases f:qxi cx m l with
    |none=>simp[f]at e
    |some z=>
     obtain⟨t,v⟩:=z;simp only[f,aa,ai]at e;obtain⟨rfl,rfl⟩:=e;have hc:Seen c/\∀ p,Sh G w p c u:=by
      rcases a.1 with rfl|hc
      . simp[takeC]at d
      . exact hc
     obtain⟨A,x,n,B,g,o,C⟩:=YW h hc.1 hc.2 d;obtain⟨k,xs,D,b2,b3,b4,b5,b6⟩:=r t us _ m v n (a.2.shr g) f;refine⟨k,x::xs,D,B.trans b2,g.trans b3,⟨o.shr b3 n.inv,b4⟩,b5.cons λs E hm=>?_,λs hm=>?_⟩
     . subst E;exact o.2.2.2.2 [] (b6 s hm)
     . rcases List.mem_cons.1 hm with hm|hm
       . exact C s hm.symm
       . exact g.uses _ (b6 s hm)
theorem Uses.put {F d v}(q:∀ r o c s t,cellAt v.rows r o=some c->c≠.own s t){k}(hd:∀ r o c,cellAt v.rows r o=some c->k∉deps ⟨⟨.slot d,[]⟩,r,o⟩ c)(u:Uses (F.put (some d) v) k):Uses F k:=by
 have b:∀ π rows,π≠[]->(F.put (some d) v).rowsAt ⟨.slot d,π⟩=some rows->False:=by
  intro π rows h e;by_cases f:d<F.slots.length
  . rw[zN f,qbi q h]at e;cases e
  . simp[Fr.rowsAt,Fr.rows,Fr.put,f]at e
 rcases u with⟨i,hi⟩|⟨x,c,g,p⟩
 .
  by_cases a:k.root=.slot d
  .
   exfalso;have j:k.path≠[]:=by
    rcases hi with hi|hi
    . exact hi
    . rw[a]at hi;simp[Root.boxed]at hi
   cases e:(F.put (some d) v).rowsAt k with
   |none=>simp[e]at i
   |some rows=>exact b k.path rows j (by rw[<- e];congr 1;cases k;simp_all)
  . rw[Yw a]at i;exact .inl ⟨i,hi⟩
 .
  by_cases a:x.key.root=.slot d
  .
   exfalso;by_cases j:x.key.path=[]
   .
    have l:x.key=⟨.slot d,[]⟩:=by cases m:x.key;simp_all
    unfold Fr.get at g;rw[l]at g;by_cases f:d<F.slots.length
    . rw[zN f]at g;have n:cellAt v.rows x.r x.o=some c:=by simpa [getR]using g
      refine hd _ _ _ n ?_;have:x=⟨⟨.slot d,[]⟩,x.r,x.o⟩:=by cases x;simp_all
      rw[<- this];exact p
    . simp[Fr.rowsAt,Fr.rows,Fr.put,f]at g
   . unfold Fr.get at g;cases e:(F.put (some d) v).rowsAt x.key with
     |none=>simp[e]at g
     |some rows=>exact b x.key.path rows j (by rw[<- e];congr 1;cases m:x.key;simp_all)
  . refine .inr ⟨x,c,?_,p⟩;unfold Fr.get at *;rw[Yw a]at g;exact g
theorem qc9 (F:Fr)(d)(v v'):(F.put (some d) v).put (some d) v'=F.put (some d) v':=by simp[Fr.put,List.set_set]
theorem Zn (f:Cell->Cell)(rows:List (List Cell)):(rows.map (·.map f)).map List.length=rows.map List.length:=by simp[Function.comp_def]
theorem qea {rows}(h:(rows.any (·.any qy))=false){r o c}(a:cellAt rows r o=some c):qy c=false:=by obtain⟨row,b,d⟩:=qc.1 a;rw[List.any_eq_false]at h;have:=h row (aM b);simp only[Bool.not_eq_true,List.any_eq_false]at this;simpa using this c (aM d)
theorem qvp {c}:Seen c↔qy c=false:=by cases c<;>simp[Seen,qy]
theorem qY.mv {G}(K)(Y):∀ {l:List Cell} {vs:List Value},qY G l vs->qY (G.mv K Y) l vs
 |[],[],_=>trivial
 |c::l,v::vs,⟨d,e⟩=>by
  refine⟨?_,e.mv K Y⟩;cases c with
  |ptr q=>obtain⟨a,b,x,c1,f⟩:=d;exact⟨a,b,x,by rw[qaF b];exact c1,f⟩
  |val u=>exact d
  |_=>exact d.elim
 |[],_::_,h=>h.elim
 |_::_,[],h=>h.elim
theorem Hold.still {G w F c v}(h:Hold G w F none c v)(K Y)(p):Sh (G.mv K Y) w p c v:=by
 obtain⟨e,l,g,i,j⟩:=h;have d:=j p;cases c with
 |own m rows=>exact absurd rfl (e.1 _ rows)
 |mp k=>exact absurd rfl (e.2 k)
 |ref q=>exact absurd rfl (g q)
 |ptr q=>obtain⟨a,x,b,c⟩:=d;exact⟨a,x,by rw[qaF (i q rfl)];exact b,c⟩
 |clo f fs cs=>obtain⟨vs,us,a,b,c⟩:=d;exact⟨vs,us,a,b.mv K Y,c.mv K Y⟩
 |_=>exact d
def zg (rows:List (List Cell))(X:Nat->Nat->Option (Option Pl))(r o:Nat):Option (Option Pl):=
 match cellAt rows r o with
 |some c=>if qy c then X r o else none
 |none=>none
theorem qfY {rows X}(d:∀ r o s,zg rows X r o=some (some s)->∃ k a b,s=⟨⟨.slot k,[]⟩,a,b⟩)(hd:∀ r o r' c s,zg rows X r o=some (some s)->zg rows X r' c=some (some s)->r=r'/\o=c):Inj (zg rows X):=by intro r o r' c x x' π h f g e;obtain⟨k,a,b,rfl⟩:=d _ _ _ f;obtain⟨l,m,n,rfl⟩:=d _ _ _ g;simp only[Pl.under,List.nil_append,Key.mk.injEq,Root.slot.injEq,List.cons.injEq,ai]at e;obtain⟨rfl,⟨rfl,rfl⟩,rfl⟩:=e;obtain⟨i,j⟩:=hd _ _ _ _ _ f g;exact⟨i,j,rfl⟩
theorem qgw {G w F ts}(h:RelF G w F ts){d v V}(X)(C:QO v.tag (v.rows.map List.length) V)(q:∀ r o c,cellAt v.rows r o=some c->∃ u,qX v.tag V r o=some u/\(c=.dead\/∃ x,X r o=some x/\Hold G w F x c u))(hd:∀ r o r' L s,zg v.rows X r o=some (some s)->zg v.rows X r' L=some (some s)->r=r'/\o=L):
  ∃ G',RelF G' w (F.putS (some d) v) (ts.setIfInBounds d V)/\Gain G w G' w:=by
 unfold Fr.putS;simp only;by_cases D:(v.rows.any (·.any qy))=true
 .
  rw[aD D];have O:=h.mapC (qP (.slot d))
  let E:AV:=⟨v.tag,v.rows.map (·.map λ_=>.dead)⟩
  have g:∀ r o c,cellAt E.rows r o=some c->c=.dead/\∃ t,cellAt v.rows r o=some t:=λr o c e=>by obtain⟨t,l,e⟩:=zH e;exact⟨e,t,l⟩
  have P:RelF G w ((F.killR (.slot d)).put (some d) E) (ts.setIfInBounds d V):=by
   refine O.put_flat ⟨by rw[Zn];exact C,λr o c e=>?_⟩ (λr o c z p e=>by rw[(g r o c e).1];simp)
   obtain⟨rfl,t,l⟩:=g r o c e;obtain⟨u,i,_⟩:=q r o t l;exact⟨u,i,.inl rfl⟩
  have j:∀ r o s,zg v.rows X r o=some (some s)->∃ c u,cellAt v.rows r o=some c/\qX v.tag V r o=some u/\Hold G w F (some s) c u:=by
   intro r o s e;unfold zg at e;cases a:cellAt v.rows r o with
   |none=>simp[a]at e
   |some c=>
    simp only[a]at e;split at e
    . rename_i Q;obtain⟨u,i,b⟩:=q r o c a;rcases b with rfl|⟨x,b,f⟩
      . simp[qy]at Q
      . rw[b]at e;cases e;exact⟨c,u,rfl,i,f⟩
    . cases e
  have A:Inj (zg v.rows X):=qfY (λr o s e=>by obtain⟨c,u,_,_,f⟩:=j r o s e;exact f.1) hd;have H:∀ π,π≠[]->¬ Uses ((F.killR (.slot d)).put (some d) E) ⟨.slot d,π⟩:=λπ m=>vQ h m (λr o c z p S e=>by rw[(g r o c e).1];simp) (λr o c e k M=>by rw[(g r o c e).1]at M;simp[deps]at M);have R:=P.mv ⟨.slot d,[]⟩ A (λr o π _=>H _ (by simp)) (λr o s π e i=>by obtain⟨c,u,_,_,f⟩:=j r o s e;have I:=Uses.put (λr o c z p e=>by rw[(g r o c e).1];simp) (λr o c e=>by rw[(g r o c e).1];simp[deps]) i;exact f.2.2.2.2 π ((Weak.mapC (qP (.slot d)) F).uses I));have qxd:∀ r o c,cellAt v.rows r o=some c->∃ u,qX v.tag V r o=some u/\(c=.dead\/Sh (G.mv ⟨.slot d,[]⟩ (zg v.rows X)) w ⟨⟨.slot d,[]⟩,r,o⟩ c u):=by
   intro r o c e;obtain⟨u,i,b⟩:=q r o c e;refine⟨u,i,?_⟩;rcases b with rfl|⟨x,b,f⟩
   . exact .inl rfl
   .
    right;cases x with
    |none=>exact f.still _ _ _
    |some s=>
     have n:zg v.rows X r o=some (some s):=by
      unfold zg;simp only[e];rw[aD,b];cases J:qy c with
      |true=>rfl
      |false=>exact absurd (qvp.2 J) f.2.1
     exact f.2.2.1.mv n f.2.1
  refine⟨_,?_,Gain.mv ⟨.slot d,[]⟩ (zg v.rows X)⟩;have N:=R.put (d:=d) (v:=v) (V:=V) ⟨C,qxd⟩ (λπ rows m e=>?_)
  . rw[qc9]at N;simpa using N
  .
   cases π with
   |nil=>exact absurd rfl m
   |cons y π=>
    obtain⟨r,o⟩:=y;simp only[getR]at e;cases a:cellAt v.rows r o with
    |none=>simp[a]at e
    |some c=>
     cases c with
     |own z p=>
      simp only[a]at e;obtain⟨u,i,b⟩:=q r o _ a;rcases b with b|⟨x,b,f⟩
      . cases b
      . cases x with
        |none=>exact absurd rfl (f.1.1 _ p)
        |some s=>
         have n:zg v.rows X r o=some (some s):=by unfold zg;simp only[a];have:qy (.own z p)=true:=rfl;rw[aD this,b]
         exact(f.2.2.2.1.mv n) π rows e
     |_=>simp[a]at e
 .
  have B:(v.rows.any (·.any qy))=false:=by simpa using D
  rw[aF D];refine⟨G,h.put_flat ⟨C,λr o c e=>?_⟩ (λr o c z p e K=>?_),Gain.refl G w⟩
  .
   obtain⟨u,i,b⟩:=q r o c e;refine⟨u,i,?_⟩;rcases b with rfl|⟨x,b,f⟩
   . exact .inl rfl
   . right;cases x with
     |none=>exact f.2.2.2.2 _
     |some s=>exact absurd (qvp.2 (qea B e)) f.2.1
  . have:=qea B e;rw[K]at this;simp[qy]at this
end
section
variable [Glob]
theorem qad (r r')(b):(qgl r b).lookup r'=if r'=r then none else b.lookup r':=by
 induction b with
 |nil=>simp[qgl]
 |cons x b d=>
  obtain⟨a,e⟩:=x;simp only[qgl];by_cases c:a=r
  .
   subst c;rw[aD rfl,d];by_cases h:r'=a
   . rw[aD h,aD h]
   . have:(r'==a)=false:=by simpa using h
     rw[aF h,aF h,List.lookup_cons,this]
  .
   rw[aF c,List.lookup_cons,List.lookup_cons,d];by_cases h:r'=a
   . subst h;simp[c]
   . have:(r'==a)=false:=by simpa using h
     simp[this]
theorem RelF.drop {G w F ts}(h:RelF G w F ts)(d):RelF { G with lv:=λk=>G.lv k/\k≠d } w (F.drop (.loc d)) ts:=by
 have j:∀ r,((F.drop (.loc d)).boxes.lookup r)=if r=.loc d then none else(F.boxes.lookup r).map (·.map (zn (.loc d))):=by intro r;simp only[Fr.drop,Fr.mapC,qH,qad];split<;>rfl
 have y:Weak F (F.drop (.loc d)):=by
  have z:=Weak.mapC (yN (.loc d)) F;refine⟨by simp[Fr.drop,Fr.mapC],λk v' e=>z.slot k v' e,λr D e=>?_⟩;rw[j]at e;split at e
  . cases e
  . exact z.box r D (by simpa [Fr.mapC,qH]using e)
 refine h.weak y _ (λk b=>⟨b.1,?_⟩) (λk b=>?_) (λx c e=>?_)
 . rw[j,aF (by simpa using b.2)];simpa using h.live k b.1
 .
  rw[j]at b;split at b
  . cases b
  . rename_i t;cases A:F.boxes.lookup (.loc k)with
    |none=>simp[A]at b
    |some l=>exact⟨(h.boxes _ _ A).2,by simpa using t⟩
 .
  rcases y.get e with rfl|u
  . exact⟨λq h=>(by rcases h with h|h<;>cases h),λf fs cs q h=>(by cases h)⟩
  .
   have ok:=h.okPtr u
   -- E cell H m by zn,or B in J array
   have v:x.key.path=[]->zn (.loc d) c=c:=by
    intro n;have i:x.key.root≠.loc d:=by
     intro a;unfold Fr.get at e;have:x.key=⟨.loc d,[]⟩:=by cases b:x.key;simp_all
     rw[this]at e;simp[Fr.rowsAt,Fr.rows,j]at e
    have:(F.drop (.loc d)).get x=(F.mapC (zn (.loc d))).get x:=by
     unfold Fr.get;congr 1;unfold Fr.rowsAt;congr 1;cases a:x.key.root with
     |slot k=>rfl
     |_=>simp only[Fr.rows,j,Fr.mapC,qH];rw[aF (by rw[<- a];exact i)]
    rw[this,qaH F _ n,u]at e;simpa using e
   by_cases n:x.key.path=[]
   .
    have g:=v n;refine⟨λq p=>?_,λf fs cs q s C=>?_⟩
    .
     have o:=ok.1 q p;have:q.key.root≠.loc d:=by
      rcases p with rfl|rfl
      . simp only[zn]at g;split at g
        . cases g
        . assumption
      . simp only[zn]at g;split at g
        . cases g
        . assumption
     cases a:q.key.root<;>rw[a]at o<;>first|trivial|(refine⟨o,?_⟩;rw[a]at this;simpa using this)
    . have o:=ok.2 f fs cs q s C;have:q.key.root≠.loc d:=by
       subst s;simp only[zn]at g;split at g
       . cases g
       . rename_i I;intro a;apply I;rw[List.any_eq_true];exact⟨_,C,by simpa using a⟩
      cases a:q.key.root<;>rw[a]at o<;>first|trivial|(refine⟨o,?_⟩;rw[a]at this;simpa using this)
   . have:=h.pure u n;refine⟨λq p=>?_,λf fs cs q s _=>?_⟩
     . rcases p with rfl|rfl<;>simp[qw]at this
     . subst s;simp[qw]at this
theorem qgb {G w F ts}(h:RelF G w F ts){d}(hd:F.boxes.lookup (.loc d)=none)(π):¬ Uses F ⟨.loc d,π⟩:=by
 have g:∀ π,F.rowsAt ⟨.loc d,π⟩=none:=λπ=>by simp[Fr.rowsAt,Fr.rows,hd]
 have i:¬ G.lv d:=λl=>by have:=h.live d l;rw[hd]at this;cases this
 rintro (⟨k,_⟩|⟨x,c,j,a⟩)
 . rw[g]at k;cases k
 .
  have b:x.key.root≠.loc d:=by
   intro k;unfold Fr.get at j;have:x.key=⟨.loc d,x.key.path⟩:=by cases a:x.key;simp_all
   rw[this,g]at j;cases j
  have ok:=h.okPtr j;cases c with
  |own p rows=>simp only[deps,aU]at a;exact b (by have:=congrArg Key.root a;simpa [Pl.toKey]using this.symm)
  |mp r=>simp only[deps,aU]at a;exact b (by have:=congrArg Key.root a;simpa [Pl.toKey]using this.symm)
  |ref q=>
   simp only[deps,aU]at a;have o:=ok.1 q (.inr rfl);have:q.key.root=.loc d:=by have:=congrArg Key.root a;simpa [Pl.toKey]using this.symm
   rw[this]at o;exact i o
  |ptr q=>simp only[deps,aU]at a;have o:=ok.1 q (.inl rfl);rw[<- a]at o;exact i o
  |clo f fs cs=>simp only[deps,List.mem_filterMap]at a;obtain⟨m,n,e⟩:=a;cases m<;>simp at e;rename_i q;have o:=ok.2 f fs cs q rfl n;rw[e]at o;exact i o
  |_=>simp[deps]at a
theorem qY.up {G G'}(e:∀ k,k.path=[]->(∀ d,k.root=.loc d->G.lv d)->G'.γ k=G.γ k)(f:∀ r,G.ok r->G'.ok r):∀ {l:List Cell} {vs:List Value},qY G l vs->qY G' l vs
 |[],[],_=>trivial
 |c::l,v::vs,⟨g,i⟩=>by
  refine⟨?_,i.up e f⟩;cases c with
  |ptr q=>obtain⟨a,b,x,c1,j⟩:=g;exact⟨f _ a,b,x,by rw[e _ b (λd hd=>by rw[hd]at a;exact a)];exact c1,j⟩
  |val u=>exact g
  |_=>exact g.elim
 |[],_::_,h=>h.elim
 |_::_,[],h=>h.elim
theorem qmQ {G w F ts}(h:RelF G w F ts){d}(hd:F.boxes.lookup (.loc d)=none){l us}(T X)(hl:us.size=l.length)(C:∀ (o:Nat) c,l[o]? = some c->∃ u,us[o]? = some u/\((c=.dead/\oneC u=true)\/∃ x,X 0 o=some x/\Hold G w F x c u))(R:∀ r o r' S s,zg [l] X r o=some (some s)->zg [l] X r' S=some (some s)->r=r'/\o=S):
  ∃ G',RelF G' (w.alloc (.cells us T)) { F with boxes:=(.loc d,l)::F.boxes } ts/\Gain G w G' (w.alloc (.cells us T))/\G'.lv d /\
   ∃ x,G'.γ ⟨.loc d,[]⟩=some x/\x.b=w.heap.size/\x.isMap=false:=by
 have U:=qgb h hd;have E:∀ r o s,zg [l] X r o=some (some s)->r=0/\∃ c u,l[o]? = some c/\us[o]? = some u/\Hold G w F (some s) c u:=by
  intro r o s e;unfold zg at e;cases b:cellAt [l] r o with
  |none=>simp[b]at e
  |some c=>
   simp only[b]at e;obtain⟨rfl,n⟩:=zI b;split at e
   . rename_i ho;obtain⟨u,P,z⟩:=C o c n;rcases z with⟨rfl,_⟩|⟨x,z,m⟩
     . simp[qy]at ho
     . rw[z]at e;cases e;exact⟨rfl,c,u,n,P,m⟩
   . cases e
 have W:Inj (zg [l] X):=qfY (λr o s e=>by obtain⟨_,c,u,_,_,m⟩:=E r o s e;exact m.1) R
 let K:Key:=⟨.loc d,[]⟩
 let p:=G.mv K (zg [l] X)
 have Y:RelF p w F ts:=h.mv K W (λr o π _=>by simpa [Pl.under,K]using U ((r,o)::π)) (λr o s π e=>by obtain⟨_,c,u,_,_,m⟩:=E r o s e;exact m.2.2.2.2 π)
 let x:Hd:=⟨w.heap.size,l.length,1,1,false⟩
 have H:RelF (p.add K x) (w.alloc (.cells us T)) F ts:=Y.add K x rfl _ (U [])
 let G':Gh:={ p.add K x with lv:=λk=>G.lv k\/k=d }
 have Z:¬ G.lv d:=λhl=>by have:=h.live d hl;rw[hd]at this;cases this
 have hok:∀ r,(p.add K x).ok r->G'.ok r:=λr t=>by
  cases r with
  |loc k=>exact .inl t
  |_=>trivial
 have A:∀ r,p.ok r->G'.ok r:=λr t=>by
  cases r with
  |loc k=>exact .inl t
  |_=>trivial
 have γK:G'.γ K=some x:=by simp[G',Gh.add]
 have B:∀ k,k≠K->G'.γ k=p.γ k:=λk g=>by simp[G',Gh.add,g]
 have hrow:∀ k,k.root≠.loc d->({ F with boxes:=(.loc d,l)::F.boxes }:Fr).rowsAt k=F.rowsAt k:=by
  intro k g;unfold Fr.rowsAt;congr 1;cases t:k.root with
  |slot j=>rfl
  |_=>
   have:(k.root==Root.loc d)=false:=by simpa using g
   rw[t]at this;simp only[Fr.rows,List.lookup_cons,this]
 have I:∀ π,({ F with boxes:=(.loc d,l)::F.boxes }:Fr).rowsAt ⟨.loc d,π⟩=getR [l] π:=by intro π;simp[Fr.rowsAt,Fr.rows,List.lookup_cons]
 have D:∀ o c s u,l[o]? = some c->X 0 o=some (some s)->Hold G w F (some s) c u->∀ rest rows,subR c rest=some rows->qU G' (w.alloc (.cells us T)) ((⟨K,0,o⟩:Pl).under rest) rows:=by
  intro o c s u n z m rest rows e;have J:zg [l] X 0 o=some (some s):=by
   unfold zg;have:cellAt [l] 0 o=some c:=by simp[cellAt,n]
   simp only[this];rw[aD,z];cases L:qy c with
   |true=>rfl
   |false=>exact absurd (qvp.2 L) m.2.1
  have tr:=(m.2.2.2.1.mv J (K:=K)) rest rows e;have qCj:Same p w (w.alloc (.cells us T)):=Same.alloc Y.inv _;have Q:((⟨K,0,o⟩:Pl).under rest).path≠[]:=by simp[Pl.under]
  rcases(tr.same qCj).arr Q with⟨g1,g2,g3⟩|⟨y,vs,T',e1,e2,e3,e4,e5,e6,e7,e8,e9⟩
  . exact .inl (.inl ⟨by rw[B _ (λe=>Q (by rw[e]))];exact g1,g2,g3⟩)
  refine .inr ⟨y,vs,T',by rw[B _ (λe=>Q (by rw[e]))];exact e1,e2,e3,e4,e5,e6,e7,e8,λr S c' hc'=>?_⟩;obtain⟨u',hu',hs'⟩:=e9 r S c' hc';refine⟨u',hu',Sh.ghost (G:=p) (G':=G') rfl A rfl (λk g=>?_) hs'⟩;have M:=(e8 Q).2 r S c' hc';cases c'<;>simp[qw]at M<;>simp only[deps,List.not_mem_nil,aU]at g;subst g;exact B _ (λe=>by have:=congrArg Key.path e;simp[Pl.toKey,K]at this)
 refine⟨G',⟨⟨H.inv.inj,H.inv.lt,H.inv.imlt,H.inv.glob⟩,H.size,λk v e=>?_,λr l' e=>?_,λk g=>?_,λk rows e hi=>?_⟩,?_,.inr rfl,x,γK,rfl,rfl⟩
 . obtain⟨V,hV,t⟩:=H.slots k v e;exact⟨V,hV,t.map λr o c u C N=>Sh.ghost (G:=p.add K x) (G':=G') rfl hok rfl (λk' _=>rfl) N⟩
 .
  simp only[List.lookup_cons]at e;split at e
  . rename_i t;have:r=.loc d:=by simpa using t
    subst this;exact⟨rfl,.inr rfl⟩
  . have:=h.boxes r l' e;exact⟨this.1,by cases r<;>first|trivial|exact .inl this.2⟩
 .
  simp only[List.lookup_cons];rcases g with g|rfl
  . split
    . rfl
    . exact h.live k g
  . simp
 .
  by_cases t:k.root=.loc d
  .
   obtain⟨r,π⟩:=k;simp only at t;subst t;rw[I]at e;cases π with
   |nil=>
    simp only[getR,aa]at e;subst e;refine .inr ⟨x,us,T,γK,rfl,λhi=>?_,?_,by simp[x],by simp[x,hl],by simp[x],λQ=>absurd rfl Q,λr o c b=>?_⟩
    . have:=h.inv.imlt _ hi;simp[x]at this
    . rw[heap_alloc,aD rfl]
    .
     obtain⟨rfl,n⟩:=zI b;obtain⟨u,P,z⟩:=C o c n;refine⟨u,by simpa using P,?_⟩;rcases z with⟨rfl,hone⟩|⟨y,hy,m⟩
     . exact hone
     .
      cases y with
      |none=>
       have N:=m.still K (zg [l] X) ⟨K,0,o⟩;have O:Sh p (w.alloc (.cells us T)) ⟨K,0,o⟩ c u:=N.same (Same.alloc Y.inv _).m;refine Sh.ghost (G:=p) (G':=G') rfl A rfl (λk g=>B k λe=>?_) O;subst e
       -- a pointer to the box that wasn't there
       cases c with
       |ptr q=>simp only[deps,aU]at g;have:=(m.2.2.2.2 ⟨K,0,o⟩).1;rw[<- g]at this;exact Z this
       |clo f fs cs=>
        obtain⟨vs,us',_,e2,e3⟩:=m.2.2.2.2 ⟨K,0,o⟩;have go:∀ (l:List Cell) (vs:List Value),qY G l vs->K∈l.filterMap (λc=>match c with|.ptr q=>some q.key|_=>none)->False:=by
         intro l
         induction l with
         |nil=>intro vs _ hm;simp at hm
         |cons c l ih=>
          intro vs h hm;cases vs with
          |nil=>exact h.elim
          |cons v vs=>
           simp only[List.filterMap_cons]at hm;split at hm
           . exact ih vs h.2 hm
           . rename_i k0 C;rcases List.mem_cons.1 hm with rfl|hm
             . cases c<;>simp at C;have:=h.1.1;rw[C]at this;exact Z this
             . exact ih vs h.2 hm
        simp only[deps,List.filterMap_append,List.mem_append]at g;rcases g with g|g
        . exact go _ _ e2 g
        . exact go _ _ e3 g
       |ref q=>exact absurd rfl (m.2.2.1 q)
       |own zz rows=>exact absurd rfl (m.1.1 _ rows)
       |mp es=>exact absurd rfl (m.1.2 es)
       |_=>simp[deps]at g
      |some s=>
       have J:zg [l] X 0 o=some (some s):=by
        unfold zg;simp only[b];rw[aD,hy];cases L:qy c with
        |true=>rfl
        |false=>exact absurd (qvp.2 L) m.2.1
       have N:=(m.2.2.1.mv J m.2.1 (K:=K))
       have O:Sh p (w.alloc (.cells us T)) ⟨K,0,o⟩ c u:=N.same (Same.alloc Y.inv _).m;refine Sh.ghost (G:=p) (G':=G') rfl A rfl (λk g=>B k λe=>?_) O;subst e;cases c with
       |own zz rows=>simp only[deps,aU]at g;have:=congrArg Key.path g;simp[Pl.toKey,K]at this
       |mp es=>simp only[deps,aU]at g;have:=congrArg Key.path g;simp[Pl.toKey,K]at this
       |_=>exact m.2.1 (by constructor<;>intros<;>simp)
   |cons y π=>
    obtain⟨r,o⟩:=y;simp only[getR]at e;cases b:cellAt [l] r o with
    |none=>simp[b]at e
    |some c=>
     cases c with
     |own zz rs=>
      simp only[b]at e;obtain⟨rfl,n⟩:=zI b;obtain⟨u,P,z⟩:=C o _ n;rcases z with⟨z,_⟩|⟨y,hy,m⟩
      . cases z
      . cases y with
        |none=>exact absurd rfl (m.1.1 _ rs)
        |some s=>exact D o _ s u n hy m π rows e
     |_=>simp[b]at e
  . rw[hrow k t]at e;rcases H.cont k rows e hi with hn|⟨y,vs,T',e1,e2,e3,e4,e5,e6,e7,e8,e9⟩
    . exact .inl hn
    exact .inr ⟨y,vs,T',e1,e2,e3,e4,e5,e6,e7,e8,λr o c C=>let ⟨u,P,N⟩:=e9 r o c C;⟨u,P,Sh.ghost (G:=p.add K x) (G':=G') rfl hok rfl (λk' _=>rfl) N⟩⟩
 . have g1:=Gain.mv (G:=G) (w:=w) K (zg [l] X);have g2:Gain p w (p.add K x) (w.alloc (.cells us T)):=Gain.alloc Y.inv K x rfl _ (by intro i;simp[K]) (by intro d' hd' g;simp only[K,Key.mk.injEq,Root.loc.injEq,and_true]at g;subst g;have:=h.live d hd';rw[hd]at this;cases this) (λ_ _ _ e=>by cases e;rfl);have g3:Gain (p.add K x) (w.alloc (.cells us T)) G' (w.alloc (.cells us T)):=⟨Nat.le_refl _,λ_ h=>h,λ_ _=>rfl,λ_ _ _=>⟨rfl,λh=>h⟩,λk y e=>.inl ⟨k,y,e,rfl⟩,λ_=>rfl,.refl _,λ_ h=>⟨.inl h,rfl⟩⟩
   exact(g1.trans g2).trans g3
end
end Ab
end Go.Proofs.YtnnhdcidgfjfpaaGreatDoor
