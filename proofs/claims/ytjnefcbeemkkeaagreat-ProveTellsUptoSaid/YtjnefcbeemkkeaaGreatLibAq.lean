/-
  The interpreter of the model's code over values, and its soundness: part 1 of 5. No claim stands here.
-/
import Derived.Test.YtjnefcbeemkkeaaGreatRows
import Derived.WalkKit
import Derived.Laws.BytesArg
import Derived.Deep.AppendSrc
import Derived.Room.Entries
import Derived.Lib.ConvBytes
import Derived.Orders
import Derived.LoopN
import Derived.Recover
import Derived.Below
import Derived.KernelRfl
import Derived.WideKeyArgs
import Derived.OpenShut
import Derived.ProofKit
import Derived.JoinedCond
import Derived.ChangeSame
set_option linter.all false
namespace Go.Proofs.YtjnefcbeemkkeaaGreat
namespace Ab
theorem aa {α:Type _}(a b:α):(some a=some b)=(a=b):=Option.some.injEq a b
theorem ae {α β:Type _}(a:α)(f:α->Option β):(some a).bind f=f a:=rfl
theorem af {α:Sort _}(a b:α):(bif false then a else b)=b:=rfl
theorem ah {α:Sort _}(a b:α):(bif true then a else b)=a:=rfl
theorem ai {α β:Type _}(a:α)(b:β)(c:α)(d:β):((a,b)=(c,d))=(a=c/\b=d):=Prod.mk.injEq a b c d
theorem aj:(!true)=false:=rfl
theorem au {α:Type _}{a:α}{l:List α}:a∈a::l:=List.mem_cons_self
theorem av {α β:Type _}(a:α)(f:α->β):(some a).map f=some (f a):=rfl
theorem ax {α:Type _}{l:List α}{i:Nat}(h:i<l.length):l[i]? = some l[i]:=List.getElem?_eq_getElem h
theorem ay {α β:Type}(a:α)(w:World)(f:α->World->Result β):(Result.ok a w).andThen f=f a w:=Result.andThen_ok a w f
theorem az {α:Type _}{i:Nat}{a:α}{l:List α}:l[i]? = some a↔∃ h,l[i]'h=a:=List.getElem?_eq_some_iff
theorem aB {α:Type _}(y:α){a:α}{l:List α}(h:a∈l):a∈y::l:=List.mem_cons_of_mem y h
theorem aD (a b:Bool):((a&&b)=true)=(a=true/\b=true):=Bool.and_eq_true a b
theorem aF {c:Prop}{h:Decidable c}(hc:c){α:Sort _}{t e:α}:(if c then t else e)=t:=if_pos hc
theorem aG {c:Prop}{h:Decidable c}(hc:¬c){α:Sort _}{t e:α}:(if c then t else e)=e:=if_neg hc
theorem aH {α:Type _}{b:α}{β:Type _}{x:Option β}{f:β->α}:x.map f=some b↔∃ a,x=some a/\f a=b:=Option.map_eq_some_iff
theorem aI {α β:Type _}{f:α->β}{l:List α}{i:Nat}:(l.map f)[i]? =l[i]?.map f:=List.getElem?_map
theorem aJ {α:Type _}{a:α}{l:List α}:(a::l)[0]? = some a:=rfl
theorem aK {α:Type _}{xs:Array α}{i:Nat}{d:α}:xs.getD i d=xs[i]?.getD d:=Array.getD_eq_getD_getElem?
theorem aL {α β:Type}(P:Program)(w:World)(x:Sem α)(f:α->Sem β):(x>>=f).run P w=(x.run P w).andThen fun a w'=>(f a).run P w':=Sem.run_bind P w x f
theorem aM {α:Type _}{a:α}{l:List α}(m:List α)(h:a∈l):a∈l++m:=List.mem_append_left m h
theorem aN {α:Type _}{l:List α}{i:Nat}{a:α}(h:l[i]? = some a):a∈l:=List.mem_of_getElem? h
theorem aO {p:Prop}[inst:Decidable p](h:¬p):decide p=false:=decide_eq_false h
theorem aQ {p:Prop}[inst:Decidable p](h:p):decide p=true:=decide_eq_true h
theorem aR {α:Type _}{xs:Array α}{i:Nat}:xs.toList[i]? =xs[i]?:=Array.getElem?_toList
theorem aS {α:Type _}{a b:α}(h:some a=some b):a=b:=Option.some.inj h
theorem aT {α:Type _}{b:α}(l:List α){m:List α}(h:b∈m):b∈l++m:=List.mem_append_right l h
theorem aU:(false=true)=False:=Bool.false_eq_true
theorem aV {α:Type}(P:Program)(w:World)(a:α):(pure a:Sem α).run P w=.ok a w:=Sem.run_pure P w a
theorem aW {α:Type _}{a b:α}:a∈[b]↔a=b:=List.mem_singleton
theorem aX {α:Type _}{xs:Array α}{i j:Nat}{a:α}:(xs.setIfInBounds i a)[j]? = if i=j then if i<xs.size then some a else none else xs[j]?:=Array.getElem?_setIfInBounds
theorem aY {p:Prop}[inst:Decidable p]:(decide p=true)=p:=decide_eq_true_eq
theorem aZ {α:Type _}{l m:List α}{i:Nat}(h:i<l.length):(l++m)[i]? =l[i]?:=List.getElem?_append_left h
theorem bg {α:Type _}{l m:List α}{i:Nat}(h:l.length<=i):(l++m)[i]? =m[i-l.length]?:=List.getElem?_append_right h
inductive Root where
 |slot (k:Nat)
 |par (k:Nat)
 |loc (k:Nat)
 |res
 deriving DecidableEq
structure Key where
 root:Root
 path:List (Nat×Nat)
 deriving DecidableEq
structure Pl where
 key:Key
 r:Nat
 o:Nat
 deriving DecidableEq
def Pl.toKey (p:Pl):Key:=⟨p.key.root,p.key.path++[(p.r,p.o)]⟩
def Pl.isM (p:Pl):Bool:=p.key.path.isEmpty&&p.r != 0
inductive Cell where
 |val (v:Value)
 |nil
 |imm (rows:List (List Cell))
 |own (sz:Nat) (rows:List (List Cell))
 |mp (es:List (Value×List Cell))
 |mpb (es:List (Value×List Cell))
 |ptr (p:Pl)
 |cptr (row:List Cell) (o:Nat)
 |ref (p:Pl)
 |clo (f:Nat) (first caps:List Cell)
 |dead
 deriving Inhabited
inductive Tag where
 |one
 |agg
 |tup (l:List Bool)
structure AV where
 tag:Tag
 rows:List (List Cell)
def AV.c (x:Cell):AV:=⟨.one,[[x]]⟩
def AV.ag (l:List Cell):AV:=⟨.agg,[l]⟩
def AV.undef:AV:=⟨.tup [],[]⟩
def AV.deadv:AV:=.c .dead
def AV.int (n:Int):AV:=.c (.val (.int .i64 n))
def AV.bool (b:Bool):AV:=.c (.val (.bool b))
def AV.cells (v:AV):Option (List Cell):=
 match v.tag,v.rows with
 |.one,[[x]]=>some [x]
 |.agg,[l]=>some l
 |_,_=>none
def AV.cell (v:AV):Option Cell:=
 match v.tag,v.rows with
 |.one,[[x]]=>some x
 |_,_=>none
def mapO {α β:Type}(f:α->Option β):List α->Option (List β)
 |[]=>some []
 |x::l=>match f x,mapO f l with
  |some y,some ys=>some (y::ys)
  |_,_=>none
structure Fr where
 slots:List AV
 boxes:List (Root×List Cell)
structure Cx where
 P:Program
 hand:Nat->Nat->Bool     -- (function,parameter): the parameter is handed over,not lent
 vars:List Nat             -- the slots that are variables: assigned to
 gone:List Nat             -- the slots that are read in their own region alone
 dead:List (Nat×Nat)     -- of each loop (its first region) the variables that are not read any more,as bits
 mv:List Nat               -- the slots into which a load moves what is owned
def cellAt (rows:List (List Cell))(r o:Nat):Option Cell:=(rows[r]?).bind (·[o]?)
def setRow (rows:List (List Cell))(r o:Nat)(c:Cell):List (List Cell):=rows.set r ((rows[r]?.getD []).set o c)
def getR:List (List Cell)->List (Nat×Nat)->Option (List (List Cell))
 |rows,[]=>some rows
 |rows,(r,o)::π=>match cellAt rows r o with
  |some (.own _ rows')=>getR rows' π
  |_=>none
def updR (f:List (List Cell)->Option (List (List Cell))):List (List Cell)->List (Nat×Nat)->Option (List (List Cell))
 |rows,[]=>f rows
 |rows,(r,o)::π=>match cellAt rows r o with
  |some (.own zz rows')=>match updR f rows' π with
   |some rows''=>some (setRow rows r o (.own zz rows''))
   |none=>none
  |_=>none
def Fr.rows (F:Fr):Root->Option (List (List Cell))
 |.slot k=>(F.slots[k]?).map (·.rows)
 |r=>(F.boxes.lookup r).map fun l=>[l]
def YQ (r:Root)(l:List Cell):List (Root×List Cell)->List (Root×List Cell)
 |[]=>[]
 |(r',l')::rest=>if r'=r then(r,l)::rest else(r',l')::YQ r l rest
def Fr.setRows (F:Fr):Root->List (List Cell)->Fr
 |.slot k,rows=>match F.slots[k]? with
  |some v=>{ F with slots:=F.slots.set k { v with rows } }
  |none=>F
 |r,rows=>{ F with boxes:=YQ r (rows.headD []) F.boxes }
def Fr.rowsAt (F:Fr)(k:Key):Option (List (List Cell)):=(F.rows k.root).bind (getR · k.path)
def Fr.get (F:Fr)(p:Pl):Option Cell:=(F.rowsAt p.key).bind (cellAt · p.r p.o)
def putAt (r o:Nat)(c:Cell)(rs:List (List Cell)):Option (List (List Cell)):=match cellAt rs r o with
 |some _=>some (setRow rs r o c)
 |none=>none
def Fr.set (F:Fr)(p:Pl)(c:Cell):Option Fr:=
 match F.rows p.key.root with
 |some rows=>match updR (putAt p.r p.o c) rows p.key.path with
  |some rows'=>some (F.setRows p.key.root rows')
  |none=>none
 |none=>none
def Fr.put (F:Fr)(dst:Option Nat)(v:AV):Fr:=match dst with
 |some d=>{ F with slots:=F.slots.set d v }
 |none=>F
def qf7 (p:Pl):Cell->Cell
 |.own _ _|.mp _=>.ref p
 |c=>c
def xA (k:Key)(r:Nat):Nat->List Cell->List Cell
 |_,[]=>[]
 |o,c::l=>qf7 ⟨k,r,o⟩ c::xA k r (o+1) l
def xm (k:Key):Nat->List (List Cell)->List (List Cell)
 |_,[]=>[]
 |r,l::rest=>xA k r 0 l::xm k (r+1) rest
def oneC:Value->Bool
 |.agg _|.tuple _=>false
 |_=>true
def qm:Value->Cell
 |.slice none 0 0=>.nil
 |v=>if oneC v then .val v else .dead
def yR:Value->AV
 |.agg cs=>.ag (cs.toList.map qm)
 |.tuple _=>.deadv
 |v=>.c (qm v)
def Fr.ev (F:Fr):Operand->AV
 |.tmp s=>match F.slots[s]? with
  |some v=>{ v with rows:=xm ⟨.slot s,[]⟩ 0 v.rows }
  |none=>.deadv
 |.const v=>yR v
 |.global g=>.c (.val (.pointer (some ⟨g,0,none⟩)))
 |.func f=>.c (.clo f [] [])
mutual
def immC:Cell->Cell
 |.own _ rows=>.imm (qG rows)
 |.nil=>.imm []
 |c=>c
def qfz:List Cell->List Cell
 |[]=>[]
 |c::l=>immC c::qfz l
def qG:List (List Cell)->List (List Cell)
 |[]=>[]
 |l::rest=>qfz l::qG rest
end
theorem qiq (l):qfz l=l.map immC:=by induction l<;>simp_all[qfz]
theorem Yr (l):qG l=l.map (·.map immC):=by induction l<;>simp_all[qG,qiq]
def qw:Cell->Bool
 |.val _|.nil|.dead|.imm _|.own _ _=>true
 |_=>false
def qo {α:Type}(P:Program):Sem α->Option α
 |.pure a=>some a
 |.program k=>qo P (k P)
 |.mark _ k=>qo P k
 |_=>none
def conC:Cell->Option Value
 |.val v=>some v
 |.nil=>some (.slice none 0 0)
 |_=>none
def conL:List Cell->Option (List Value)
 |[]=>some []
 |c::l=>match conC c,conL l with
  |some v,some vs=>some (v::vs)
  |_,_=>none
def AV.con (v:AV):Option Value:=
 match v.tag,v.rows with
 |.one,[[x]]=>conC x
 |.agg,[l]=>(conL l).map fun vs=>.agg vs.toArray
 |_,_=>none
def under (p:Pl)(k:Key):Bool:=k.root=p.key.root&&p.toKey.path.isPrefixOf k.path
def vI (p:Pl):Cell->Cell
 |.ref q=>if under p q.toKey then .dead else .ref q
 |.ptr q=>if under p q.key then .dead else .ptr q
 |c=>c
def AV.mapC (f:Cell->Cell)(v:AV):AV:=⟨v.tag,v.rows.map (·.map f)⟩
def mapB (f:Cell->Cell):List (Root×List Cell)->List (Root×List Cell)
 |[]=>[]
 |(r,l)::rest=>(r,l.map f)::mapB f rest
def Fr.mapC (F:Fr)(f:Cell->Cell):Fr:={ slots:=F.slots.map (·.mapC f),boxes:=mapB f F.boxes }
def Fr.kill (F:Fr)(p:Pl):Fr:=F.mapC (vI p)
def Cx.temp (cx:Cx):Root->Bool
 |.slot k=>!cx.vars.contains k
 |_=>false
def takeC (cx:Cx)(F:Fr):Cell->Option (Cell×Fr)
 |.ref p=>match F.get p with
  |some (.own zz rows)=>
   if cx.temp p.key.root&&p.key.path.isEmpty then(F.set p .dead).map fun F'=>(.own zz rows,F'.kill p)
   else(F.set p (.imm (qG rows))).map fun F'=>(.imm (qG rows),F')
  |some (.mp es)=>if cx.temp p.key.root&&p.key.path.isEmpty then(F.set p .dead).map fun F'=>(.mp es,F'.kill p)else none
  |_=>none
 |.dead=>none
 |.ptr q=>if q.key.path.isEmpty then some (.ptr q,F)else none
 |c=>some (c,F)
def QB (cx:Cx)(F:Fr):List Cell->Option (List Cell×Fr)
 |[]=>some ([],F)
 |c::l=>match takeC cx F c with
  |some (c',F')=>match QB cx F' l with
   |some (l',F'')=>some (c'::l',F'')
   |none=>none
  |none=>none
def Qb (cx:Cx)(F:Fr)(v:AV):Option (AV×Fr):=
 match v.tag,v.rows with
 |.one,[[x]]=>(takeC cx F x).map fun (c,F')=>(.c c,F')
 |.agg,[l]=>(QB cx F l).map fun (l',F')=>(.ag l',F')
 |_,_=>none
def qy:Cell->Bool
 |.own _ _|.mp _=>true
 |_=>false
def Fr.setL (F:Fr)(p:Pl):Nat->List Cell->Option Fr
 |_,[]=>some F
 |j,c::l=>
  let q:Pl:={ p with o:=p.o+j }
  let F1:=if qy c then F.kill q else F
  match F1.set q c with
  |some F'=>F'.setL p (j+1) l
  |none=>none
def zW (P:Program)(t:TypeId):Option Bool:=match P.underlying t with
 |some (.struct _)|some (.array _ _)=>some true
 |some _=>some false
 |none=>none
def qQ (P:Program)(t:TypeId):Option Nat:=(P.info? t).map (·.size)
def qg0 (P:Program)(t:TypeId):Option AV:=match P.info? t with
 |some i=>i.zero.map yR
 |none=>none
def QK:Cell->Bool
 |.val _|.nil=>true
 |_=>false
def XP (P:Program)(t:TypeId):Option (List Cell):=match P.info? t with
 |some i=>match i.zero with
  |some z=>if (z.cells.toList.map qm).length=i.size&&(z.cells.toList.map qm).all QK then some (z.cells.toList.map qm)else none
  |none=>none
 |none=>none
def mkAV (agg:Bool)(l:List Cell):Option AV:=
 if agg then some (.ag l)else match l with
  |[x]=>some (.c x)
  |_=>none
def Root.boxed:Root->Bool
 |.par _|.loc _=>true
 |_=>false
def Key.heap (k:Key):Bool:=!k.path.isEmpty||k.root.boxed
def Fr.loadL (F:Fr)(n:Nat):Cell->Option (List Cell)
 |.ptr p=>if !p.key.heap then none else match F.rowsAt p.key with
  |some rows=>match rows[p.r]? with
   |some row=>if p.o+n<=row.length then some (xA p.key p.r p.o ((row.drop p.o).take n))else none
   |none=>none
  |none=>none
 |.cptr row o=>if o+n<=row.length then some ((row.drop o).take n)else none
 |_=>none
def ZE (n:Nat):Cell->Option Cell
 |.ptr p=>if p.isM then none else some (.ptr { p with o:=p.o+n })
 |.cptr row o=>some (.cptr row (o+n))
 |_=>none
def Fr.look (F:Fr):Cell->Option (List (List Cell))
 |.nil=>some []
 |.imm rows=>some rows
 |.ref p=>match F.get p with
  |some (.own _ rows)=>some rows
  |_=>none
 |_=>none
def sEq:Value->Value->Option Bool
 |.int k a,.int k' b=>if k=k' then some (a==b)else none
 |.string a,.string b=>some (a.toList==b.toList)
 |.bool a,.bool b=>some (a==b)
 |_,_=>none
def yM (P:Program)(f:Field):Bool:=f.name != "_" && match P.underlying f.type with
 |some (.int _)|some .string|some .bool=>true
 |_=>false
def qL (P:Program)(t:TypeId):Bool:=match P.underlying t with
 |some (.struct fs)=>!P.stoodInHeld t && !P.eqGuardType P.depth t&&fs.toList.all (yM P)
 |_=>false
def qaK (P:Program)(xs ys:Array Value):List Field->Option Bool
 |[]=>some true
 |f::fs=>match xs[f.offset]?,ys[f.offset]?,qaK P xs ys fs with
  |some x,some y,some r=>match P.underlying f.type,sEq x y with
   |some (.int k),some e=>(match x with|.int k' _=>if k=k' then some (e&&r)else none|_=>none)
   |some .string,some e=>(match x with|.string _=>some (e&&r)|_=>none)
   |some .bool,some e=>(match x with|.bool _=>some (e&&r)|_=>none)
   |_,_=>none
  |_,_,_=>none
def qbk (P:Program)(t:TypeId)(x y:Value):Option Bool:=match P.underlying t,x,y with
 |some (.int _),.int k a,.int k' b=>if k=k' then some (a==b)else none
 |some .string,.string a,.string b=>some (a==b)
 |some (.struct fs),.agg xs,.agg ys=>if qL P t then qaK P xs ys fs.toList else none
 |_,_,_=>none
def yU (P:Program)(t:TypeId)(k:Value):List (Value×List Cell)->Option (Option (List Cell))
 |[]=>some none
 |(k',l)::rest=>match qbk P t k k' with
  |some true=>some (some l)
  |some false=>yU P t k rest
  |none=>none
def ZK (P:Program)(t:TypeId)(k:Value):Bool:=match P.underlying t,k with
 |some (.int _),.int _ _=>true
 |some .string,.string _=>true
 |some (.struct fs),.agg xs=>qL P t&&fs.toList.all fun f=>(xs[f.offset]?).isSome
 |_,_=>false
def xL (P:Program)(t:TypeId)(k:Value)(l:List Cell):List (Value×List Cell)->Option (List (Value×List Cell))
 |[]=>some [(k,l)]
 |(k',l')::rest=>match qbk P t k k' with
  |some true=>if Instr.sameBits 10000 k' k then some ((k,l)::rest)else none
  |some false=>(xL P t k l rest).map ((k',l') :: ·)
  |none=>none
def frzC (F:Fr):Cell->Option (List (List Cell)×Fr)
 |.nil=>some ([],F)
 |.imm rows=>some (rows,F)
 |.ref p=>match F.get p with
  |some (.own _ rows)=>(F.set p (.imm (qG rows))).map fun F'=>(qG rows,F')
  |_=>none
 |_=>none
def yz (r:Root):Cell->Cell
 |.ref q=>if q.key.root=r then .dead else .ref q
 |.ptr q=>if q.key.root=r && !q.key.path.isEmpty then .dead else .ptr q
 |c=>c
def Fr.killR (F:Fr)(r:Root):Fr:=F.mapC (yz r)
def Fr.putS (F:Fr)(dst:Option Nat)(v:AV):Fr:=match dst with
 |some d=>if v.rows.any (·.any qy)then(F.killR (.slot d)).put (some d) v else F.put (some d) v
 |none=>F
def chunk (sz:Nat):Nat->List Cell->List (List Cell)
 |0,_=>[]
 |n+1,l=>l.take sz::chunk sz n (l.drop sz)
def qbn (place:Nat->Option (Nat×Nat))(l:List Cell):List (Nat×List Cell)->Option (List Cell)
 |[]=>some l
 |(i,cs)::rest=>match place i with
  |some (off,size)=>if cs.length=size&&off+cs.length<=l.length then qbn place (l.take off++cs++l.drop (off+cs.length)) rest else none
  |none=>none
def placeOf (P:Program)(t:TypeId):Option (Nat->Option (Nat×Nat)):=match P.underlying t with
 |some (.struct fields)=>if fields.all (fun f=>(qQ P f.type).isSome)then some (fun i=>(fields[i]?).bind fun f=>(qQ P f.type).map fun n=>(f.offset,n))else none
 |some (.array _ elem)=>(qQ P elem).map fun sz=>fun i=>some (i*sz,sz)
 |_=>none
def ym (cx:Cx)(F:Fr):List (Nat×AV)->Option (List (Nat×List Cell)×Fr)
 |[]=>some ([],F)
 |(i,v)::rest=>match v.cells with
  |some l=>match QB cx F l with
   |some (l',F')=>match ym cx F' rest with
    |some (ps,F'')=>some ((i,l')::ps,F'')
    |none=>none
   |none=>none
  |none=>none
def qgl (r:Root):List (Root×List Cell)->List (Root×List Cell)
 |[]=>[]
 |(r',l)::rest=>if r'=r then qgl r rest else(r',l)::qgl r rest
def zn (r:Root):Cell->Cell
 |.ref q=>if q.key.root=r then .dead else .ref q
 |.ptr q=>if q.key.root=r then .dead else .ptr q
 |.clo f fs cs=>if (fs++cs).any (fun c=>match c with|.ptr q=>q.key.root=r|_=>false)then .dead else .clo f fs cs
 |c=>c
def Fr.drop (F:Fr)(r:Root):Fr:=Fr.mapC { F with boxes:=qgl r F.boxes } (zn r)
def qaN (F:Fr)(dst:Option Nat)(l:List Cell):Option Fr:=match dst with
 |some d=>match F.boxes.lookup (.loc d)with
  |none=>some ({ F with boxes:=(.loc d,l)::F.boxes }.putS (some d) (.c (.ptr ⟨⟨.loc d,[]⟩,0,0⟩)))
  |some _=>none
 |none=>none
def qyW (F:Fr)(d:Nat):Option Fr:=match F.boxes.lookup (.loc d)with
 |none=>some ({ F with boxes:=(.loc d,[.mpb []])::F.boxes }.putS (some d) (.c (.ptr ⟨⟨.loc d,[]⟩,1,0⟩)))
 |some _=>none
def qwv (F:Fr):Cell->Option (Pl×List (Value×List Cell))
 |.ref p=>match F.get p with
  |some (.mp es)=>some (p,es)
  |_=>none
 | .ptr q=>if q.isM then match F.get ⟨q.key,0,0⟩with
   |some (.mpb es)=>some (⟨q.key,0,0⟩,es)
   |_=>none
  else none
 |_=>none
def mapC:Cell->List (Value×List Cell)->Cell
 |.ptr _,es=>.mpb es
 |_,es=>.mp es
def asInt (v:AV):Option Int:=match v.con with
 |some (.int _ n)=>some n
 |_=>none
def lim:Nat:=1099511627776
def yg (cx:Cx)(F:Fr)(o:Oper):Option AV:=
 if o.op.operands.toList.all (fun x=>(F.ev x).con.isSome)then
  match qo cx.P (execOp (fun x=>((F.ev x).con).getD Go.undef) o)with
  |some (.value v)=>some (yR v)
  |_=>none
 else none
def Qs:Tag->Bool->Bool
 |.agg,g=>g
 |.one,g=>!g
 |_,_=>false
def qi3:List Cell->Option Int
 |[.val (.int .u8 n)]=>some n
 |_=>none
def qhy (xs:List Int):ByteArray:=⟨(xs.map fun n=>UInt8.ofNat n.toNat).toArray⟩
def XU (cx:Cx)(F:Fr)(o:Oper)(s t:TypeId)(x:Operand):Option AV:=match cx.P.underlying s,cx.P.underlying t,(F.ev x).cell with
 |some (.slice e),some .string,some c=>match cx.P.underlying e,F.look c with
  |some (.int .u8),some rows=>(mapO qi3 rows).map fun xs=>.c (.val (.string (qhy xs)))
  |_,_=>none
 |_,_,_=>yg cx F o
def qkM (v:AV):Option AV:=match v.tag,v.rows with
 |.one,[[c]]=>some ⟨.tup [false,false],[[c],[.val (.bool true)]]⟩
 |.agg,[l]=>some ⟨.tup [true,false],[l,[.val (.bool true)]]⟩
 |_,_=>none
def qbz (cx:Cx)(F:Fr)(x:Operand)(t:TypeId)(ok:Bool):Option AV:=match (F.ev x).con,cx.P.underlying t with
 |some (.iface t' v),some u=>match u with
  |.interface _=>none
  |_=>if t'=t then(if ok then qkM (yR v)else some (yR v))else none
 |_,_=>none
def quiet (cx:Cx)(F:Fr)(o:Oper):Option AV:=match o.op with
 |.move x=>some (F.ev x)
 |.pick c a b=>match (F.ev c).con with
  |some (.bool t)=>some (if t then F.ev a else F.ev b)
  |_=>none
 |.binOp op t x y _=>match op,(F.ev x).con,(F.ev y).con with
  |.eql,some (.agg xs),some (.agg ys)=>if qL cx.P t then(qaK cx.P xs ys (match cx.P.underlying t with|some (.struct fs)=>fs.toList|_=>[])).map .bool else none
  |.neq,some (.agg xs),some (.agg ys)=>if qL cx.P t then(qaK cx.P xs ys (match cx.P.underlying t with|some (.struct fs)=>fs.toList|_=>[])).map fun b=>.bool (!b)else none
  |_,_,_=>yg cx F o
 |.unOp ..=>yg cx F o
 |.convert s t x=>XU cx F o s t x
 |.makeInterface ..=>yg cx F o
 |.typeAssert x _ t ok=>qbz cx F x t ok
 |.load t a=>match (F.ev a).cell,qQ cx.P t,zW cx.P t with
  |some c,some n,some g=>(F.loadL n c).bind (mkAV g)
  |_,_,_=>none
 |.nilCheck x=>match (F.ev x).cell with
  |some (.ptr p)=>if p.isM then none else some (.c (.ptr p))
  |some (.cptr row o)=>some (.c (.cptr row o))
  |_=>none
 |.fieldAddr s x f=>match cx.P.underlying s,(F.ev x).cell with
  |some (.struct fields),some c=>match fields[f]? with
   |some fd=>match qQ cx.P fd.type with
    |some (_+1)=>(ZE fd.offset c).map .c
    |_=>none
   |none=>none
  |_,_=>none
 |.indexAddr t x i=>match cx.P.underlying t,(F.ev x).cell,asInt (F.ev i)with
  |some (.slice elem),some (.imm rows),some n=>match rows[n.toNat]?,qQ cx.P elem with
   |some row,some sz=>if 0<=n&&row.length==sz then some (.c (.cptr row 0))else none
   |_,_=>none
  |some (.slice elem),some (.ref p),some n=>match F.get p,qQ cx.P elem with
   |some (.own zz rows),some sz=>if 0<=n&&n<rows.length&&zz==sz then some (.c (.ptr ⟨p.toKey,n.toNat,0⟩))else none
   |_,_=>none
  |some (.array len elem),some c,some n=>match qQ cx.P elem with
   |some sz=>if 0<=n/\n<len then(ZE (n.toNat*sz) c).map .c else none
   |none=>none
  |_,_,_=>none
 |.index ..=>yg cx F o
 |.field s x f=>match cx.P.underlying s,F.ev x with
  |some (.struct fields),⟨.agg,[l]⟩=>match fields[f]? with
   |some fd=>match qQ cx.P fd.type,zW cx.P fd.type with
    |some n,some g=>if fd.offset+n<=l.length then mkAV g ((l.drop fd.offset).take n)else none
    |_,_=>none
   |none=>none
  |_,_=>none
 |.extract x i=>match F.ev x with
  |⟨.tup fl,rows⟩=>match fl[i]?,rows[i]? with
   |some g,some l=>mkAV g l
   |_,_=>none
  |_=>none
 |.lookup t x k ok=>match cx.P.underlying t,(F.ev x).cell,(F.ev k).con with
  |some (.map kt elem),some c,some kv=>match qwv F c with
   |some (_,es)=>match yU cx.P kt kv es,zW cx.P elem,qg0 cx.P elem with
    |some r,some g,some z=>match (match r with|some l=>some l|none=>if Qs z.tag g then z.cells else none)with
     |some l=>if !ZK cx.P kt kv||g != (l.length != 1)then none
      else if ok then some ⟨.tup [g,false],[l,[.val (.bool r.isSome)]]⟩else mkAV g l
     |none=>none
    |_,_,_=>none
   |none=>none
  |_,_,_=>none
 |.call { callee:=.builtin .len,args,argTypes }=>match args[0]?,argTypes[0]? with
  |some x,some t=>match cx.P.underlying t,(F.ev x).cell with
   |some (.slice _),some c=>(F.look c).map fun rows=>.int rows.length
   |some (.map _ _),some (.ref p)=>match F.get p with
    |some (.mp es)=>some (.int es.length)
    |_=>none
   |_,_=>yg cx F o
  |_,_=>none
 |.call { callee:=.builtin .max,.. }|.call { callee:=.builtin .min,.. }=>yg cx F o
 |.makeFunc (.func f) first caps=>
  let fs:=first.toList.map fun x=>(F.ev x).cell
  let cs:=caps.toList.map fun x=>(F.ev x).cell
  let good:Option Cell->Bool:=fun c=>match c with
   |some (.ptr p)=>p.key.path.isEmpty&&p.r==0
   |some (.val _)=>true
   |_=>false
  if fs.all good&&cs.all good then some (.c (.clo f (fs.map (·.getD .dead)) (cs.map (·.getD .dead))))else none
 |_=>none
def yH (s:ByteArray):List (List Cell):=s.data.toList.map fun b=>[.val (.int .u8 b.toNat)]
def srcU:Option TypeDesc->Option TypeDesc
 |some .string=>some (.slice 0)
 |u=>u
def QM:Cell->Option (List (List Cell))
 |.val (.string s)=>some (yH s)
 |.nil=>some []
 |.imm r=>some r
 |.own _ r=>some r
 |_=>none
def qg3:Option Pl->Cell->Bool
 |some p,.ref q=>p.key.path.isEmpty||decide (q.key.root≠p.key.root)
 |_,_=>true
def Yo (cx:Cx)(F:Fr)(d:Nat)(elem:TypeId)(i:TypeInfo)(rows:List (List Cell))(p:Option Pl)(xc:Cell):Option Fr:=match takeC cx F xc with
 |some (c,F2)=>match QM c with
  |some more=>if (rows.length+more.length)*i.bytes<=140737488355328&&rows.length+more.length<=lim&&0<i.size&&(XP cx.P elem).isSome&&more.head?.all (·.length==i.size) &&
     qg3 p xc then
    some (F2.putS (some d) (.c (if p.isNone&&more.isEmpty then .nil else .own i.size (rows++more))))else none
  |none=>none
 |none=>none
def loud (cx:Cx)(F:Fr)(o:Oper):Option Fr:=match o.op with
 |.assign x=>match (F.ev x).cell,o.dst with
  |some (.ref p),some d=>
   if p.key.root=.slot d then(if p=⟨⟨.slot d,[]⟩,0,0⟩then match F.slots[d]? with
     |some ⟨.one,[[c]]⟩=>if qy c then some F else none
     |_=>none
    else none)
   else if cx.temp p.key.root then match takeC cx F (.ref p)with
    |some (c,F')=>some (F'.putS (some d) (.c c))
    |none=>none
   else some (F.putS (some d) (.c (.ref p)))
  |some c,some d=>some (F.putS (some d) (.c c))
  |none,some d=>(Qb cx F (F.ev x)).map fun (v,F')=>F'.putS (some d) v
  |_,none=>none
 |.alloc t=>match XP cx.P t with
  |some l=>qaN F o.dst l
  |none=>none
 |.box _ x=>match Qb cx F (F.ev x)with
  |some (v,F')=>v.cells.bind (qaN F' o.dst)
  |none=>none
 |.store t a x=>match o.dst,(F.ev a).cell,qQ cx.P t,Qb cx F (F.ev x)with
  |none,some (.ptr p),some n,some (v,F')=>match v.cells with
   |some l=>if l.length=n&&(p.key.heap && !p.isM)&&(p.key.path.isEmpty||l.all qw)then F'.setL p 0 l else none
   |none=>none
  |_,_,_,_=>none
 |.build t parts=>match XP cx.P t,placeOf cx.P t,ym cx F (parts.toList.map fun (i,x)=>(i,F.ev x))with
  |some l,some place,some (ps,F')=>(qbn place l ps).map fun l'=>F'.putS o.dst (.ag l')
  |_,_,_=>none
 |.buildSlice t len parts=>match cx.P.underlying t with
  |some (.slice elem)=>match qQ cx.P elem,XP cx.P elem,ym cx F (parts.toList.map fun (i,x)=>(i,F.ev x))with
   | some sz,some zl,some (ps,F')=>if len*sz<=16777216&&0<sz then
     match qbn (fun i=>some (i*sz,sz)) (List.replicate len zl).flatten ps with
     |some l=>if l.all qw then some (F'.putS o.dst (.c (.own sz (chunk sz len l))))else none
     |none=>none
    else none
   |_,_,_=>none
  |_=>none
 |.makeSlice t l c=>match cx.P.underlying t,asInt (F.ev l),asInt (F.ev c)with
  |some (.slice elem),some n,some m=>match qQ cx.P elem,cx.P.info? elem,XP cx.P elem with
   |some sz,some i,some zl=>if 0<=n&&n<=m&&m*i.bytes<=140737488355328&&m<=lim&&0<sz then
      some (F.putS o.dst (.c (.own sz (List.replicate n.toNat zl))))else none
   |_,_,_=>none
  |_,_,_=>none
 |.convert s t x=>match cx.P.underlying s,cx.P.underlying t,(F.ev x).con with
  |some .string,some (.slice e),some (.string b)=>match cx.P.underlying e with
   |some (.int .u8)=>some (F.putS o.dst (.c (.imm (yH b))))
   |_=>none
  |_,_,_=>none
 |.makeMap _ none=>match o.dst with
  |some d=>if cx.mv.contains d then qyW F d else some (F.putS (some d) (.c (.mp [])))
  |none=>none
 |.mapUpdate t m k x|.insert t m k x=>match o.dst,cx.P.underlying t,(F.ev m).cell,(F.ev k).con,(F.ev x).cells with
  |none,some (.map kt _),some c,some kv,some l=>match qwv F c with
   | some (p,es)=>if ZK cx.P kt kv&&(match (F.ev x).tag with|.one=>l.length==1|_=>l.length != 1)&&l.all (fun c=>match c with|.val _|.nil|.imm _=>true|_=>false)then
     (xL cx.P kt kv (qfz l) es).bind fun es'=>F.set p (mapC c es')else none
   |none=>none
  |_,_,_,_,_=>none
 |.slice t x lo hi none=>match cx.P.underlying t with
  |some (.slice elem)=>match frzC F (((F.ev x).cell).getD .dead),qQ cx.P elem with
   |some (rows,F'),some sz=>
    let l:=match lo with|some y=>asInt (F.ev y)|none=>some 0
    let h:=match hi with|some y=>asInt (F.ev y)|none=>some (rows.length:Int)
    match l,h with
    |some l,some h=>if 0<=l/\l<=h/\h<=rows.length/\(rows.head?.all (·.length==sz))then some (F'.putS o.dst (.c (.imm ((rows.take h.toNat).drop l.toNat))))else none
    |_,_=>none
   |_,_=>none
  |_=>(yg cx F o).map (F.putS o.dst)
 |.call { callee:=.builtin .append,args,argTypes }=>match args.toList,argTypes.toList,o.dst with
  |[s,x],[t,t1],some d=>match cx.P.underlying t,srcU (cx.P.underlying t1),(F.ev s).cell,(F.ev x).cell with
   |some (.slice elem),some (.slice _),some .nil,some xc=>match cx.P.info? elem with
    |some i=>Yo cx F d elem i [] none xc
    |none=>none
   |some (.slice elem),some (.slice _),some (.ref p),some xc=>match F.get p,cx.P.info? elem,F.set p .dead with
    |some (.own zz rows),some i,some F1=>if zz=i.size then Yo cx (F1.kill p) d elem i rows (some p) xc else none
    |_,_,_=>none
   |_,_,_,_=>none
  |_,_,_=>none
 |_=>none
inductive AExit where
 |normal
 |exit (id:Nat)
 |ret
 |panic (v:Value)
inductive ARes where
 |ret (v:AV)
 |panic (v:Value)
abbrev Oracle:=Nat->List AV->List (List Cell)->Option (ARes×List (List Cell))
abbrev Orac:=Option Nat->Oracle
def Xz:Cell->List Root
 |.ptr p=>[p.key.root]
 |.clo _ fs cs=>(fs++cs).flatMap fun (c:Cell)=>match c with|.ptr p=>[p.key.root]|_=>[]
 |_=>[]
def zm (l m:List Root):List Root:=m.foldl (fun l r=>if l.contains r then l else l++[r]) l
def yl (F:Fr):Nat->List Root->List Root
 |0,l=>l
 |n+1,l=>yl F n (zm l (l.flatMap fun r=>((F.boxes.lookup r).getD []).flatMap Xz))
def renP (f:Root->Option Root)(p:Pl):Option Pl:=(f p.key.root).map fun r=>{ p with key:={ p.key with root:=r } }
def renF (f:Root->Option Root):Cell->Option Cell
 |.ptr p=>(renP f p).map .ptr
 |.val v=>some (.val v)
 |_=>none
def renC (f:Root->Option Root):Cell->Option Cell
 |.ptr p=>(renP f p).map .ptr
 |.clo g fs cs=>match mapO (renF f) fs,mapO (renF f) cs with
  |some fs',some cs'=>some (.clo g fs' cs')
  |_,_=>none
 |.ref _=>none
 |c=>some c
def idxOf (l:List Root)(r:Root):Option Root:=(l.idxOf? r).map .par
def yP (l:List Root):Root->Option Root
 |.par i=>l[i]?
 |_=>none
def yT (cx:Cx)(f:Nat)(F:Fr):Nat->List AV->Option (List AV×Fr)
 |_,[]=>some ([],F)
 | j,v::rest=>if cx.hand f j then match Qb cx F v with
   |some (v',F')=>match yT cx f F' (j+1) rest with
    |some (vs,F'')=>some (v'::vs,F'')
    |none=>none
   |none=>none
  else match yT cx f F (j+1) rest with
   |some (vs,F'')=>some (v::vs,F'')
   |none=>none
def Yb (F:Fr):Cell->Option (Cell×List Pl)
 |.ref p=>match F.get p with
  |some (.own _ rows)=>some (.imm (qG rows),[p])
  |_=>none
 |.nil=>some (.imm [],[])
 |.dead=>none
 |.ptr q=>if q.key.path.isEmpty then some (.ptr q,[])else none
 |c=>some (c,[])
def qci (F:Fr):List Cell->Option (List Cell×List Pl)
 |[]=>some ([],[])
 |c::l=>match Yb F c with
  |some (c',ps)=>match qci F l with
   |some (l',qs)=>some (c'::l',ps++qs)
   |none=>none
  |none=>none
def qgH (F:Fr)(v:AV):Option (AV×List Pl):=
 match v.tag,v.rows with
 |.one,[[x]]=>match Yb F x with
  |some (c,ps)=>some (.c c,ps)
  |none=>none
 |.agg,[l]=>match qci F l with
  |some (l',ps)=>some (.ag l',ps)
  |none=>none
 |_,_=>none
def vg (cx:Cx)(f:Nat)(F:Fr):Nat->List AV->Option (List AV×List Pl)
 |_,[]=>some ([],[])
 |j,v::rest=>match (if cx.hand f j then some (v,[])else qgH F v)with
  |some (v',ps)=>match vg cx f F (j+1) rest with
   |some (vs,qs)=>some (v'::vs,ps++qs)
   |none=>none
  |none=>none
def zG (F:Fr):List Pl->Option Fr
 |[]=>some F
 |p::rest=>match F.get p with
  |some (.own _ rows)=>match (F.set p (.imm (qG rows)))with
   |some F'=>zG F' rest
   |none=>none
  |_=>zG F rest
def Xg:Cell->Bool
 |.imm _|.cptr _ _|.mp _|.mpb _=>false
 |.own _ rows=>rows.all fun l=>l.all fun c=>match c with|.val _=>true|_=>false
 |_=>true
def qu0 (F:Fr):List Root->List (List Cell)->Fr
 |r::rs,l::ls=>qu0 { F with boxes:=YQ r l F.boxes } rs ls
 |_,_=>F
def nodupB:List Root->Bool
 |[]=>true
 |r::l=>!l.contains r&&nodupB l
def renV (f:Root->Option Root)(v:AV):Option AV:=match mapO (mapO (renC f)) v.rows with
 |some rows=>some ⟨v.tag,rows⟩
 |none=>none
def qbl (F:Fr)(f:Root->Option Root)(r:Root):Option (List Cell):=if r.boxed then(F.boxes.lookup r).bind (mapO (renC f))else none
def yj (F:Fr):List Root->Fr
 |[]=>F
 |r::l=>yj (F.killR r) l
def Fr.putK (F:Fr)(dst:Option Nat)(v:AV):Fr:=match dst with
 |some d=>(F.mapC (zn (.slot d))).put (some d) v
 |none=>F
def vZ (cx:Cx)(rec:Oracle)(F:Fr)(dst:Option Nat)(f:Nat)(vs:List AV):Option (Fr×Option Value):=
 match yT cx f F 0 vs with
 |some (vs1,F1)=>match vg cx f F1 0 vs1 with
  |some (args,lent)=>
   let roots:=yl F1 3 (zm [] (args.flatMap fun v=>v.rows.flatMap fun l=>l.flatMap Xz))
   match mapO (renV (idxOf roots)) args,mapO (qbl F1 (idxOf roots)) roots with
   |some args',some bx=>match rec f args' bx with
    |some (res,bx')=>match mapO (mapO (renC (yP roots))) bx' with
     |some bx''=>
      if lent.all (fun p=>!roots.contains p.key.root)&&bx'.length==roots.length&&bx''.map List.length==bx.map List.length&&nodupB roots then
       match zG F1 lent with
       |some Ff=>match res with
        |.panic v=>some (qu0 (yj Ff roots) roots bx'',some v)
        |.ret v=>match renV (yP roots) v with
         |some v'=>some ((qu0 (yj (if roots.isEmpty&&v'.rows.all (fun (l:List Cell)=>l.all Xg)then F1 else Ff) roots) roots bx'').putK dst v',none)
         |none=>none
       |none=>none
      else none
     |none=>none
    |none=>none
   |_,_=>none
  |none=>none
 |none=>none
def mvC (F:Fr)(p:Pl):Option (Cell×Fr):=match F.get p with
 |some c=>if qw c then(if qy c then(F.set p .dead).map fun F1=>(c,F1.kill p)else some (c,F))else none
 |none=>none
def mvL (F:Fr)(K:Key)(r:Nat):Nat->Nat->Option (List Cell×Fr)
 |_,0=>some ([],F)
 |o,n+1=>match mvC F ⟨K,r,o⟩with
  |some (c,F1)=>match mvL F1 K r (o+1) n with
   |some (l,F2)=>some (c::l,F2)
   |none=>none
  |none=>none
def mvop (cx:Cx)(F:Fr)(o:Oper):Option Fr:=match cx.mv with
 |[]=>none
 |ms=>match o.op,o.dst with
  |.load t a,some d=>if ms.contains d then(match (F.ev a).cell,qQ cx.P t,zW cx.P t with
   |some (.ptr p),some n,some g=>if !(p.key.heap && !p.isM)then none else match mvL F p.key p.r p.o n with
    |some (l,F1)=>(mkAV g l).map fun v=>F1.putS (some d) v
    |none=>none
   |_,_,_=>none)else none
  |_,_=>none
def aop0 (cx:Cx)(rec:Oracle)(F:Fr)(o:Oper):Option (Fr×Option Value):=
 match quiet cx F o with
 |some v=>some (F.putS o.dst v,none)
 |none=>match loud cx F o with
  |some F'=>some (F',none)
  |none=>match o.op with
   |.panic x=>match (F.ev x).con with
    |some (.iface t v)=>some (F,some (.iface t v))
    |_=>none
   |.call { callee:=.value g,args,.. }=>match (F.ev g).cell with
    |some (.clo f first caps)=>vZ cx rec F o.dst f (first.map .c++args.toList.map F.ev++caps.map .c)
    |_=>none
   |_=>none
def aop (cx:Cx)(rec:Oracle)(F:Fr)(o:Oper):Option (Fr×Option Value):=match mvop cx F o with
 |some F'=>some (F',none)
 |none=>aop0 cx rec F o
def zi (ops:List Oper)(F:Fr)(o:Oper):Option Bool:=match o.guard with
 |none=>some true
 |some (j,want)=>match ops[j]? with
  |some oj=>match oj.dst with
   |some d=>match F.slots[d]? with
    |some ⟨.one,[[.val (.bool b)]]⟩=>some (b==want)
    |some ⟨.tup [],[]⟩=>some false
    |_=>none
   |none=>none
  |none=>none
def aops (cx:Cx)(rec:Orac)(ops:List Oper):List Oper->Fr->Option (Fr×Option Value)
 |[],F=>some (F,none)
 |o::rest,F=>match zi ops F o with
  |some true=>match aop cx (rec o.dst) F o with
   |some (F',none)=>aops cx rec ops rest F'
   |r=>r
  |some false=>aops cx rec ops rest (F.putS o.dst .undef)
  |none=>none
def Fr.at (F:Fr):Root->Option AV
 |.slot k=>F.slots[k]?
 |r=>(F.boxes.lookup r).map AV.ag
def qJ:Cell->List Root
 |.ref p|.ptr p=>[p.key.root]
 |.clo _ fs cs=>(fs++cs).filterMap fun c=>match c with|.ptr p=>some p.key.root|_=>none
 |_=>[]
def qie (p:Pl):Bool:=!(p.key.path.isEmpty&&p.key.root.boxed)
def qvC:Cell->List Root
 |.ref p=>[p.key.root]
 |.ptr p=>if qie p then [p.key.root]else []
 |.clo _ fs cs=>(fs++cs).filterMap fun c=>match c with|.ptr p=>if qie p then some p.key.root else none|_=>none
 |_=>[]
def AV.rootsBy (f:Cell->List Root)(v:AV):List Root:=v.rows.flatMap (·.flatMap f)
def yt (F:Fr)(f:Cell->List Root)(l:List Root):List Root:=l.flatMap fun r=>match F.at r with
 |some v=>v.rootsBy f
 |none=>[]
def inter (l m:List Root):Bool:=l.any m.contains
def qld:Root->Nat
 |.slot k=>4*k
 |.par k=>4*k+1
 |.loc k=>4*k+2
 |.res=>3
def Ym:List Root->Nat
 |[]=>0
 |r::l=>2 ^ qld r ||| Ym l
structure Info where
 W:List Root
 Rd:List Root
 S:List Root
 cl:Bool
 mW:Nat
 mS:Nat
def zJ (F F':Fr)(W Rd:List Root)(cl:Bool):Info:=⟨W,Rd,W++Rd++yt F qvC (W++Rd)++yt F' qvC W,cl,Ym W,Ym (W++Rd++yt F qvC (W++Rd)++yt F' qvC W)⟩
def readsOf (o:Oper):List Nat:=o.op.operands.toList.filterMap fun x=>match x with
 |.tmp t=>some t
 |_=>none
def slotsOf (o:Oper):List Root:=(readsOf o).map .slot
def xW (ops:List Oper)(o:Oper):List Root:=match o.guard with
 |some (j,_)=>match (ops[j]?).bind (·.dst)with
  |some d=>[.slot d]
  |none=>[]
 |none=>[]
def qR (F:Fr)(o:Oper):List Root:=(readsOf o).flatMap fun t=>(F.ev (.tmp t)).rootsBy qJ
def dstR (o:Oper):List Root:=match o.dst with
 |some d=>[.slot d]
 |none=>[]
def locR (o:Oper):List Root:=match o.dst with
 |some d=>[.slot d,.loc d]
 |none=>[]
def Xl:Op->Bool
 |.load ..|.indexAddr ..|.lookup ..|.call _|.convert ..=>true
 |_=>false
def qcg (F:Fr):List Root:=(List.range F.slots.length).map .slot++F.boxes.map (·.1)
def qgd (n:Nat):List Root:=(List.range n).map .slot++(List.range n).map .par++(List.range n).map .loc
def xX (F:Fr)(r:Root):List Root:=if r.boxed then((F.boxes.lookup r).getD []).flatMap Xz else []
def YL (F:Fr):Nat->List Root->List Root
 |0,l=>l
 |n+1,l=>YL F n (zm l (l.flatMap (xX F)))
def qu2 (F:Fr)(W:List Root)(r:Root):Bool:=match F.at r with
 |some v=>inter (v.rootsBy qvC) W
 |none=>false
def holders (F:Fr)(W:List Root):List Root:=(qgd F.slots.length).filter (qu2 F W)
def xG (F:Fr)(W:List Root):Bool:=(qcg F).all fun r=>W.contains r || !qu2 F W r
def cutC (W:List Root)(c:Cell):Cell:=if (qJ c).all W.contains then c else .dead
def lslots (W:List Root)(ts:List Nat):Nat->List AV->List AV
 |_,[]=>[]
 |k,v::l=>(if W.contains (.slot k)then v.mapC (cutC W)else if ts.contains k then v.mapC (fun c=>if qy c then .dead else cutC W c)else .deadv)::lslots W ts (k+1) l
def lboxes (F:Fr)(W:List Root):List Root->List (Root×List Cell)
 |[]=>[]
 |r::l=>match (if r.boxed then F.boxes.lookup r else none)with
  |some b=>(r,b.map (cutC W))::lboxes F W l
  |none=>lboxes F W l
def Fr.part (F:Fr)(W:List Root)(ts:List Nat):Fr:=⟨lslots W ts 0 F.slots,lboxes F W W⟩
def mslots (W:List Root)(l1:List AV):Nat->List AV->List AV
 |k,v::l=>(if W.contains (.slot k)then((l1[k]?).getD .deadv).mapC (cutC W)else v)::mslots W l1 (k+1) l
 |_,[]=>[]
def mboxes (F1:Fr)(W:List Root):List (Root×List Cell)->List (Root×List Cell)
 |[]=>[]
 | (r,l)::rest=>if W.contains r then(match (if r.boxed then F1.boxes.lookup r else none)with
   |some b=>(r,b.map (cutC W))::mboxes F1 W rest
   |none=>mboxes F1 W rest)
  else(r,l)::mboxes F1 W rest
def Fr.merge (F F1:Fr)(W:List Root):Fr:=⟨mslots W F1.slots 0 F.slots,(lboxes F1 W W).filter (fun x=>(F.boxes.lookup x.1).isNone)++mboxes F1 W F.boxes⟩
def qC (F:Fr)(o:Oper):List Root:=
 let W0:=YL F 3 (zm (locR o) (qR F o))
 zm W0 (holders F W0)
def dop (cx:Cx)(rec:Orac)(ops:List Oper)(F:Fr)(o:Oper):Option (Fr×Info):=match zi ops F o with
 |none=>none
 |some false=>some (F.put o.dst .undef,zJ F (F.put o.dst .undef) (dstR o) (xW ops o) false)
 |some true=>match quiet cx F o with
  |some v=>some (F.put o.dst v,zJ F (F.put o.dst v) (dstR o) (xW ops o++slotsOf o++(if Xl o.op then qR F o else [])) false)
  | none=>if xG F (qC F o)then match aop cx (rec o.dst) (F.part (qC F o) (readsOf o)) o with
    |some (F1,none)=>some (F.merge F1 (qC F o),zJ F (F.merge F1 (qC F o)) (qC F o) (xW ops o++slotsOf o) true)
    |_=>none
   else none
def drun (cx:Cx)(rec:Orac)(ops:List Oper):List Oper->Fr->Option (Fr×List Info)
 |[],F=>some (F,[])
 |o::rest,F=>match dop cx rec ops F o with
  |some (F1,i)=>match drun cx rec ops rest F1 with
   |some (F2,is)=>some (F2,i::is)
   |none=>none
  |none=>none
def befE (acc:List Nat):List Edge->Nat
 |[]=>0
 |e::l=>if Region.binds .any e then 2 ^ e.on ||| ((acc[e.on]?).getD 0 ||| befE acc l)else befE acc l
def befL:List Oper->List Nat->List Nat
 |[],acc=>acc
 |o::rest,acc=>befL rest (acc++[befE acc o.after.toList])
def vY (a b:Info):Bool:=a.mW &&& b.mS==0&&b.mW &&& a.mS==0
def qaB (bj:Nat)(ij:Info):Nat->List Info->Bool
 |_,[]=>true
 |i,x::l=>(bj.testBit i||vY x ij)&&qaB bj ij (i+1) l
def vS (befs:List Nat)(all:List Info):Nat->List Info->Bool
 |_,[]=>true
 |j,ij::l=>qaB ((befs[j]?).getD 0) ij 0 (all.take j)&&vS befs all (j+1) l
def vw:Nat->List Oper->Bool
 |_,[]=>true
 |j,o::l=>o.after.toList.all (fun e=>!Region.binds .any e||decide (e.on<j))&&vw (j+1) l
def adraw (cx:Cx)(rec:Orac)(ops:List Oper)(F:Fr):Option Fr:=match drun cx rec ops ops F with
 |some (F',is)=>if vw 0 ops&&vS (befL ops []) is 0 is then some F' else none
 |none=>none
def opsOf:Code->List Oper
 |.region _ ops _=>ops.toList
 |.seq a b=>opsOf a++opsOf b
 |.cond _ a b=>opsOf a++opsOf b
 |.block _ b=>opsOf b
 |.loop b=>opsOf b
 |_=>[]
def natF {α:Type}(m:Nat)(k:Nat->α):α:=match m with|0=>k 0|m+1=>k (m+1)
def qfB (b:Code):List Nat:=(opsOf b).filterMap fun o=>match o.op with
 |.alloc _|.box _ _=>o.dst
 |_=>none
def gone (ks ls:List Nat):Root->Bool
 |.slot k=>ks.contains k
 |.loc k=>ls.contains k
 |_=>false
def yV (ks ls:List Nat):Cell->Cell
 |.ref q=>if gone ks ls q.key.root then .dead else .ref q
 |.ptr q=>if gone ks ls q.key.root then .dead else .ptr q
 |.clo f fs cs=>if (fs++cs).any (fun c=>match c with|.ptr q=>gone ks ls q.key.root|_=>false)then .dead else .clo f fs cs
 |c=>c
def YS (ks ls:List Nat):Nat->List AV->List AV
 |_,[]=>[]
 |i,v::l=>(if ks.contains i then .deadv else v.mapC (yV ks ls))::YS ks ls (i+1) l
def qcZ (ks ls:List Nat):List (Root×List Cell)->List (Root×List Cell)
 |[]=>[]
 |(r,l)::rest=>if gone ks ls r then qcZ ks ls rest else(r,l.map (yV ks ls))::qcZ ks ls rest
def Fr.norm (F:Fr)(ks ls:List Nat):Fr:={ slots:=YS ks ls 0 F.slots,boxes:=qcZ ks ls F.boxes }
def movable (p:Pl):Bool:=match p.key.root with
 |.slot _|.loc _=>p.key.path.isEmpty
 |_=>false
def resC (F:Fr):Cell->Option (Cell×Fr)
 |.ref p=>match F.get p with
  |some (.own zz rows)=>if movable p then(F.set p .dead).map fun F'=>(.own zz rows,F'.kill p)else(F.set p (.imm (qG rows))).map fun F'=>(.imm (qG rows),F')
  |some (.mp es)=>if movable p then(F.set p .dead).map fun F'=>(.mp es,F'.kill p)else none
  |_=>none
 |.ptr p=>match p.key.root with
  |.par _=>some (.ptr p,F)
  |_=>none
 |.clo _ _ _=>none
 |c=>some (c,F)
def resL (F:Fr):List Cell->Option (List Cell×Fr)
 |[]=>some ([],F)
 |c::l=>match resC F c with
  |some (c',F')=>match resL F' l with
   |some (l',F'')=>some (c'::l',F'')
   |none=>none
  |none=>none
def resV (P:Program)(F:Fr):ResultVar->Option AV
 |.tmp t=>some (F.ev (.tmp t))
 |.cell a t=>match (F.ev (.tmp a)).cell,qQ P t,zW P t with
  |some c,some n,some g=>(F.loadL n c).bind (mkAV g)
  |_,_,_=>none
def QS (P:Program)(F:Fr):List ResultVar->Option (List (Bool×List Cell)×Fr)
 |[]=>some ([],F)
 |x::rest=>match resV P F x with
  |some v=>match v.tag,v.cells with
   |.tup _,_=>none
   |t,some l=>match resL F l with
    |some (l',F')=>match QS P F' rest with
     |some (vs,F'')=>some (((match t with|.agg=>true|_=>false),l')::vs,F'')
     |none=>none
    |none=>none
   |_,none=>none
  |none=>none
def qjr:List (Bool×List Cell)->Option AV
 |[(g,l)]=>mkAV g l
 |vs=>some ⟨.tup (vs.map (·.1)),vs.map (·.2)⟩
def qcR:Root->Option Root
 |.par i=>some (.par i)
 |_=>none
def zD (F:Fr)(n:Nat):Option (List (List Cell)):=mapO (fun i=>(F.boxes.lookup (.par i)).bind (mapO (renC qcR))) (List.range n)
def qd:Nat->List (List Cell)->List (Root×List Cell)
 |_,[]=>[]
 |i,l::rest=>(.par i,l)::qd (i+1) rest
section
structure Hd where
 b:Nat
 sz:Nat
 len:Nat
 cap:Nat
 isMap:Bool
def Hd.val (h:Hd):Value:=if h.isMap then .map (some h.b)else .slice (some ⟨h.b,0,none⟩) h.len h.cap
def Hd.adr (h:Hd)(r o:Nat):Value:=if h.isMap then h.val else .pointer (some ⟨h.b,r*h.sz+o,none⟩)
theorem Hd.adr_of {h:Hd}(e:h.isMap=false)(r o):h.adr r o=.pointer (some ⟨h.b,r*h.sz+o,none⟩):=by simp[Hd.adr,e]
structure Gh where
 γ:Key->Option Hd
 im:Nat->Prop
 lv:Nat->Prop      -- the boxes of the call's own that are there
def Gh.ok (G:Gh):Root->Prop
 |.loc d=>G.lv d
 |_=>True
inductive RelI (im:Nat->Prop) (w:World):Cell->Value->Prop
 |val (v:Value) (h:oneC v=true):RelI im w (.val v) v
 |nil:RelI im w .nil (.slice none 0 0)
 |immE (a:Option Addr) (cap:Nat):RelI im w (.imm []) (.slice a 0 cap)
 | imm (rows:List (List Cell)) (b off cap sz:Nat) (vs:Array Value) (T:TypeId) (fr:Nat×Nat) (us:Nat->Nat->Value)
   (hb:w.heap[b]? = some (.cells vs T fr)) (hi:im b) (hcap:rows.length<=cap) (hsz:∀ row∈rows,row.length=sz)
   (hv:∀ r o c,cellAt rows r o=some c->vs[off+r*sz+o]? = some (us r o))
   (hr:∀ r o c,cellAt rows r o=some c->RelI im w c (us r o)):RelI im w (.imm rows) (.slice (some ⟨b,off,none⟩) rows.length cap)
 |dead (v:Value) (h:oneC v=true):RelI im w .dead v
theorem RelI.mono {im im' w w'}(him:∀ b,im b->im' b)(hw:∀ b,im b->w'.heap[b]? = w.heap[b]?){c v}(h:RelI im w c v):RelI im' w' c v:=by
 induction h with
 |val v h=>exact .val v h
 |nil=>exact .nil
 |immE a cap=>exact .immE a cap
 |imm rows b off cap sz vs T fr us hb hi hcap hsz hv _ ih=>exact .imm rows b off cap sz vs T fr us (by rw[hw b hi];exact hb) (him b hi) hcap hsz hv ih
 |dead v h=>exact .dead v h
theorem RelI.one {im w c v}(h:RelI im w c v):oneC v=true:=by cases h<;>first|rfl|assumption
def RelX (G:Gh):Cell->Value->Prop
 |.val u,v=>v=u/\oneC u=true
 |.ptr q,v=>G.ok q.key.root/\q.key.path=[]/\∃ h,G.γ q.key=some h/\h.isMap=false/\v=.pointer (some ⟨h.b,q.r*h.sz+q.o,none⟩)
 |_,_=>False
def qY (G:Gh):List Cell->List Value->Prop
 |[],[]=>True
 |c::l,v::vs=>RelX G c v/\qY G l vs
 |_,_=>False
def ZQ (im:Nat->Prop)(w:World)(l:List Cell)(v:Value):Prop:=(if l.length=1 then oneC v=true else ∃ cs,v=.agg cs)/\v.cells.size=l.length/\∀ (o:Nat) c,l[o]? = some c->∃ u,v.cells[o]? = some u/\RelI im w c u
def ZB (im:Nat->Prop)(w:World):List (Value×List Cell)->List MapEntry->Prop
 |[],[]=>True
 |(k,l)::es,e::ents=>e.key=k/\ZQ im w l e.val/\ZB im w es ents
 |_,_=>False
def Sh (G:Gh)(w:World)(p:Pl)(c:Cell)(v:Value):Prop:=match c with
 |.val u=>v=u/\oneC u=true
 |.nil=>v=.slice none 0 0
 |.imm rows=>RelI G.im w (.imm rows) v
 |.own zz rows=>(G.γ p.toKey=none/\rows=[]/\v=.slice none 0 0)\/∃ h,G.γ p.toKey=some h/\h.isMap=false/\v=h.val/\h.len=rows.length/\h.sz=zz
 |.mp es=>∃ h ents clock,G.γ p.toKey=some h/\h.isMap=true/\v=h.val/\¬ G.im h.b/\w.heap[h.b]? = some (.map ents clock)/\ZB G.im w es ents.toList
 |.mpb _=>False
 |.ptr q=>G.ok q.key.root/\∃ h,G.γ q.key=some h/\(h.isMap=true->q.isM=true)/\v=h.adr q.r q.o
 | .cptr row o=>∃ b base vs T fr,G.im b/\v=.pointer (some ⟨b,base+o,none⟩)/\w.heap[b]? = some (.cells vs T fr) /\
   ∀ (j:Nat) c,row[j]? = some c->∃ u,vs[base+j]? = some u/\RelI G.im w c u
 |.ref q=>G.ok q.key.root/\((G.γ q.toKey=none/\v=.slice none 0 0)\/∃ h,G.γ q.toKey=some h/\v=h.val)
 |.clo f fs cs=>∃ vs us,v=.func (.func f) vs us/\qY G fs vs.toList/\qY G cs us.toList
 |.dead=>oneC v=true
def RelC (G:Gh)(w:World)(k:Key)(rows:List (List Cell)):Prop:=
 ∃ h vs T,G.γ k=some h/\h.isMap=false/\¬ G.im h.b/\w.heap[h.b]? = some (.cells vs T (0,0)) /\
  (∀ row∈rows,row.length=h.sz)/\rows.length*h.sz<=vs.size/\rows.length<=h.cap/\(k.path≠[]->vs.size=h.cap*h.sz/\∀ r o c,cellAt rows r o=some c->qw c=true) /\
  ∀ r o c,cellAt rows r o=some c->∃ u,vs[r*h.sz+o]? = some u/\Sh G w ⟨k,r,o⟩ c u
def RelM (G:Gh)(w:World)(k:Key)(rows:List (List Cell)):Prop:=∃ h es ents clock,rows=[[.mpb es]]/\k.path=[]/\G.γ k=some h/\h.isMap=true/\¬ G.im h.b/\w.heap[h.b]? = some (.map ents clock)/\ZB G.im w es ents.toList
def qU (G:Gh)(w:World)(k:Key)(rows:List (List Cell)):Prop:=((G.γ k=none/\rows=[]/\k.path≠[])\/RelM G w k rows)\/RelC G w k rows
theorem qU.of_cell {G w k rows}(h:qU G w k rows){r o c}(e:cellAt rows r o=some c)(hc:∀ es,c≠.mpb es):RelC G w k rows:=by
 rcases h with(⟨_,rfl,_⟩|⟨_,es,_,_,rfl,_⟩)|h
 . simp[cellAt]at e
 .
  obtain⟨l,h1,h2⟩:∃ l,[[Cell.mpb es]][r]? = some l/\l[o]? = some c:=by
   unfold cellAt at e;cases hr:[[Cell.mpb es]][r]? with
   |none=>rw[hr]at e;cases e
   |some l=>exact⟨l,rfl,by rw[hr]at e;exact e⟩
  cases r with
  |succ r=>simp at h1
  |zero=>
   simp at h1;subst h1;cases o with
   |succ o=>simp at h2
   |zero=>simp at h2;exact absurd h2.symm (hc es)
 . exact h
theorem qU.of_hd {G w k rows}(h:qU G w k rows){x}(e:G.γ k=some x)(hm:x.isMap=false):RelC G w k rows:=by
 rcases h with(⟨h,_⟩|⟨y,_,_,_,_,_,h,h',_⟩)|h
 . rw[e]at h;cases h
 . rw[e]at h;cases h;rw[hm]at h';cases h'
 . exact h
theorem qU.arr {G w k rows}(h:qU G w k rows)(hk:k.path≠[]):(G.γ k=none/\rows=[]/\k.path≠[])\/RelC G w k rows:=by
 rcases h with(h|⟨_,_,_,_,_,h,_⟩)|h
 . exact .inl h
 . exact absurd h hk
 . exact .inr h
theorem qU.pure {G w k rows}(h:qU G w k rows)(hk:k.path≠[]){r o c}(e:cellAt rows r o=some c):qw c=true:=by
 rcases h with(⟨_,rfl,_⟩|⟨_,_,_,_,_,h,_⟩)|h
 . simp[cellAt]at e
 . exact absurd h hk
 . obtain⟨_,_,_,_,_,_,_,_,_,_,h8,_⟩:=h;exact(h8 hk).2 r o c e
def QO:Tag->List Nat->Value->Prop
 |.one,[1],_=>True
 |.agg,[n],V=>∃ vs,V=.agg vs/\vs.size=n
 | .tup fl,ns,V=>∃ Vs,V=.tuple Vs/\fl.length=ns.length/\Vs.size=ns.length /\
   ∀ (i:Nat) g n,fl[i]? = some g->ns[i]? = some n->∃ U,Vs[i]? = some U/\if g then ∃ vs,U=.agg vs/\vs.size=n else n=1
 |_,_,_=>False
def qX:Tag->Value->Nat->Nat->Option Value
 |.one,V,0,0=>some V
 |.agg,.agg vs,0,o=>vs[o]?
 |.tup fl,.tuple Vs,r,o=>match fl[r]?,Vs[r]? with
  |some true,some (.agg vs)=>vs[o]?
  |some false,some U=>if o=0 then some U else none
  |_,_=>none
 |_,_,_,_=>none
def YY (G:Gh)(w:World)(k:Key)(v:AV)(V:Value):Prop:=QO v.tag (v.rows.map List.length) V/\∀ r o c,cellAt v.rows r o=some c->∃ u,qX v.tag V r o=some u/\(c=.dead\/Sh G w ⟨k,r,o⟩ c u)
def Key.inHeap (k:Key):Prop:=k.path≠[]\/k.root.boxed=true
theorem qcn {k:Key}:k.heap=true↔k.inHeap:=by unfold Key.heap Key.inHeap;simp[List.isEmpty_iff]
class Glob where
 n:Nat
 H:Nat->Option Obj
variable [Glob]
structure GInv (G:Gh) (w:World):Prop where
 inj:∀ k k' h h',G.γ k=some h->G.γ k'=some h'->h.b=h'.b->k=k'
 lt:∀ k h,G.γ k=some h->h.b<w.heap.size
 imlt:∀ b,G.im b->b<w.heap.size
 glob:∀ b,b<Glob.n->G.im b/\w.heap[b]? = Glob.H b
structure RelF (G:Gh) (w:World) (F:Fr) (ts:Array Value):Prop where
 inv:GInv G w
 size:F.slots.length=ts.size
 slots:∀ k v,F.slots[k]? = some v->∃ V,ts[k]? = some V/\YY G w ⟨.slot k,[]⟩ v V
 boxes:∀ r l,F.boxes.lookup r=some l->r.boxed=true/\G.ok r
 live:∀ d,G.lv d->(F.boxes.lookup (.loc d)).isSome=true
 cont:∀ k rows,F.rowsAt k=some rows->k.inHeap->qU G w k rows
def Out (w w':World):Prop:=w'.os=w.os/\w'.output=w.output
theorem Out.refl (w):Out w w:=⟨rfl,rfl⟩
theorem Out.trans {w w1 w2}(h1:Out w w1)(h2:Out w1 w2):Out w w2:=⟨h2.1.trans h1.1,h2.2.trans h1.2⟩
structure Gain (G:Gh) (w:World) (G':Gh) (w':World):Prop where
 size:w.heap.size<=w'.heap.size
 im:∀ b,G.im b->G'.im b
 keep:∀ b,G.im b->w'.heap[b]? = w.heap[b]?
 rest:∀ b,b<w.heap.size->(∀ k h,G.γ k=some h->h.b≠b)->w'.heap[b]? = w.heap[b]?/\(G'.im b->G.im b)
 own:∀ k h,G'.γ k=some h->(∃ k0 h0,G.γ k0=some h0/\h0.b=h.b)\/w.heap.size<=h.b
 par:∀ i,G'.γ ⟨.par i,[]⟩=G.γ ⟨.par i,[]⟩
 out:Out w w'
 loc:∀ d,G.lv d->G'.lv d/\G'.γ ⟨.loc d,[]⟩=G.γ ⟨.loc d,[]⟩
structure zS (G:Gh) (w:World) (G':Gh) (w':World):Prop where
 size:w.heap.size<=w'.heap.size
 im:∀ b,G.im b->G'.im b
 keep:∀ b,G.im b->w'.heap[b]? = w.heap[b]?
 rest:∀ b,b<w.heap.size->(∀ k h,G.γ k=some h->h.b≠b)->w'.heap[b]? = w.heap[b]?/\(G'.im b->G.im b)
 own:∀ k h,G'.γ k=some h->(∃ k0 h0,G.γ k0=some h0/\h0.b=h.b)\/w.heap.size<=h.b
 par:∀ i,G'.γ ⟨.par i,[]⟩=G.γ ⟨.par i,[]⟩
 out:Out w w'
theorem Gain.w {G w G' w'}(h:Gain G w G' w'):zS G w G' w':=⟨h.size,h.im,h.keep,h.rest,h.own,h.par,h.out⟩
theorem zS.full {G w G' w'}(h:zS G w G' w')(hl:∀ d,¬ G.lv d):Gain G w G' w':=⟨h.size,h.im,h.keep,h.rest,h.own,h.par,h.out,fun d hd=>absurd hd (hl d)⟩
theorem Gain.refl (G)(w):Gain G w G w:=⟨Nat.le_refl _,fun _ h=>h,fun _ _=>rfl,fun _ _ _=>⟨rfl,fun h=>h⟩,fun k h e=>.inl ⟨k,h,e,rfl⟩,fun _=>rfl,.refl w,fun _ h=>⟨h,rfl⟩⟩
theorem zS.trans {G G1 G2 w w1 w2}(h1:zS G w G1 w1)(h2:zS G1 w1 G2 w2):zS G w G2 w2 where
 size:=Nat.le_trans h1.size h2.size
 im b h:=h2.im b (h1.im b h)
 keep b h:=by rw[h2.keep b (h1.im b h),h1.keep b h]
 rest b hb hn:=by
  have hn1:∀ k h,G1.γ k=some h->h.b≠b:=by
   intro k h e hbb;rcases h1.own k h e with⟨k0,h0,e0,hb0⟩|hge
   . exact hn k0 h0 e0 (by omega)
   . omega
  have r1:=h1.rest b hb hn;have r2:=h2.rest b (Nat.lt_of_lt_of_le hb h1.size) hn1;exact⟨by rw[r2.1,r1.1],fun h=>r1.2 (r2.2 h)⟩
 own k h e:=by
  rcases h2.own k h e with⟨k1,h1',e1,hb1⟩|hge
  . rcases h1.own k1 h1' e1 with⟨k0,h0,e0,hb0⟩|hge
    . exact .inl ⟨k0,h0,e0,by omega⟩
    . exact .inr (by omega)
  . exact .inr (Nat.le_trans h1.size hge)
 par i:=by rw[h2.par i,h1.par i]
 out:=h1.out.trans h2.out
theorem Gain.trans {G G1 G2 w w1 w2}(h1:Gain G w G1 w1)(h2:Gain G1 w1 G2 w2):Gain G w G2 w2 where
 size:=Nat.le_trans h1.size h2.size
 im b h:=h2.im b (h1.im b h)
 keep b h:=by rw[h2.keep b (h1.im b h),h1.keep b h]
 rest b hb hn:=by
  have hn1:∀ k h,G1.γ k=some h->h.b≠b:=by
   intro k h e hbb;rcases h1.own k h e with⟨k0,h0,e0,hb0⟩|hge
   . exact hn k0 h0 e0 (by omega)
   . omega
  have r1:=h1.rest b hb hn;have r2:=h2.rest b (Nat.lt_of_lt_of_le hb h1.size) hn1;exact⟨by rw[r2.1,r1.1],fun h=>r1.2 (r2.2 h)⟩
 own k h e:=by
  rcases h2.own k h e with⟨k1,h1',e1,hb1⟩|hge
  . rcases h1.own k1 h1' e1 with⟨k0,h0,e0,hb0⟩|hge
    . exact .inl ⟨k0,h0,e0,by omega⟩
    . exact .inr (by omega)
  . exact .inr (Nat.le_trans h1.size hge)
 par i:=by rw[h2.par i,h1.par i]
 out:=h1.out.trans h2.out
 loc d h:=let a:=h1.loc d h;let b:=h2.loc d a.1;⟨b.1,b.2.trans a.2⟩
structure Same (G:Gh) (w w':World):Prop where
 size:w.heap.size<=w'.heap.size
 im:∀ b,G.im b->w'.heap[b]? = w.heap[b]?
 γ:∀ k h,G.γ k=some h->w'.heap[h.b]? = w.heap[h.b]?
structure qjb (G:Gh) (w w':World):Prop where
 im:∀ b,G.im b->w'.heap[b]? = w.heap[b]?
 mp:∀ k h es c,G.γ k=some h->w.heap[h.b]? = some (.map es c)->w'.heap[h.b]? = w.heap[h.b]?
theorem Same.m {G w w'}(h:Same G w w'):qjb G w w':=⟨h.im,fun k x _ _ e _=>h.γ k x e⟩
theorem ZQ.mono {im im' w w'}(him:∀ b,im b->im' b)(hw:∀ b,im b->w'.heap[b]? = w.heap[b]?){l v}(h:ZQ im w l v):ZQ im' w' l v:=⟨h.1,h.2.1,fun o c e=>let ⟨u,hu,hr⟩:=h.2.2 o c e;⟨u,hu,hr.mono him hw⟩⟩
theorem ZB.mono {im im' w w'}(him:∀ b,im b->im' b)(hw:∀ b,im b->w'.heap[b]? = w.heap[b]?):
  ∀ {es:List (Value×List Cell)} {ents:List MapEntry},ZB im w es ents->ZB im' w' es ents
 |[],[],_=>trivial
 |(_,_)::_,_::_,⟨h1,h2,h3⟩=>⟨h1,h2.mono him hw,ZB.mono him hw h3⟩
 |[],_::_,h=>h.elim
 |_::_,[],h=>h.elim
theorem Sh.same {G w w'}(hs:qjb G w w'){p c v}(h:Sh G w p c v):Sh G w' p c v:=by
 cases c with
 |imm rows=>exact RelI.mono (fun _ h=>h) hs.im h
 |mp es=>obtain⟨h,ents,clock,e1,e2,e3,e4,e5,e6⟩:=h;exact⟨h,ents,clock,e1,e2,e3,e4,by rw[hs.mp _ _ _ _ e1 e5];exact e5,e6.mono (fun _ h=>h) hs.im⟩
 |cptr row o=>obtain⟨b,base,vs,T,fr,e1,e2,e3,e4⟩:=h;exact⟨b,base,vs,T,fr,e1,e2,by rw[hs.im _ e1];exact e3,fun j c e=>let ⟨u,hu,hr⟩:=e4 j c e;⟨u,hu,hr.mono (fun _ h=>h) hs.im⟩⟩
 |_=>exact h
theorem RelC.same {G w w'}(hs:Same G w w'){k rows}(h:RelC G w k rows):RelC G w' k rows:=by obtain⟨h,vs,T,e1,e2,e3,e4,e5,e6,e7,e8,e9⟩:=h;exact⟨h,vs,T,e1,e2,e3,by rw[hs.γ _ _ e1];exact e4,e5,e6,e7,e8,fun r o c e=>let ⟨u,hu,hr⟩:=e9 r o c e;⟨u,hu,hr.same hs.m⟩⟩
theorem RelM.same {G w w'}(hs:qjb G w w'){k rows}(h:RelM G w k rows):RelM G w' k rows:=by obtain⟨h,es,ents,clock,e0,e1,e2,e3,e4,e5,e6⟩:=h;exact⟨h,es,ents,clock,e0,e1,e2,e3,e4,by rw[hs.mp _ _ _ _ e2 e5];exact e5,e6.mono (fun _ h=>h) hs.im⟩
theorem qU.same {G w w'}(hs:Same G w w'){k rows}(h:qU G w k rows):qU G w' k rows:=h.imp (Or.imp (fun h=>h) (RelM.same hs.m)) (RelC.same hs)
theorem YY.map {G G' w w' k k' v V}(h:YY G w k v V)(hc:∀ r o c u,cellAt v.rows r o=some c->Sh G w ⟨k,r,o⟩ c u->Sh G' w' ⟨k',r,o⟩ c u):YY G' w' k' v V:=⟨h.1,fun r o c e=>let ⟨u,hu,hs⟩:=h.2 r o c e;⟨u,hu,hs.imp (fun h=>h) (hc r o c u e)⟩⟩
theorem RelF.same {G w w' F ts}(h:RelF G w F ts)(hs:Same G w w'):RelF G w' F ts where
 inv:=⟨h.inv.inj,fun k x e=>Nat.lt_of_lt_of_le (h.inv.lt k x e) hs.size,fun b e=>Nat.lt_of_lt_of_le (h.inv.imlt b e) hs.size,fun b hb=>⟨(h.inv.glob b hb).1,(hs.im b (h.inv.glob b hb).1).trans (h.inv.glob b hb).2⟩⟩
 size:=h.size
 slots k v e:=let ⟨V,hV,hr⟩:=h.slots k v e;⟨V,hV,hr.map fun _ _ _ _ _ h=>h.same hs.m⟩
 boxes:=h.boxes
 live:=h.live
 cont k rows e i:=(h.cont k rows e i).same hs
theorem Hd.val_one (h:Hd):oneC h.val=true:=by unfold Hd.val;split<;>rfl
theorem Hd.adr_one (h:Hd)(r o):oneC (h.adr r o)=true:=by
 unfold Hd.adr;split
 . exact h.val_one
 . rfl
theorem Sh.one {G w p c v}(h:Sh G w p c v):oneC v=true:=by
 cases c with
 |val u=>obtain⟨rfl,h⟩:=h;exact h
 |nil=>cases h;rfl
 |imm rows=>exact RelI.one h
 |own zz rows=>
  rcases h with⟨_,_,rfl⟩|⟨x,_,_,rfl,_⟩
  . rfl
  . exact x.val_one
 |mp es=>obtain⟨x,_,_,_,_,rfl,_⟩:=h;exact x.val_one
 |mpb es=>exact h.elim
 |ptr q=>obtain⟨_,x,_,_,rfl⟩:=h;exact x.adr_one _ _
 |cptr row o=>obtain⟨_,_,_,_,_,_,rfl,_⟩:=h;rfl
 |ref q=>
  rcases h with⟨_,⟨_,rfl⟩|⟨x,_,rfl⟩⟩
  . rfl
  . exact x.val_one
 |clo f fs cs=>obtain⟨_,_,rfl,_⟩:=h;rfl
 |dead=>exact h
end
section
variable [Glob]
theorem qc {rows r o c}:cellAt rows r o=some c↔∃ row,rows[r]? = some row/\row[o]? = some c:=by unfold cellAt;cases rows[r]?<;>simp
theorem Yp (rows r o)(c):(setRow rows r o c).map List.length=rows.map List.length:=by
 apply List.ext_getElem?;intro i;simp only[setRow,aI,List.getElem?_set];by_cases h:r=i
 .
  subst h;by_cases hl:r<rows.length
  . simp[hl]
  . simp[hl]
 . simp[h]
theorem qO {rows r o c c0}(h:cellAt rows r o=some c0)(r' o'):
  cellAt (setRow rows r o c) r' o'=if r'=r/\o'=o then some c else cellAt rows r' o':=by
 obtain⟨row,h1,h2⟩:=qc.1 h;obtain⟨hr,rfl⟩:=az.1 h1;obtain⟨ho,_⟩:=az.1 h2;unfold cellAt setRow;rw[h1];simp only[Option.getD_some,List.getElem?_set];by_cases hr':r=r'
 .
  subst hr';simp only[if_true,hr,ae,List.getElem?_set,h1,true_and];by_cases ho':o=o'
  . subst ho';simp[ho]
  . have:¬ o'=o:=fun e=>ho' e.symm;simp[ho',this]
 . have:¬ r'=r:=fun e=>hr' e.symm;simp[hr',this]
def Shp (c c':Cell):Prop:=c=c'\/∃ zz rows rows',c=.own zz rows/\c'=.own zz rows'/\rows.map List.length=rows'.map List.length
structure Like (ex:Option (Nat×Nat)) (a b:List (List Cell)):Prop where
 len:a.map List.length=b.map List.length
 cell:∀ r o c',cellAt b r o=some c'->ex≠some (r,o)->∃ c,cellAt a r o=some c/\Shp c c'
theorem Like.refl (a):Like none a a:=⟨rfl,fun _ _ c' h _=>⟨c',h,.inl rfl⟩⟩
def subR (c:Cell)(rest:List (Nat×Nat)):Option (List (List Cell)):=match c with|.own _ rs=>getR rs rest|_=>none
theorem qe2 (c)(r o):∀ (π:List (Nat×Nat)) (rows rows':List (List Cell)),updR (putAt r o c) rows π=some rows' ->
    (∃ a b,getR rows π=some a/\getR rows' π=some b/\b=setRow a r o c/\(∃ c0,cellAt a r o=some c0))/\rows.map List.length=rows'.map List.length /\
    ∀ π',(∃ rest,π'=π++(r,o)::rest/\getR rows' π'=subR c rest) \/
      (¬ (π++[(r,o)]) <+: π'/\((getR rows π'=none/\getR rows' π'=none) \/
        ∃ a b,getR rows π'=some a/\getR rows' π'=some b/\Like (if π'=π then some (r,o)else none) a b)):=by
  intro π
  induction π with
  | nil=>
    intro rows rows' h;simp only[updR,putAt]at h;cases h0:cellAt rows r o with
    |none=>simp[h0]at h
    | some c0=>
      simp only[h0,aa]at h;subst h;refine⟨⟨rows,_,rfl,rfl,rfl,c0,h0⟩,(Yp rows r o c).symm,fun π'=>?_⟩;cases π' with
      |nil=>right;refine⟨by simp,.inr ⟨rows,_,rfl,rfl,(Yp rows r o c).symm,fun r' o' c' h hne=>?_⟩⟩;rw[qO h0]at h;simp only[if_true,ne_eq,aa,ai]at hne;rw[aG (fun e=>hne ⟨e.1.symm,e.2.symm⟩)]at h;exact⟨c',h,.inl rfl⟩
      | cons x rest=>
        obtain⟨r',o'⟩:=x;by_cases he:r'=r/\o'=o
        . obtain⟨rfl,rfl⟩:=he;left;refine⟨rest,by simp,?_⟩;simp only[getR,qO h0,and_self,if_true];cases c<;>rfl
        . right;refine⟨?_,?_⟩
          . simp only[List.nil_append,List.cons_prefix_cons,ai,List.nil_prefix,and_true];exact fun e=>he ⟨e.1.symm,e.2.symm⟩
          . simp only[getR,qO h0,aG he];cases hc:cellAt rows r' o' with
            |none=>exact .inl ⟨rfl,rfl⟩
            | some c'=>
              cases c'<;>first
                |exact .inl ⟨rfl,rfl⟩
                |(rename_i rs
                  simp only;cases hg:getR rs rest with
                  |none=>exact .inl ⟨rfl,rfl⟩
                  |some a=>exact .inr ⟨a,a,rfl,rfl,by simpa using Like.refl a⟩)
  | cons x π ih=>
    obtain⟨r1,o1⟩:=x;intro rows rows' h;simp only[updR]at h;cases h0:cellAt rows r1 o1 with
    |none=>simp[h0]at h
    | some c1=>
      cases c1<;>simp only[h0]at h<;>try (exact absurd h (by simp))
      rename_i rs;cases h1:updR (putAt r o c) rs π with
      |none=>simp[h1]at h
      | some rs'=>
        simp only[h1,aa]at h;subst h;obtain⟨⟨a,b,ga,gb,hb,hc0⟩,hlen,hrest⟩:=ih rs rs' h1;refine⟨⟨a,b,by simp[getR,h0,ga],by simp[getR,qO h0,gb],hb,hc0⟩,(Yp rows r1 o1 _).symm,fun π'=>?_⟩;cases π' with
        | nil=>
          right;refine⟨by simp,.inr ⟨rows,_,rfl,rfl,(Yp rows r1 o1 _).symm,fun r' o' c' h _=>?_⟩⟩;rw[qO h0]at h;by_cases he:r'=r1/\o'=o1
          . obtain⟨rfl,rfl⟩:=he;simp only[and_self,if_true,aa]at h;subst h;exact⟨_,h0,.inr ⟨_,rs,rs',rfl,rfl,hlen⟩⟩
          . rw[aG he]at h;exact⟨c',h,.inl rfl⟩
        | cons y rest=>
          obtain⟨r',o'⟩:=y;by_cases he:r'=r1/\o'=o1
          . obtain⟨rfl,rfl⟩:=he;rcases hrest rest with⟨rest',e,hg⟩|⟨hn,hg⟩
            . left;refine⟨rest',by rw[e];simp,?_⟩;simp only[getR,qO h0,and_self,if_true];exact hg
            . right;refine⟨by simpa using hn,?_⟩;simp only[getR,qO h0,h0,and_self,if_true,List.cons.injEq,true_and];exact hg
          . right;refine⟨?_,?_⟩
            . simp only[List.cons_append,List.cons_prefix_cons,ai];exact fun e=>he ⟨e.1.1.symm,e.1.2.symm⟩
            . simp only[getR,qO h0,aG he];have hne:¬ ((r',o')::rest=(r1,o1)::π):=by
                simp only[List.cons.injEq,ai];exact fun e=>he e.1
              simp only[hne,if_false];cases hc:cellAt rows r' o' with
              |none=>exact .inl ⟨rfl,rfl⟩
              | some c'=>
                cases c'<;>first
                  |exact .inl ⟨rfl,rfl⟩
                  |(rename_i rs2
                    simp only;cases hg:getR rs2 rest with
                    |none=>exact .inl ⟨rfl,rfl⟩
                    |some a=>exact .inr ⟨a,a,rfl,rfl,Like.refl a⟩)
def Pl.under (p:Pl)(rest:List (Nat×Nat)):Key:=⟨p.key.root,p.key.path++(p.r,p.o)::rest⟩
theorem Pl.under_nil (p:Pl):p.under []=p.toKey:=rfl
theorem Pl.under_inHeap (p:Pl)(rest):(p.under rest).inHeap:=.inl (by simp[Pl.under])
theorem yu (r r' l)(bs):
  (YQ r l bs).lookup r'=if r'=r then(if (bs.lookup r).isSome then some l else none)else bs.lookup r':=by
 induction bs with
 |nil=>simp[YQ]
 |cons x bs ih=>
  obtain⟨r0,l0⟩:=x;simp only[YQ];by_cases h0:r0=r
  .
   subst h0;simp only[if_true,List.lookup_cons];by_cases h:r'=r0
   . subst h;simp
   . have:(r'==r0)=false:=by simpa using h
     simp[this,h]
  .
   simp only[h0,if_false,List.lookup_cons];have e2:(r==r0)=false:=by simpa using fun e=>h0 e.symm
   by_cases h:r'=r0
   . subst h;simp[h0]
   . have e1:(r'==r0)=false:=by simpa using h
     simp only[e1,e2,ih]
theorem Fr.rows_ns (F:Fr){r}(hr:∀ k,r≠.slot k):F.rows r=(F.boxes.lookup r).map fun l=>[l]:=by cases r<;>first|exact absurd rfl (hr _)|rfl
theorem Fr.setRows_ns (F:Fr){r}(hr:∀ k,r≠.slot k)(rows):F.setRows r rows={ F with boxes:=YQ r (rows.headD []) F.boxes }:=by cases r<;>first|exact absurd rfl (hr _)|rfl
theorem qkH {α:Type}{l rows'}{f:α->Nat}(hl:[l].map f=rows'.map f):∃ l',rows'=[l']:=by
 match rows',hl with
 |[],h=>simp at h
 |[l'],_=>exact⟨l',rfl⟩
 |_::_::_,h=>simp at h
theorem qao {F:Fr}{r rows rows'}(h:F.rows r=some rows)(hl:rows.map List.length=rows'.map List.length)(r'):
  (F.setRows r rows').rows r'=if r'=r then some rows' else F.rows r':=by
 by_cases hs:∃ k,r=.slot k
 .
  obtain⟨k,rfl⟩:=hs;simp only[Fr.rows]at h;cases hk:F.slots[k]? with
  |none=>simp[hk]at h
  |some v=>
   simp only[Fr.setRows,hk];by_cases hs':∃ k,r'=.slot k
   . obtain⟨k',rfl⟩:=hs';simp only[Fr.rows,List.getElem?_set,Root.slot.injEq];obtain⟨hlt,_⟩:=az.1 hk;by_cases e:k=k'
     . subst e;simp[hlt]
     . rw[aG e,aG (fun e'=>e e'.symm)]
   . have hs'':∀ k,r'≠.slot k:=fun k e=>hs' ⟨k,e⟩;rw[Fr.rows_ns _ hs'',Fr.rows_ns _ hs'',aG (hs'' k)]
 .
  have hs'':∀ k,r≠.slot k:=fun k e=>hs ⟨k,e⟩;rw[Fr.setRows_ns _ hs''];rw[Fr.rows_ns _ hs'']at h;by_cases hs':∃ k,r'=.slot k
  . obtain⟨k',rfl⟩:=hs';rw[aG (fun e=>hs'' k' e.symm)];rfl
  .
   have hs3:∀ k,r'≠.slot k:=fun k e=>hs' ⟨k,e⟩;rw[Fr.rows_ns _ hs3,Fr.rows_ns _ hs3];simp only[yu];by_cases e:r'=r
   . subst e;cases hb:F.boxes.lookup r' with
     |none=>simp[hb]at h
     |some l=>simp only[hb,av,aa]at h;subst h;obtain⟨l',rfl⟩:=qkH hl;simp
   . simp[e]
theorem qdg (F:Fr)(r rows')(k:Nat):((F.setRows r rows').slots[k]?).map AV.tag=(F.slots[k]?).map AV.tag:=by
 by_cases hs:∃ k,r=.slot k
 .
  obtain⟨j,rfl⟩:=hs;simp only[Fr.setRows];cases hj:F.slots[j]? with
  |none=>rfl
  |some v=>
   simp only[List.getElem?_set];by_cases e:j=k
   . subst e;obtain⟨hlt,hv⟩:=az.1 hj;simp[hlt,hv]
   . simp[e]
 . rw[Fr.setRows_ns _ (fun k e=>hs ⟨k,e⟩)]
structure qau (F F':Fr) (p:Pl) (c:Cell):Prop where
 old:∃ c0,F.get p=some c0
 new:F'.get p=some c
 under:∀ rest,F'.rowsAt (p.under rest)=subR c rest
 other:∀ k,(∀ rest,k≠p.under rest)->(F.rowsAt k=none/\F'.rowsAt k=none) \/
  ∃ a b,F.rowsAt k=some a/\F'.rowsAt k=some b/\Like (if k=p.key then some (p.r,p.o)else none) a b
 len:F'.slots.length=F.slots.length
 tags:∀ k:Nat,(F'.slots[k]?).map AV.tag=(F.slots[k]?).map AV.tag
 boxes:∀ r,(F'.boxes.lookup r).isSome=(F.boxes.lookup r).isSome
theorem Fr.setTo {F F' p c}(h:F.set p c=some F'):qau F F' p c:=by
 unfold Fr.set at h;cases hr:F.rows p.key.root with
 |none=>simp[hr]at h
 |some rows=>
  simp only[hr]at h;cases hu:updR (putAt p.r p.o c) rows p.key.path with
  |none=>simp[hu]at h
  |some rows'=>
   simp only[hu,aa]at h;subst h;obtain⟨⟨a,b,ga,gb,hb,c0,hc0⟩,hlen,hall⟩:=qe2 c p.r p.o _ _ _ hu;have hrows:=qao hr hlen;have hat:∀ k,(F.setRows p.key.root rows').rowsAt k=if k.root=p.key.root then getR rows' k.path else F.rowsAt k:=by intro k;simp only[Fr.rowsAt,hrows];split<;>simp
   have hat0:∀ k,k.root=p.key.root->F.rowsAt k=getR rows k.path:=by intro k e;simp[Fr.rowsAt,e,hr]
   refine⟨⟨c0,?_⟩,?_,fun rest=>?_,fun k hk=>?_,?_,qdg F _ _,?_⟩
   . simp[Fr.get,hat0 p.key rfl,ga,hc0]
   . simp[Fr.get,hat p.key,gb,hb,qO hc0]
   .
    rw[hat];simp only[Pl.under,if_true];rcases hall (p.key.path++(p.r,p.o)::rest)with⟨rest',e,hg⟩|⟨hn,_⟩
    . have:rest=rest':=by simpa using e
      subst this;exact hg
    . exact absurd ⟨rest,by simp⟩ hn
   .
    rw[hat];by_cases e:k.root=p.key.root
    . simp only[e,if_true];rw[hat0 k e];rcases hall k.path with⟨rest,e',hg⟩|⟨hn,hg⟩
      . exact absurd (by cases k;simp_all[Pl.under]) (hk rest)
      . have:(k=p.key)=(k.path=p.key.path):=by cases k;cases hp:p.key;simp_all
        simp only[this];exact hg
    . simp only[e,if_false];have hne:¬ k=p.key:=fun e'=>e (by rw[e']);cases hk':F.rowsAt k with
      |none=>exact .inl ⟨rfl,rfl⟩
      |some a=>exact .inr ⟨a,a,rfl,rfl,by simpa [hne]using Like.refl a⟩
   . by_cases hs:∃ k,p.key.root=.slot k
     . obtain⟨k,e⟩:=hs;rw[e];simp only[Fr.setRows];split<;>simp
     . rw[Fr.setRows_ns _ (fun k e=>hs ⟨k,e⟩)]
   .
    intro r;by_cases hs:∃ k,p.key.root=.slot k
    . obtain⟨k,e⟩:=hs;rw[e];simp only[Fr.setRows];split<;>rfl
    . rw[Fr.setRows_ns _ (fun k e=>hs ⟨k,e⟩)];simp only[yu];split
      . rename_i e;rw[e];cases h:F.boxes.lookup p.key.root<;>rfl
      . rfl
end
section
variable [Glob]
theorem Shp.pure {c c'}(h:Shp c c')(hc:qw c=true):qw c'=true:=by
 rcases h with h|⟨z,a,b,h1,h2,h3⟩
 . rw[<- h];exact hc
 . rw[h2];rfl
theorem Sh.shp {G w p c c' v}(hs:Shp c c')(h:Sh G w p c v):Sh G w p c' v:=by
 rcases hs with hs|⟨z,a,b,h1,h2,h3⟩
 . rw[<- hs];exact h
 .
  subst h1;subst h2;rcases h with⟨g1,g2,g3⟩|⟨hd,e1,e2,e3,e4,e5⟩
  . subst g2;exact .inl ⟨g1,by simpa using h3,g3⟩
  exact .inr ⟨hd,e1,e2,e3,by have:=congrArg List.length h3;simp at this;omega,e5⟩
def Tree (G:Gh)(w:World)(p:Pl)(c:Cell):Prop:=∀ rest rows,subR c rest=some rows->qU G w (p.under rest) rows
theorem Tree.flat {G w p c}(h:∀ zz rows,c≠.own zz rows):Tree G w p c:=by intro rest rows e;cases c<;>first|exact absurd rfl (h _ _)|simp[subR]at e
def Val (G:Gh)(w:World)(F:Fr)(ts:Array Value)(p:Pl)(u:Value):Prop:=
 (p.key.inHeap/\∃ h vs T,G.γ p.key=some h/\w.heap[h.b]? = some (.cells vs T (0,0))/\vs[p.r*h.sz+p.o]? = some u) \/
 (¬ p.key.inHeap/\∃ k v V,p.key=⟨.slot k,[]⟩/\F.slots[k]? = some v/\ts[k]? = some V/\qX v.tag V p.r p.o=some u)
theorem Zi (k):¬ (⟨.slot k,[]⟩:Key).inHeap:=by simp[Key.inHeap,Root.boxed]
theorem RelF.rowsAt_cases {G w F ts}(h:RelF G w F ts){k rows}(e:F.rowsAt k=some rows):
  k.inHeap\/∃ j v,k=⟨.slot j,[]⟩/\F.slots[j]? = some v/\v.rows=rows:=by
 by_cases hi:k.inHeap
 . exact .inl hi
 .
  right;obtain⟨r,π⟩:=k;simp only[Key.inHeap,not_or,ne_eq,Decidable.not_not,Bool.not_eq_true]at hi;obtain⟨rfl,hr⟩:=hi;simp only[Fr.rowsAt]at e;cases r with
  |slot j=>
   simp only[Fr.rows]at e;cases hj:F.slots[j]? with
   |none=>simp[hj]at e
   |some v=>exact⟨j,v,rfl,hj,by simpa [hj,getR]using e⟩
  |par i=>simp[Root.boxed]at hr
  |loc i=>simp[Root.boxed]at hr
  |res=>
   simp only[Fr.rows]at e;cases hb:F.boxes.lookup .res with
   |none=>simp[hb]at e
   |some l=>have:=(h.boxes _ _ hb).1;simp[Root.boxed]at this
theorem RelF.val {G w F ts}(h:RelF G w F ts){p c}(e:F.get p=some c)(hb:∀ es,c≠.mpb es:=by intro _;simp):
  ∃ u,Val G w F ts p u/\((c=.dead/\¬ p.key.inHeap)\/Sh G w p c u):=by
 unfold Fr.get at e;cases hr:F.rowsAt p.key with
 |none=>simp[hr]at e
 |some rows=>
  simp only[hr,ae]at e;rcases h.rowsAt_cases hr with hi|⟨k,v,hk,hv,hrows⟩
  . obtain⟨hd,vs,T,e1,e2,e3,e4,e5,e6,e7,e8,e9⟩:=(h.cont _ _ hr hi).of_cell e hb;obtain⟨u,hu,hs⟩:=e9 _ _ _ e;exact⟨u,.inl ⟨hi,hd,vs,T,e1,e4,hu⟩,.inr hs⟩
  .
   obtain⟨V,hV,hrel⟩:=h.slots k v hv;rw[<- hrows]at e;obtain⟨u,hu,hs⟩:=hrel.2 _ _ _ e;have hn:¬ p.key.inHeap:=by rw[hk];exact Zi k
   refine⟨u,.inr ⟨hn,k,v,V,hk,hv,hV,hu⟩,?_⟩;rcases hs with hs|hs
   . exact .inl ⟨hs,hn⟩
   . exact .inr (by rw[<- hk]at hs;exact hs)
theorem Like.len_row {ex a b}(h:Like ex a b){n}(ha:∀ row∈a,row.length=n):∀ row∈b,row.length=n:=by intro row hm;have:row.length∈b.map List.length:=List.mem_map.2 ⟨row,hm,rfl⟩;rw[<- h.len]at this;obtain⟨row',hm',e⟩:=List.mem_map.1 this;rw[<- e,ha row' hm']
theorem Like.length {ex a b}(h:Like ex a b):a.length=b.length:=by have:=congrArg List.length h.len;simpa using this
theorem qww {es r o c}(e:cellAt [[Cell.mpb es]] r o=some c):r=0/\o=0/\c=.mpb es:=by
 obtain⟨l,h1,h2⟩:=qc.1 e;cases r with
 |succ r=>simp at h1
 |zero=>
  simp at h1;subst h1;cases o with
  |succ o=>simp at h2
  |zero=>simp at h2;exact⟨rfl,rfl,h2.symm⟩
theorem Like.mpb {ex es b}(h:Like ex [[Cell.mpb es]] b):∃ c,b=[[c]]/\(ex≠some (0,0)->c=.mpb es):=by
 have hl:=h.len
 match b,hl with
 |[[c]],_=>
  refine⟨c,rfl,fun hx=>?_⟩;obtain⟨c0,h0,hs⟩:=h.cell 0 0 c rfl hx;obtain⟨_,_,rfl⟩:=qww h0;rcases hs with rfl|⟨_,_,_,h,_⟩
  . rfl
  . cases h
 |[],h=>simp at h
 |[[]],h=>simp at h
 |[_::_::_],h=>simp at h
 |_::_::_,h=>simp at h
theorem qxV {es b}(hl:[[Cell.mpb es]].map List.length=b.map List.length)(hm:cellAt b 0 0=some (.mpb es)):b=[[.mpb es]]:=by
 match b,hl with
 |[[c]],_=>simp[cellAt]at hm;rw[hm]
 |[],h=>simp at h
 |[[]],h=>simp at h
 |[_::_::_],h=>simp at h
 |_::_::_,h=>simp at h
theorem qAB {q q1:Pl}(h1:q.key.path=q1.key.path)(h2:q.r=q1.r):q.isM=q1.isM:=by simp[Pl.isM,h1,h2]
theorem RelF.set {G w F F' ts p c}(h:RelF G w F ts)(st:qau F F' p c)(hp:p.key.path≠[]->qw c=true)(hc:∀ u,Val G w F ts p u->(c=.dead/\¬ p.key.inHeap)\/Sh G w p c u)(ht:Tree G w p c)(hm:∀ es,F.get p≠some (.mpb es)):RelF G w F' ts:=by
 refine⟨h.inv,by rw[st.len];exact h.size,fun k v' hk=>?_,fun r l e=>?_,fun d hd=>by rw[st.boxes];exact h.live d hd,fun k rows e hi=>?_⟩
 .
  have ht':=st.tags k;rw[hk]at ht';cases hk0:F.slots[k]? with
  |none=>simp[hk0]at ht'
  |some v=>
   simp only[hk0,av,aa]at ht';obtain⟨V,hV,hsh,hcell⟩:=h.slots k v hk0;refine⟨V,hV,?_⟩;rcases st.other ⟨.slot k,[]⟩ (fun rest e=>by simp[Pl.under]at e)with⟨hn,_⟩|⟨a,b,ha,hb,hl⟩
   . simp[Fr.rowsAt,Fr.rows,hk0,getR]at hn
   .
    have ea:a=v.rows:=by simpa [Fr.rowsAt,Fr.rows,hk0,getR]using ha.symm
    have eb:b=v'.rows:=by simpa [Fr.rowsAt,Fr.rows,hk,getR]using hb.symm
    subst ea;subst eb;refine⟨by rw[ht',<- hl.len];exact hsh,fun r o c' hc'=>?_⟩;by_cases hx:(⟨.slot k,[]⟩:Key)=p.key/\r=p.r/\o=p.o
    .
     obtain⟨hk',hr',ho'⟩:=hx;have hcc:c'=c:=by have hn:=st.new;unfold Fr.get at hn;rw[<- hk',hb,<- hr',<- ho']at hn;simp only[ae,hc',aa]at hn;exact hn
     subst hcc;obtain⟨c0,hc0⟩:=st.old;unfold Fr.get at hc0;rw[<- hk',ha]at hc0;simp only[ae,<- hr',<- ho']at hc0;obtain⟨u,hu,_⟩:=hcell r o c0 hc0;refine⟨u,by rw[ht'];exact hu,?_⟩;have hnh:¬ p.key.inHeap:=by rw[<- hk'];exact Zi k
     have:=hc u (.inr ⟨hnh,k,v,V,hk'.symm,hk0,hV,by rw[<- hr',<- ho'];exact hu⟩);rcases this with⟨hd,_⟩|hsh'
     . exact .inl hd
     . right;have:p=⟨⟨.slot k,[]⟩,r,o⟩:=by cases p;simp_all
       rw[<- this];exact hsh'
    .
     have hne:(if (⟨.slot k,[]⟩:Key)=p.key then some (p.r,p.o)else none)≠some (r,o):=by
      split
      . rename_i e;simp only[ne_eq,aa,ai];exact fun e'=>hx ⟨e,e'.1.symm,e'.2.symm⟩
      . simp
     obtain⟨c0,hc0,hshp⟩:=hl.cell r o c' hc' hne;obtain⟨u,hu,hrel⟩:=hcell r o c0 hc0;refine⟨u,by rw[ht'];exact hu,?_⟩;rcases hrel with hd|hrel
     . left;rcases hshp with e|⟨_,x,y,e1,_⟩
       . rw[<- e,hd]
       . rw[hd]at e1;cases e1
     . exact .inr (hrel.shp hshp)
 .
  have:=st.boxes r;rw[e]at this;cases hb:F.boxes.lookup r with
  |none=>simp[hb]at this
  |some l0=>exact h.boxes _ _ hb
 .
  by_cases hu:∃ rest,k=p.under rest
  . obtain⟨rest,rfl⟩:=hu;rw[st.under]at e;exact ht rest rows e
  .
   rcases st.other k (fun rest e=>hu ⟨rest,e⟩)with⟨_,hn⟩|⟨a,b,ha,hb,hl⟩
   . rw[hn]at e;cases e
   .
    have e':b=rows:=by simpa [hb]using e
    subst e';rcases h.cont k a ha hi with(⟨g1,g2,g3⟩|⟨x,es,ents,clock,rfl,g⟩)|⟨hd,vs,T,e1,e2,e3,e4,e5,e6,e7,e8,e9⟩
    . subst g2;exact .inl (.inl ⟨g1,List.eq_nil_of_length_eq_zero (by simpa using hl.length.symm),g3⟩)
    . obtain⟨c',rfl,hc'⟩:=hl.mpb;have:(if k=p.key then some (p.r,p.o)else none)≠some (0,0):=by
       split
       . rename_i hk;intro hx;simp only[aa,ai]at hx;refine hm es ?_;unfold Fr.get;rw[<- hk,ha,hx.1,hx.2];rfl
       . simp
      rw[hc' this];exact .inl (.inr ⟨x,es,ents,clock,rfl,g⟩)
    have key:∀ r o c',cellAt b r o=some c'->(k=p.key/\r=p.r/\o=p.o/\c'=c)\/∃ c0,cellAt a r o=some c0/\Shp c0 c':=by
     intro r o c' hc';by_cases hx:k=p.key/\r=p.r/\o=p.o
     . obtain⟨hk',hr',ho'⟩:=hx;refine .inl ⟨hk',hr',ho',?_⟩;have hn:=st.new;unfold Fr.get at hn;rw[<- hk',hb,<- hr',<- ho']at hn;have hn':cellAt b r o=some c:=hn;rw[hc']at hn';exact aS hn'
     . right;refine hl.cell r o c' hc' ?_;split
       . rename_i e;simp only[ne_eq,aa,ai];exact fun e'=>hx ⟨e,e'.1.symm,e'.2.symm⟩
       . simp
    refine .inr ⟨hd,vs,T,e1,e2,e3,e4,hl.len_row e5,by rw[<- hl.length];exact e6,by rw[<- hl.length];exact e7,
     fun hpath=>⟨(e8 hpath).1,fun r o c' hc'=>?_⟩,fun r o c' hc'=>?_⟩
    . rcases key r o c' hc' with⟨hk',_,_,rfl⟩|⟨c0,hc0,hshp⟩
      . exact hp (by rw[<- hk'];exact hpath)
      . exact hshp.pure ((e8 hpath).2 r o c0 hc0)
    .
     rcases key r o c' hc' with⟨hk',hr',ho',rfl⟩|⟨c0,hc0,hshp⟩
     . obtain⟨c0,hc0⟩:=st.old;unfold Fr.get at hc0;rw[<- hk',ha]at hc0;simp only[ae,<- hr',<- ho']at hc0;obtain⟨u,hu,_⟩:=e9 r o c0 hc0;refine⟨u,hu,?_⟩;have hpe:p=⟨k,r,o⟩:=by cases p;simp_all
       have:=hc u (.inl ⟨by rw[<- hk'];exact hi,hd,vs,T,by rw[<- hk'];exact e1,e4,by rw[<- hr',<- ho'];exact hu⟩);rcases this with⟨_,hn⟩|hsh'
       . exact absurd (by rw[<- hk'];exact hi) hn
       . rw[<- hpe];exact hsh'
     . obtain⟨u,hu,hrel⟩:=e9 r o c0 hc0;exact⟨u,hu,hrel.shp hshp⟩
theorem RelF.no_mpb {G w F ts}(h:RelF G w F ts){q y}(hy:G.γ q.key=some y)(hm:y.isMap=false)(hi:q.key.inHeap)(es):F.get q≠some (.mpb es):=by
 intro e;unfold Fr.get at e;cases hr:F.rowsAt q.key with
 |none=>simp[hr]at e
 |some rows=>simp only[hr,ae]at e;obtain⟨_,_,_,_,_,_,_,_,_,_,_,e9⟩:=(h.cont _ _ hr hi).of_hd hy hm;obtain⟨_,_,hs⟩:=e9 _ _ _ e;exact hs
theorem RelF.no_map {G w F ts}(h:RelF G w F ts){p:Pl}{y}(hy:G.γ p.key=some y)(hm:y.isMap=true->p.isM=true){rows row}(hr:F.rowsAt p.key=some rows)(hrow:rows[p.r]? = some row)(hi:p.key.inHeap):y.isMap=false:=by
 cases hb:y.isMap with
 |false=>rfl
 |true=>
  have:=hm hb;simp only[Pl.isM,aD,bne_iff_ne,ne_eq]at this;rcases h.cont _ _ hr hi with(⟨n,_⟩|⟨_,es,_,_,rfl,_⟩)|⟨z,_,_,e1,e2,_⟩
  . rw[hy]at n;cases n
  . cases hp:p.r with
    |zero=>exact absurd hp this.2
    |succ r=>rw[hp]at hrow;simp at hrow
  . rw[hy]at e1;cases e1;rw[hb]at e2;cases e2
end
section
variable [Glob]
theorem qba (π):∀ (rows:List (List Cell)) (π':List (Nat×Nat)),getR rows (π++π')=(getR rows π).bind (getR · π'):=by
 induction π with
 |nil=>intro rows π';simp[getR]
 |cons x π ih=>
  obtain⟨r,o⟩:=x;intro rows π';simp only[List.cons_append,getR];cases cellAt rows r o with
  |none=>rfl
  |some c=>cases c<;>first|rfl|exact ih _ _
theorem qoN {F:Fr}{p c}(h:F.get p=some c)(rest):F.rowsAt (p.under rest)=subR c rest:=by
 unfold Fr.get at h;cases hr:F.rowsAt p.key with
 |none=>simp[hr]at h
 |some rows=>
  simp only[hr,ae]at h;unfold Fr.rowsAt at *;cases hroot:F.rows p.key.root with
  |none=>simp[hroot]at hr
  |some rs=>simp only[hroot,ae]at hr;simp only[Pl.under,hroot,ae,qba,hr,getR,h];cases c<;>rfl
theorem Xu {p q:Pl}(h:p.toKey=q.toKey):p=q:=by obtain⟨⟨r,π⟩,a,b⟩:=p;obtain⟨⟨r',π'⟩,a',b'⟩:=q;simp only[Pl.toKey,Key.mk.injEq]at h;obtain⟨rfl,h⟩:=h;have h1:=List.append_inj' h rfl;simp at h1;obtain⟨rfl,rfl,rfl⟩:=h1;rfl
def deps (x:Pl):Cell->List Key
 |.own _ _|.mp _=>[x.toKey]
 |.ref q=>[q.toKey]
 |.ptr q=>[q.key]
 |.clo _ fs cs=>(fs++cs).filterMap fun c=>match c with|.ptr q=>some q.key|_=>none
 |_=>[]
theorem qY.ghost {G G'}(hok:∀ r,G.ok r->G'.ok r):∀ {l:List Cell} {vs:List Value},
  (∀ k∈l.filterMap (fun c=>match c with|.ptr q=>some q.key|_=>none),G'.γ k=G.γ k)->qY G l vs->qY G' l vs
 |[],[],_,_=>trivial
 |c::l,v::vs,hk,⟨h1,h2⟩=>by
  refine⟨?_,qY.ghost hok (fun k hm=>hk k ?_) h2⟩
  .
   cases c with
   |ptr q=>obtain⟨h0,hp,x,e1,e2,e3⟩:=h1;exact⟨hok _ h0,hp,x,by rw[hk q.key (by simp)];exact e1,e2,e3⟩
   |val u=>exact h1
   |_=>exact h1.elim
  . simp only[List.filterMap_cons];split
    . exact hm
    . exact aB _ hm
 |[],_::_,_,h=>h.elim
 |_::_,[],_,h=>h.elim
theorem Sh.ghost {G G' w p p' c v}(him:G'.im=G.im)(hok:∀ r,G.ok r->G'.ok r)(hp:p=p')(hk:∀ k∈deps p c,G'.γ k=G.γ k)(h:Sh G w p c v):Sh G' w p' c v:=by
 subst hp;cases c with
 |val u=>exact h
 |nil=>exact h
 |imm rows=>unfold Sh;rw[him];exact h
 |own zz rows=>unfold Sh;rw[hk _ (by simp[deps])];exact h
 |mp es=>obtain⟨x,ents,clock,e1,e2,e3,e4,e5,e6⟩:=h;exact⟨x,ents,clock,by rw[hk _ (by simp[deps])];exact e1,e2,e3,by rw[him];exact e4,e5,by rw[him];exact e6⟩
 |mpb es=>exact h.elim
 |ptr q=>obtain⟨e0,x,e1,e2,e3⟩:=h;exact⟨hok _ e0,x,by rw[hk _ (by simp[deps])];exact e1,e2,e3⟩
 |cptr row o=>obtain⟨b,base,vs,T,fr,e1,e2,e3,e4⟩:=h;exact⟨b,base,vs,T,fr,by rw[him];exact e1,e2,e3,by rw[him];exact e4⟩
 |ref q=>exact⟨hok _ h.1,by rw[hk _ (by simp[deps])];exact h.2⟩
 |clo f fs cs=>obtain⟨vs,us,e1,e2,e3⟩:=h;simp only[deps,List.filterMap_append,List.mem_append]at hk;exact⟨vs,us,e1,e2.ghost hok (fun k hm=>hk k (.inl hm)),e3.ghost hok (fun k hm=>hk k (.inr hm))⟩
 |dead=>exact h
def Uses (F:Fr)(k:Key):Prop:=((F.rowsAt k).isSome=true/\k.inHeap)\/∃ x c,F.get x=some c/\k∈deps x c
theorem qz {F:Fr}{k rows r o c}(h:F.rowsAt k=some rows)(hc:cellAt rows r o=some c):F.get ⟨k,r,o⟩=some c:=by simp[Fr.get,h,hc]
theorem zR {F:Fr}{k v}(h:F.slots[k]? = some v):F.rowsAt ⟨.slot k,[]⟩=some v.rows:=by simp[Fr.rowsAt,Fr.rows,h,getR]
theorem RelF.ghost {G G' w F ts}(h:RelF G w F ts)(inv:GInv G' w)(him:G'.im=G.im)(hlv:G'.lv=G.lv)(hk:∀ k,Uses F k->G'.γ k=G.γ k):RelF G' w F ts where
 inv:=inv
 size:=h.size
 slots k v e:=by obtain⟨V,hV,hr⟩:=h.slots k v e;refine⟨V,hV,hr.map fun r o c u hc hs=>hs.ghost him (fun r hr=>by cases r<;>simp_all[Gh.ok]) rfl fun k' hm=>hk k' (.inr ⟨⟨⟨.slot k,[]⟩,r,o⟩,c,?_,hm⟩)⟩;exact qz (zR e) hc
 boxes r l e:=⟨(h.boxes r l e).1,by have:=(h.boxes r l e).2;cases r<;>simp_all[Gh.ok]⟩
 live d hd:=h.live d (by rw[<- hlv];exact hd)
 cont k rows e hi:=by
  rcases h.cont k rows e hi with(⟨g1,g2,g3⟩|⟨x,es,ents,clock,g0,g1,g2,g3,g4,g5,g6⟩)|⟨hd,vs,T,e1,e2,e3,e4,e5,e6,e7,e8,e9⟩
  . exact .inl (.inl ⟨by rw[hk k (.inl ⟨by rw[e];rfl,hi⟩)];exact g1,g2,g3⟩)
  . exact .inl (.inr ⟨x,es,ents,clock,g0,g1,by rw[hk k (.inl ⟨by rw[e];rfl,hi⟩)];exact g2,g3,by rw[him];exact g4,g5,by rw[him];exact g6⟩)
  refine .inr ⟨hd,vs,T,by rw[hk k (.inl ⟨by rw[e];rfl,hi⟩)];exact e1,e2,by rw[him];exact e3,e4,e5,e6,e7,e8,fun r o c hc=>?_⟩;obtain⟨u,hu,hs⟩:=e9 r o c hc;exact⟨u,hu,hs.ghost him (fun r hr=>by cases r<;>simp_all[Gh.ok]) rfl fun k' hm=>hk k' (.inr ⟨⟨k,r,o⟩,c,qz e hc,hm⟩)⟩
def zy (a b:List (List Cell)):Prop:=a.map List.length=b.map List.length /\
 (∀ r o c',cellAt b r o=some c'->∃ c,cellAt a r o=some c/\(c'=c\/c'=.dead))/\∀ r o es,cellAt a r o=some (.mpb es)->cellAt b r o=some (.mpb es)
structure Weak (F F':Fr):Prop where
 len:F'.slots.length=F.slots.length
 slot:∀ (k:Nat) v',F'.slots[k]? = some v'->v'=.deadv\/∃ v,F.slots[k]? = some v/\v'.tag=v.tag/\zy v.rows v'.rows
 box:∀ r l',F'.boxes.lookup r=some l'->∃ l,F.boxes.lookup r=some l/\zy [l] [l']
theorem zy.getR {a b}(h:zy a b){x π rows}(e:Ab.getR b (x::π)=some rows):
  Ab.getR a (x::π)=some rows:=by
 obtain⟨r,o⟩:=x;simp only[Ab.getR]at *;cases hc:cellAt b r o with
 |none=>simp[hc]at e
 |some c'=>
  obtain⟨c,hc0,hh⟩:=h.2.1 r o c' hc;rw[hc]at e;cases c'<;>simp only[reduceCtorEq]at e;rename_i rs;rcases hh with rfl|hh
  . rw[hc0];exact e
  . cases hh
theorem qbT {π}(h:π≠[]):Ab.getR AV.deadv.rows π=none:=by
 cases π with
 |nil=>exact absurd rfl h
 |cons x π=>
  obtain⟨r,o⟩:=x;simp only[Ab.getR];have:∀ c,cellAt AV.deadv.rows r o=some c->c=.dead:=by
   intro c hc;obtain⟨row,h1,h2⟩:=qc.1 hc;cases r with
   |zero=>simp[AV.deadv,AV.c]at h1;subst h1;cases o<;>simp at h2;exact h2.symm
   |succ r=>simp[AV.deadv,AV.c]at h1
  cases hc:cellAt AV.deadv.rows r o with
  |none=>rfl
  |some c=>rw[this c hc]
theorem Weak.rowsAt {F F'}(h:Weak F F'){k rows}(e:F'.rowsAt k=some rows)(hi:k.inHeap):
  ∃ rows0,F.rowsAt k=some rows0/\zy rows0 rows:=by
 have refl:∀ a,zy a a:=fun a=>⟨rfl,fun r o c e=>⟨c,e,.inl rfl⟩,fun _ _ _ e=>e⟩
 obtain⟨r,π⟩:=k;unfold Fr.rowsAt at *;simp only at *;by_cases hs:∃ j,r=.slot j
 .
  obtain⟨j,rfl⟩:=hs;have hπ:π≠[]:=by
   rcases hi with hi|hi
   . exact hi
   . simp[Root.boxed]at hi
  simp only[Fr.rows]at *;cases hj:F'.slots[j]? with
  |none=>simp[hj]at e
  |some v'=>
   simp only[hj,av,ae]at e;rcases h.slot j v' hj with rfl|⟨v,hv,_,hw⟩
   . rw[qbT hπ]at e;cases e
   . cases π with
     |nil=>exact absurd rfl hπ
     |cons x π=>exact⟨rows,by simp only[hv,av,ae];exact hw.getR e,refl _⟩
 .
  have hs':∀ k,r≠.slot k:=fun k e=>hs ⟨k,e⟩;rw[Fr.rows_ns _ hs']at *;cases hb:F'.boxes.lookup r with
  |none=>simp[hb]at e
  |some l'=>
   obtain⟨l,hl,hw⟩:=h.box r l' hb;simp only[hb,hl,av,ae]at *;cases π with
   |nil=>simp only[Ab.getR,aa]at e;subst e;exact⟨[l],rfl,hw⟩
   |cons x π=>exact⟨rows,hw.getR e,refl _⟩
theorem RelF.weak {G w F F' ts}(h:RelF G w F ts)(hw:Weak F F')(lv')(hlv:∀ d,lv' d->G.lv d/\(F'.boxes.lookup (.loc d)).isSome=true)(hb:∀ d,(F'.boxes.lookup (.loc d)).isSome=true->lv' d)(hok:∀ x c,F'.get x=some c->(∀ q,c=.ptr q\/c=.ref q->Gh.ok { G with lv:=lv' } q.key.root)/\(∀ f fs cs q,c=.clo f fs cs->.ptr q∈fs++cs->Gh.ok { G with lv:=lv' } q.key.root)):
  RelF { G with lv:=lv' } w F' ts:=by
 have keep:∀ x c u,F'.get x=some c->Sh G w x c u->Sh { G with lv:=lv' } w x c u:=by
  intro x c u hx hs;have ho:=hok x c hx;cases c with
  |ptr q=>exact⟨ho.1 q (.inl rfl),hs.2⟩
  |ref q=>exact⟨ho.1 q (.inr rfl),hs.2⟩
  |clo f fs cs=>
   obtain⟨vs,us,e1,e2,e3⟩:=hs;have go:∀ (l:List Cell) (vs:List Value),(∀ q,.ptr q∈l->Gh.ok { G with lv:=lv' } q.key.root)->qY G l vs->qY { G with lv:=lv' } l vs:=by
    intro l
    induction l with
    |nil=>intro vs _ h;cases vs<;>exact h
    |cons c l ih=>
     intro vs hm h;cases vs with
     |nil=>exact h
     |cons v vs=>
      refine⟨?_,ih vs (fun q hq=>hm q (aB _ hq)) h.2⟩;cases c with
      |ptr q=>exact⟨hm q (by simp),h.1.2⟩
      |val u=>exact h.1
      |_=>exact h.1.elim
   exact⟨vs,us,e1,go fs _ (fun q hq=>ho.2 f fs cs q rfl (aM _ hq)) e2,go cs _ (fun q hq=>ho.2 f fs cs q rfl (aT _ hq)) e3⟩
  |_=>exact hs
 refine⟨⟨h.inv.inj,h.inv.lt,h.inv.imlt,h.inv.glob⟩,by rw[hw.len];exact h.size,fun k v' e=>?_,fun r l' e=>?_,fun d hd=>(hlv d hd).2,fun k rows e hi=>?_⟩
 .
  rcases hw.slot k v' e with rfl|⟨v,hv,ht,hr⟩
  .
   have hlt:k<ts.size:=by rw[<- h.size,<- hw.len];exact(az.1 e).1
   refine⟨ts[k],by simp[hlt],⟨trivial,fun r o c hc=>?_⟩⟩;obtain⟨row,h1,h2⟩:=qc.1 hc;cases r with
   |zero=>simp[AV.deadv,AV.c]at h1;subst h1;cases o<;>simp at h2;exact⟨_,rfl,.inl h2.symm⟩
   |succ r=>simp[AV.deadv,AV.c]at h1
  . obtain⟨V,hV,hsh,hc⟩:=h.slots k v hv;refine⟨V,hV,by rw[ht,<- hr.1];exact hsh,fun r o c' hc'=>?_⟩;obtain⟨c,hc0,hh⟩:=hr.2.1 r o c' hc';obtain⟨u,hu,hs⟩:=hc r o c hc0;refine⟨u,by rw[ht];exact hu,?_⟩;rcases hh with rfl|rfl
    . exact hs.imp (fun h=>h) (keep _ _ _ (qz (zR e) hc'))
    . exact .inl rfl
 .
  obtain⟨l,hl,_⟩:=hw.box r l' e;refine⟨(h.boxes r l hl).1,?_⟩;cases r with
  |loc d=>exact hb d (by rw[e];rfl)
  |_=>trivial
 .
  obtain⟨rows0,e0,hr⟩:=hw.rowsAt e hi;have hlen:rows0.length=rows.length:=by have:=congrArg List.length hr.1;simpa using this
  rcases h.cont k rows0 e0 hi with(⟨g1,g2,g3⟩|⟨x,es,ents,clock,rfl,g⟩)|⟨hd,vs,T,e1,e2,e3,e4,e5,e6,e7,e8,e9⟩
  . subst g2;exact .inl (.inl ⟨g1,List.eq_nil_of_length_eq_zero (by simpa using hlen.symm),g3⟩)
  . have h1:Like (some (0,0)) [[Cell.mpb es]] rows:=⟨hr.1,fun r o c' hc' hx=>by obtain⟨c,hc0,hh⟩:=hr.2.1 r o c' hc';obtain⟨rfl,rfl,rfl⟩:=qww hc0;exact absurd rfl hx⟩
    obtain⟨c',rfl,_⟩:=h1.mpb;have:=hr.2.2 0 0 es rfl;obtain rfl:c'=.mpb es:=by simpa [cellAt]using this
    exact .inl (.inr ⟨x,es,ents,clock,rfl,g⟩)
  refine .inr ⟨hd,vs,T,e1,e2,e3,e4,?_,by rw[<- hlen];exact e6,by rw[<- hlen];exact e7,fun hp=>⟨(e8 hp).1,fun r o c' hc'=>?_⟩,fun r o c' hc'=>?_⟩
  . intro row hm;have:row.length∈rows.map List.length:=List.mem_map.2 ⟨row,hm,rfl⟩;rw[<- hr.1]at this;obtain⟨row',hm',e'⟩:=List.mem_map.1 this;rw[<- e',e5 row' hm']
  . obtain⟨c,hc0,hh⟩:=hr.2.1 r o c' hc';rcases hh with rfl|rfl
    . exact(e8 hp).2 r o _ hc0
    . rfl
  . obtain⟨c,hc0,hh⟩:=hr.2.1 r o c' hc';obtain⟨u,hu,hs⟩:=e9 r o c hc0;refine⟨u,hu,?_⟩;rcases hh with rfl|rfl
    . exact keep _ _ _ (qz e hc') hs
    . exact hs.one
end
section
variable [Glob]
theorem qah {rows r o c'}(h:cellAt (qG rows) r o=some c'):∃ c,cellAt rows r o=some c/\c'=immC c:=by
 rw[Yr]at h;unfold cellAt at *;simp only[aI]at h;cases hr:rows[r]? with
 |none=>simp[hr]at h
 |some row=>
  simp only[hr,av,ae,aI]at h;cases ho:row[o]? with
  |none=>simp[ho]at h
  |some c=>simp only[ho,av,aa]at h;exact⟨c,by simp[ho],h.symm⟩
theorem qaq (rows):(qG rows).length=rows.length:=by rw[Yr];simp
theorem qhO {rows n}(h:∀ row∈rows,row.length=n):∀ row∈qG rows,row.length=n:=by rw[Yr];intro row hm;obtain⟨row',hm',rfl⟩:=List.mem_map.1 hm;simpa using h row' hm'
theorem qW (p:Pl)(r o)(rest):(⟨p.toKey,r,o⟩:Pl).under rest=p.under ((r,o)::rest):=by simp[Pl.under,Pl.toKey]
theorem qlu {rows r o c}(h:cellAt rows r o=some c):SizeOf.sizeOf c<SizeOf.sizeOf rows:=by obtain⟨row,h1,h2⟩:=qc.1 h;have a1:=List.sizeOf_lt_of_mem (aN h1);have a2:=List.sizeOf_lt_of_mem (aN h2);omega
theorem Tree.relI {G w im'}(him:∀ b,G.im b->im' b)(c):∀ (p:Pl) (v:Value),qw c=true->Sh G w p c v->Tree G w p c ->
  (∀ rest rows h,subR c rest=some rows->G.γ (p.under rest)=some h->im' h.b)->RelI im' w (immC c) v:=by
 intro p v hp hs ht hb
 match c,hp,hs,ht,hb with
 |.val u,_,hs,_,_=>obtain⟨rfl,h⟩:=hs;exact .val _ h
 |.nil,_,hs,_,_=>cases hs;exact .immE none 0
 |.dead,_,hs,_,_=>exact .dead _ hs
 |.imm rows,_,hs,_,_=>exact RelI.mono him (fun _ _=>rfl) hs
 |.own zz rows,_,hs,ht,hb=>
  rcases hs with⟨_,hrn,hvn⟩|⟨h0,g1,g2,g3,g4,_⟩
  . subst hrn;subst hvn;exact .immE none 0
  obtain⟨hd,vs,T,e1,e2,e3,e4,e5,e6,e7,e8,e9⟩:=(ht [] rows rfl).of_hd (by rw[Pl.under_nil];exact g1) g2;rw[Pl.under_nil]at e1;have:hd=h0:=by rw[e1]at g1;exact aS g1
  subst this;have hv:v=.slice (some ⟨hd.b,0,none⟩) (qG rows).length hd.cap:=by rw[g3,qaq,<- g4];simp[Hd.val,g2]
  rw[hv];simp only[immC];refine .imm (qG rows) hd.b 0 hd.cap hd.sz vs T (0,0) (fun r o=>(vs[r*hd.sz+o]?).getD .nilIface) e4 (hb [] rows hd rfl (by rw[Pl.under_nil];exact e1)) (by rw[qaq];exact e7) (qhO e5) ?_ ?_
  . intro r o c' hc';obtain⟨c,hc,_⟩:=qah hc';obtain⟨u,hu,_⟩:=e9 r o c hc;simp[hu]
  .
   intro r o c' hc';obtain⟨c,hc,rfl⟩:=qah hc';obtain⟨u,hu,hsu⟩:=e9 r o c hc;simp only[hu,Option.getD_some];rw[Pl.under_nil]at hsu;have hlt:=qlu hc;have hsub:∀ rest,subR (.own zz rows) ((r,o)::rest)=subR c rest:=by intro rest;simp only[subR,getR,hc];cases c<;>rfl
   refine Tree.relI him c ⟨p.toKey,r,o⟩ u ((e8 (by simp[Pl.under])).2 r o c hc) hsu (fun rest rows' h=>?_) (fun rest rows' h hh hg=>?_)
   . rw[qW];exact ht _ _ (by rw[hsub];exact h)
   . rw[qW]at hg;exact hb _ _ _ (by rw[hsub];exact hh) hg
termination_by SizeOf.sizeOf c
decreasing_by simp;omega
theorem RelF.freeze {G w F ts}(h:RelF G w F ts)(im')(him:∀ b,G.im b->im' b)(hlt:∀ b,im' b->b<w.heap.size)(hn:∀ k x,G.γ k=some x->((F.rowsAt k).isSome=true/\k.inHeap\/∃ y es,F.get y=some (.mp es)/\y.toKey=k)->im' x.b->G.im x.b):RelF { G with im:=im' } w F ts:=by
 have keep:∀ x c u,F.get x=some c->Sh G w x c u->Sh { G with im:=im' } w x c u:=by
  intro x c u hx hs;cases c with
  |imm rows=>exact RelI.mono him (fun _ _=>rfl) hs
  |mp es=>obtain⟨y,ents,clock,e1,e2,e3,e4,e5,e6⟩:=hs;exact⟨y,ents,clock,e1,e2,e3,fun hi=>e4 (hn _ _ e1 (.inr ⟨x,es,hx,rfl⟩) hi),e5,e6.mono him (fun _ _=>rfl)⟩
  |cptr row o=>obtain⟨b,base,vs,T,fr,e1,e2,e3,e4⟩:=hs;exact⟨b,base,vs,T,fr,him _ e1,e2,e3,fun j c e=>let ⟨u,hu,hr⟩:=e4 j c e;⟨u,hu,hr.mono him (fun _ _=>rfl)⟩⟩
  |clo f fs cs=>
   obtain⟨vs,us,e1,e2,e3⟩:=hs;have go:∀ (l:List Cell) (vs:List Value),qY G l vs->qY { G with im:=im' } l vs:=by
    intro l
    induction l with
    |nil=>intro vs h;cases vs<;>exact h
    |cons c l ih=>
     intro vs h;cases vs with
     |nil=>exact h
     |cons v vs=>exact⟨by cases c<;>exact h.1,ih vs h.2⟩
   exact⟨vs,us,e1,go _ _ e2,go _ _ e3⟩
  |_=>exact hs
 refine⟨⟨h.inv.inj,h.inv.lt,hlt,fun b hb=>⟨him b (h.inv.glob b hb).1,(h.inv.glob b hb).2⟩⟩,h.size,fun k v e=>?_,h.boxes,h.live,fun k rows e hi=>?_⟩
 . obtain⟨V,hV,hr⟩:=h.slots k v e;exact⟨V,hV,hr.map fun r o c u hc hs=>keep _ _ _ (qz (zR e) hc) hs⟩
 .
  rcases h.cont k rows e hi with(hn|⟨x,es,ents,clock,g0,g1,g2,g3,g4,g5,g6⟩)|⟨hd,vs,T,e1,e2,e3,e4,e5,e6,e7,e8,e9⟩
  . exact .inl (.inl hn)
  . exact .inl (.inr ⟨x,es,ents,clock,g0,g1,g2,g3,fun hx=>g4 (hn _ _ g2 (.inl ⟨by rw[e];rfl,hi⟩) hx),g5,g6.mono him (fun _ _=>rfl)⟩)
  exact .inr ⟨hd,vs,T,e1,e2,fun hx=>e3 (hn _ _ e1 (.inl ⟨by rw[e];rfl,hi⟩) hx),e4,e5,e6,e7,e8,
   fun r o c hc=>let ⟨u,hu,hs⟩:=e9 r o c hc;⟨u,hu,keep _ _ _ (qz e hc) hs⟩⟩
theorem heap_setCell {w:World}{b i vs T fr}(h:w.heap[b]? = some (.cells vs T fr))(u)(b'):
  (w.setCell ⟨b,i,none⟩ u).heap[b']? = if b'=b then some (.cells (vs.setIfInBounds i u) T fr)else w.heap[b']?:=by
 unfold World.setCell;simp only[Array.getElem?_modify,Option.isSome_none,aU,if_false];by_cases e:b=b'
 . subst e;simp[h]
 . rw[aG e,aG (fun e'=>e e'.symm)]
theorem size_setCell (w:World)(a)(u):(w.setCell a u).heap.size=w.heap.size:=by unfold World.setCell;simp
theorem RelF.write {G w F ts}(h:RelF G w F ts){p}(hd:F.get p=some .dead)(hi:p.key.inHeap){x}(hx:G.γ p.key=some x){u}(hu:oneC u=true):RelF G (w.setCell ⟨x.b,p.r*x.sz+p.o,none⟩ u) F ts:=by
 have hrows:∃ rows,F.rowsAt p.key=some rows/\cellAt rows p.r p.o=some .dead:=by
  unfold Fr.get at hd;cases hr:F.rowsAt p.key with
  |none=>simp[hr]at hd
  |some rows=>exact⟨rows,rfl,by simpa [hr]using hd⟩
 obtain⟨rows,hrows,hcell⟩:=hrows;obtain⟨x',vs,T,e1,e2,e3,e4,e5,e6,e7,e8,e9⟩:=(h.cont _ _ hrows hi).of_cell hcell (by intro _;simp);have:x'=x:=by rw[hx]at e1;exact(aS e1).symm
 subst this;have hp:=heap_setCell e4 u (i:=p.r*x'.sz+p.o);have sm:qjb G w (w.setCell ⟨x'.b,p.r*x'.sz+p.o,none⟩ u):=by
  refine⟨fun b hb=>?_,fun k y es c hk hm=>?_⟩
  . rw[hp,aG];exact fun e=>e3 (e▸hb)
  . rw[hp,aG];intro e;rw[e,e4]at hm;cases hm
 refine⟨⟨h.inv.inj,fun k y e=>by rw[size_setCell];exact h.inv.lt k y e,fun b e=>by rw[size_setCell];exact h.inv.imlt b e,fun b hb=>⟨(h.inv.glob b hb).1,(sm.im b (h.inv.glob b hb).1).trans (h.inv.glob b hb).2⟩⟩,h.size,fun k v e=>?_,h.boxes,h.live,fun k rows' e hik=>?_⟩
 . obtain⟨V,hV,hr⟩:=h.slots k v e;exact⟨V,hV,hr.map fun r o c u hc hs=>hs.same sm⟩
 .
  rcases h.cont k rows' e hik with(hn|hn)|⟨y,vs',T',f1,f2,f3,f4,f5,f6,f7,f8,f9⟩
  . exact .inl (.inl hn)
  . exact .inl (.inr (hn.same sm))
  by_cases hk:y.b=x'.b
  .
   have hkk:k=p.key:=h.inv.inj _ _ _ _ f1 e1 hk;subst hkk;have:y=x':=by rw[e1]at f1;exact(aS f1).symm
   subst this;have:rows'=rows:=by rw[hrows]at e;exact(aS e).symm
   subst this;rw[e4]at f4;cases f4;refine .inr ⟨y,_,T,e1,e2,e3,by rw[hp,aF rfl],e5,by simpa using e6,e7,by simpa using e8,fun r o c hc=>?_⟩;by_cases he:r=p.r/\o=p.o
   .
    obtain⟨rfl,rfl⟩:=he;rw[hcell]at hc;cases hc;refine⟨u,?_,hu⟩;obtain⟨u0,hu0,_⟩:=e9 _ _ _ hcell;have hlt:p.r*y.sz+p.o<vs.size:=by
     rcases Nat.lt_or_ge (p.r*y.sz+p.o) vs.size with h|h
     . exact h
     . simp[Array.getElem?_eq_none h]at hu0
    simp[hlt]
   .
    obtain⟨u0,hu0,hs⟩:=e9 r o c hc;refine⟨u0,?_,hs.same sm⟩;rw[aX,aG]
    . exact hu0
    . intro eidx;obtain⟨row1,r1,r2⟩:=qc.1 hc;obtain⟨row2,s1,s2⟩:=qc.1 hcell;have ho1:o<y.sz:=by rw[<- e5 row1 (aN r1)];exact(az.1 r2).1
      have ho2:p.o<y.sz:=by rw[<- e5 row2 (aN s1)];exact(az.1 s2).1
      have hr:p.r=r:=by have h1:=congrArg (· / y.sz) eidx;simp only[Nat.mul_comm _ y.sz,Nat.mul_add_div (by omega:y.sz>0),Nat.div_eq_of_lt ho1,Nat.div_eq_of_lt ho2,Nat.add_zero]at h1;exact h1
      exact he ⟨hr.symm,by subst hr;omega⟩
  . refine .inr ⟨y,vs',T',f1,f2,f3,by rw[hp,aG hk];exact f4,f5,f6,f7,f8,fun r o c hc=>?_⟩;obtain⟨u0,hu0,hs⟩:=f9 r o c hc;exact⟨u0,hu0,hs.same sm⟩
theorem Yw {F:Fr}{d v k}(h:k.root≠.slot d):(F.put (some d) v).rowsAt k=F.rowsAt k:=by
 unfold Fr.rowsAt;congr 1;cases hr:k.root with
 |slot j=>have:d≠j:=fun e=>h (by rw[hr,e]);simp[Fr.rows,Fr.put,List.getElem?_set,this]
 |_=>rfl
theorem zN {F:Fr}{d v π}(h:d<F.slots.length):(F.put (some d) v).rowsAt ⟨.slot d,π⟩=getR v.rows π:=by simp[Fr.rowsAt,Fr.rows,Fr.put,h]
theorem RelF.put {G w F ts}(h:RelF G w F ts){d v V}(hv:YY G w ⟨.slot d,[]⟩ v V)(ho:∀ π rows,π≠[]->getR v.rows π=some rows->qU G w ⟨.slot d,π⟩ rows):RelF G w (F.put (some d) v) (ts.setIfInBounds d V):=by
 refine⟨h.inv,by simp[Fr.put,h.size],fun k v' e=>?_,h.boxes,h.live,fun k rows e hi=>?_⟩
 .
  simp only[Fr.put,List.getElem?_set]at e;by_cases hk:d=k
  . subst hk;simp only[if_true]at e;split at e
    . rename_i hlt;cases e;exact⟨V,by simp[<- h.size,hlt],hv⟩
    . cases e
  . rw[aG hk]at e;obtain⟨V',hV',hr⟩:=h.slots k v' e;exact⟨V',by rw[aX,aG hk];exact hV',hr⟩
 .
  by_cases hk:k.root=.slot d
  .
   obtain⟨r,π⟩:=k;simp only at hk;subst hk;have hπ:π≠[]:=by
    rcases hi with hi|hi
    . exact hi
    . simp[Root.boxed]at hi
   by_cases hlt:d<F.slots.length
   . rw[zN hlt]at e;exact ho π rows hπ e
   . simp[Fr.rowsAt,Fr.rows,Fr.put,hlt]at e
  . rw[Yw hk]at e;exact h.cont k rows e hi
theorem qbi {rows}(h:∀ r o c zz rs,cellAt rows r o=some c->c≠.own zz rs){π}(hπ:π≠[]):getR rows π=none:=by
 cases π with
 |nil=>exact absurd rfl hπ
 |cons x π=>
  obtain⟨r,o⟩:=x;simp only[getR];cases hc:cellAt rows r o with
  |none=>rfl
  |some c=>cases c<;>first|rfl|exact absurd rfl (h r o _ _ _ hc)
theorem RelF.put_flat {G w F ts}(h:RelF G w F ts){d v V}(hv:YY G w ⟨.slot d,[]⟩ v V)(ho:∀ r o c zz rs,cellAt v.rows r o=some c->c≠.own zz rs):RelF G w (F.put (some d) v) (ts.setIfInBounds d V):=h.put hv fun π rows hπ e=>by rw[qbi ho hπ]at e;cases e
def Gh.add (G:Gh)(k:Key)(h:Hd):Gh:={ G with γ:=fun k'=>if k'=k then some h else G.γ k' }
theorem size_alloc (w:World)(o):(w.alloc o).heap.size=w.heap.size+1:=by unfold World.alloc;exact Array.size_push _
theorem heap_alloc (w:World)(o)(b):(w.alloc o).heap[b]? = if b=w.heap.size then some o else w.heap[b]?:=by unfold World.alloc;simp only[Array.getElem?_push]
theorem Same.alloc {G w}(inv:GInv G w)(o):Same G w (w.alloc o):=by
 refine⟨by rw[size_alloc];omega,fun b hb=>?_,fun k h e=>?_⟩
 . rw[heap_alloc,aG];exact Nat.ne_of_lt (inv.imlt b hb)
 . rw[heap_alloc,aG];exact Nat.ne_of_lt (inv.lt k h e)
theorem GInv.add {G w}(inv:GInv G w)(k h)(hb:h.b=w.heap.size)(o):GInv (G.add k h) (w.alloc o):=by
 have hlt:∀ k' h',G.γ k'=some h'->h'.b<w.heap.size:=inv.lt;refine⟨fun k1 k2 h1 h2 e1 e2 e=>?_,fun k1 h1 e1=>?_,fun b e=>?_,fun b hb=>⟨(inv.glob b hb).1,((Same.alloc inv o).im b (inv.glob b hb).1).trans (inv.glob b hb).2⟩⟩
 .
  simp only[Gh.add]at e1 e2;split at e1<;>split at e2
  . simp_all
  . cases e1;have:=hlt _ _ e2;omega
  . cases e2;have:=hlt _ _ e1;omega
  . exact inv.inj _ _ _ _ e1 e2 e
 .
  simp only[Gh.add]at e1;rw[size_alloc];split at e1
  . cases e1;omega
  . have:=hlt _ _ e1;omega
 . rw[size_alloc];have:=inv.imlt b e;omega
theorem Out.alloc (w)(o):Out w (w.alloc o):=⟨rfl,rfl⟩
theorem Out.setCell (w a)(v):Out w (w.setCell a v):=⟨rfl,rfl⟩
theorem Out.drew (w)(n):Out w { w with drawn:=n }:=⟨rfl,rfl⟩
theorem Gain.same {G w w'}(hs:w.heap.size<=w'.heap.size)(h:∀ b,b<w.heap.size->w'.heap[b]? = w.heap[b]?)(inv:GInv G w)(ho:Out w w'):Gain G w G w':=⟨hs,fun _ h=>h,fun b hb=>h b (inv.imlt b hb),fun b hb _=>⟨h b hb,fun h=>h⟩,fun k x e=>.inl ⟨k,x,e,rfl⟩,fun _=>rfl,ho,fun _ h=>⟨h,rfl⟩⟩
theorem Gain.alloc {G w}(inv:GInv G w)(k h)(hb:h.b=w.heap.size)(o)(hk:∀ i,k≠⟨.par i,[]⟩)(hl:∀ d,G.lv d->k≠⟨.loc d,[]⟩)(ho:∀ vs T fr,o=.cells vs T fr->fr=(0,0)):Gain G w (G.add k h) (w.alloc o):=by
 refine⟨by rw[size_alloc];omega,fun _ h=>h,fun b hb=>(Same.alloc inv o).im b hb,fun b hb _=>⟨?_,fun h=>h⟩,fun k' h' e=>?_,fun i=>?_,Out.alloc w o,fun d hd=>⟨hd,?_⟩⟩
 . rw[heap_alloc,aG (Nat.ne_of_lt hb)]
 .
  simp only[Gh.add]at e;split at e
  . cases e;exact .inr (by omega)
  . exact .inl ⟨k',h',e,rfl⟩
 . simp only[Gh.add];rw[aG (fun e=>hk i e.symm)]
 . simp only[Gh.add];rw[aG (fun e=>hl d hd e.symm)]
theorem RelF.add {G w F ts}(h:RelF G w F ts)(k x)(hb:x.b=w.heap.size)(o)(hk:¬ Uses F k):
  RelF (G.add k x) (w.alloc o) F ts:=
 (h.same (Same.alloc h.inv o)).ghost (h.inv.add k x hb o) rfl rfl fun k' hu=>by simp only[Gh.add];rw[aG (fun e:k'=k=>hk (by rw[<- e];exact hu))]
end
section
variable [Glob]
theorem qH (f bs)(r):(mapB f bs).lookup r=(bs.lookup r).map (·.map f):=by
 induction bs with
 |nil=>rfl
 |cons x bs ih=>obtain⟨r',l⟩:=x;simp only[mapB,List.lookup_cons];cases r==r'<;>simp[ih]
theorem zH {f rows r o c'}(h:cellAt (rows.map (·.map f)) r o=some c'):∃ c,cellAt rows r o=some c/\c'=f c:=by
 unfold cellAt at *;simp only[aI]at h;cases hr:rows[r]? with
 |none=>simp[hr]at h
 |some row=>
  simp only[hr,av,ae,aI]at h;cases ho:row[o]? with
  |none=>simp[ho]at h
  |some c=>simp only[ho,av,aa]at h;exact⟨c,by simp[ho],h.symm⟩
theorem qvL (f rows)(r o):cellAt (rows.map (·.map f)) r o=(cellAt rows r o).map f:=by unfold cellAt;cases h:rows[r]?<;>simp[h]
theorem zy.map {f}(hf:∀ c,f c=c\/f c=.dead)(rows)(hm:∀ es,f (.mpb es)=.mpb es:=by intro _;rfl):zy rows (rows.map (·.map f)):=by
 refine⟨by simp[Function.comp_def],fun r o c' h=>?_,fun r o es h=>?_⟩
 . obtain⟨c,hc,rfl⟩:=zH h;exact⟨c,hc,hf c⟩
 . rw[qvL,h,av,hm]
theorem Weak.mapC {f}(hf:∀ c,f c=c\/f c=.dead)(F)(hm:∀ es,f (.mpb es)=.mpb es:=by intro _;rfl):Weak F (F.mapC f):=by
 refine⟨by simp[Fr.mapC],fun k v' e=>?_,fun r l' e=>?_⟩
 .
  simp only[Fr.mapC,aI]at e;cases hk:F.slots[k]? with
  |none=>simp[hk]at e
  |some v=>simp only[hk,av,aa]at e;subst e;exact .inr ⟨v,rfl,rfl,zy.map hf v.rows hm⟩
 .
  simp only[Fr.mapC,qH]at e;cases hl:F.boxes.lookup r with
  |none=>simp[hl]at e
  |some l=>simp only[hl,av,aa]at e;subst e;exact⟨l,rfl,by simpa using zy.map hf [l] hm⟩
theorem RelF.okPtr {G w F ts}(h:RelF G w F ts){x c}(e:F.get x=some c):
  (∀ q,c=.ptr q\/c=.ref q->G.ok q.key.root)/\(∀ f fs cs q,c=.clo f fs cs->.ptr q∈fs++cs->G.ok q.key.root):=by
 by_cases hb:∃ es,c=.mpb es
 . obtain⟨es,rfl⟩:=hb;exact⟨fun q h=>(by rcases h with h|h<;>cases h),fun f fs cs q h=>(by cases h)⟩
 obtain⟨u,_,hs⟩:=h.val e (fun es he=>hb ⟨es,he⟩);have go:∀ (l:List Cell) (vs:List Value) q,qY G l vs->.ptr q∈l->G.ok q.key.root:=by
  intro l
  induction l with
  |nil=>intro vs q _ hm;simp at hm
  |cons c l ih=>
   intro vs q h hm;cases vs with
   |nil=>exact h.elim
   |cons v vs=>
    rcases List.mem_cons.1 hm with rfl|hm
    . exact h.1.1
    . exact ih vs q h.2 hm
 rcases hs with⟨rfl,_⟩|hs
 . exact⟨fun q h=>(by rcases h with h|h<;>cases h),fun f fs cs q h=>(by cases h)⟩
 .
  refine⟨fun q h=>?_,fun f fs cs q h hm=>?_⟩
  . rcases h with rfl|rfl
    . exact hs.1
    . exact hs.1
  . subst h;obtain⟨vs,us,_,e2,e3⟩:=hs;rcases List.mem_append.1 hm with hm|hm
    . exact go _ _ q e2 hm
    . exact go _ _ q e3 hm
theorem Weak.get {F F'}(h:Weak F F'){x c'}(e:F'.get x=some c'):c'=.dead\/F.get x=some c':=by
 unfold Fr.get at e;cases hr:F'.rowsAt x.key with
 |none=>simp[hr]at e
 |some rows=>
  simp only[hr,ae]at e;by_cases hi:x.key.inHeap
  . obtain⟨rows0,h0,hw⟩:=h.rowsAt hr hi;obtain⟨c,hc,hh⟩:=hw.2.1 _ _ _ e;rcases hh with rfl|rfl
    . exact .inr (by simp[Fr.get,h0,hc])
    . exact .inl rfl
  .
   obtain⟨⟨r,π⟩,xr,xo⟩:=x;simp only[Key.inHeap,not_or,ne_eq,Decidable.not_not,Bool.not_eq_true]at hi;obtain⟨rfl,hb⟩:=hi;cases r with
   |slot k=>
    simp only[Fr.rowsAt,Fr.rows]at hr;cases hk:F'.slots[k]? with
    |none=>simp[hk]at hr
    |some v'=>
     have:v'.rows=rows:=by simpa [hk,getR]using hr
     subst this;rcases h.slot k v' hk with rfl|⟨v,hv,_,hw⟩
     . left;obtain⟨row,h1,h2⟩:=qc.1 e;cases xr with
       |zero=>simp[AV.deadv,AV.c]at h1;subst h1;cases xo<;>simp at h2;exact h2.symm
       |succ r=>simp[AV.deadv,AV.c]at h1
     . obtain⟨c,hc,hh⟩:=hw.2.1 _ _ _ e;rcases hh with rfl|rfl
       . exact .inr (qz (zR hv) hc)
       . exact .inl rfl
   |par i=>simp[Root.boxed]at hb
   |loc i=>simp[Root.boxed]at hb
   |res=>
    simp only[Fr.rowsAt,Fr.rows]at hr;cases hk:F'.boxes.lookup .res with
    |none=>simp[hk]at hr
    |some l'=>
     obtain⟨l,hl,hw⟩:=h.box _ _ hk;have:[l']=rows:=by simpa [hk,getR]using hr
     subst this;obtain⟨c,hc,hh⟩:=hw.2.1 _ _ _ e;rcases hh with rfl|rfl
     . right;have:F.rowsAt ⟨.res,[]⟩=some [l]:=by simp[Fr.rowsAt,Fr.rows,hl,getR]
       exact qz this hc
     . exact .inl rfl
theorem RelF.weak0 {G w F F' ts}(h:RelF G w F ts)(hw:Weak F F')(hb:∀ r,(F'.boxes.lookup r).isSome=(F.boxes.lookup r).isSome):
  RelF G w F' ts:=by
 refine h.weak hw G.lv (fun d hd=>⟨hd,by rw[hb];exact h.live d hd⟩) (fun d hd=>?_) (fun x c e=>?_)
 .
  rw[hb]at hd;cases hl:F.boxes.lookup (.loc d)with
  |none=>simp[hl]at hd
  |some l=>exact(h.boxes _ _ hl).2
 .
  rcases hw.get e with rfl|e'
  . exact⟨fun q h=>(by rcases h with h|h<;>cases h),fun f fs cs q h=>(by cases h)⟩
  . exact h.okPtr e'
theorem RelF.mapC {G w F ts}(h:RelF G w F ts){f}(hf:∀ c,f c=c\/f c=.dead)(hm:∀ es,f (.mpb es)=.mpb es:=by intro _;rfl):RelF G w (F.mapC f) ts:=h.weak0 (Weak.mapC hf F hm) fun r=>by simp[Fr.mapC,qH]
theorem qM (p)(c):vI p c=c\/vI p c=.dead:=by unfold vI;split<;>(try split)<;>simp
theorem qP (r)(c):yz r c=c\/yz r c=.dead:=by unfold yz;split<;>(try split)<;>simp
theorem yN (r)(c):zn r c=c\/zn r c=.dead:=by unfold zn;split<;>(try split)<;>simp
theorem ZZ (ks ls)(c):yV ks ls c=c\/yV ks ls c=.dead:=by unfold yV;split<;>(try split)<;>simp
theorem Weak.uses {F F'}(h:Weak F F'){k}(hu:Uses F' k):Uses F k:=by
 rcases hu with⟨hr,hi⟩|⟨x,c,hx,hd⟩
 .
  cases e:F'.rowsAt k with
  |none=>simp[e]at hr
  |some rows=>obtain⟨rows0,e0,_⟩:=h.rowsAt e hi;exact .inl ⟨by rw[e0];rfl,hi⟩
 .
  rcases h.get hx with rfl|e
  . simp[deps]at hd
  . exact .inr ⟨x,c,e,hd⟩
theorem qeX (F:Fr)(f)(r):(F.mapC f).rowsAt ⟨r,[]⟩=(F.rowsAt ⟨r,[]⟩).map (·.map (·.map f)):=by
 unfold Fr.rowsAt;by_cases hs:∃ k,r=.slot k
 . obtain⟨k,rfl⟩:=hs;simp only[Fr.rows,Fr.mapC,aI];cases F.slots[k]?<;>simp[getR,AV.mapC]
 . have hs':∀ k,r≠.slot k:=fun k e=>hs ⟨k,e⟩;simp only[Fr.rows_ns _ hs',Fr.mapC,qH];cases F.boxes.lookup r<;>simp[getR]
theorem qaH (F:Fr)(f){x}(hx:x.key.path=[]):(F.mapC f).get x=(F.get x).map f:=by
 obtain⟨⟨r,π⟩,a,b⟩:=x;simp only at hx;subst hx;unfold Fr.get;simp only[qeX];cases F.rowsAt ⟨r,[]⟩with
 |none=>rfl
 |some rows=>simp only[av,ae,cellAt,aI];cases rows[a]?<;>simp
theorem RelF.pure {G w F ts}(h:RelF G w F ts){x c}(e:F.get x=some c)(hp:x.key.path≠[]):qw c=true:=by
 unfold Fr.get at e;cases hr:F.rowsAt x.key with
 |none=>simp[hr]at e
 |some rows=>simp only[hr,ae]at e;exact(h.cont _ _ hr (.inl hp)).pure hp e
theorem qaC {p k}:under p k=true↔∃ π,k=p.under π:=by
 unfold under;simp only[aD,aY,List.isPrefixOf_iff_prefix];constructor
 . rintro ⟨h1,t,h2⟩
   refine⟨t,?_⟩;cases k;simp only[Pl.under,Pl.toKey]at *;simp[h1,<- h2]
 . rintro ⟨π,rfl⟩
   exact⟨rfl,π,by simp[Pl.under,Pl.toKey]⟩
theorem RelF.clo_path {G w F ts}(h:RelF G w F ts){x f fs cs}(e:F.get x=some (.clo f fs cs)){k}(hk:k∈deps x (.clo f fs cs)):k.path=[]:=by
 obtain⟨u,_,hs⟩:=h.val e;rcases hs with⟨hd,_⟩|hs
 . cases hd
 .
  obtain⟨vs,us,_,e2,e3⟩:=hs;have go:∀ (l:List Cell) (vs:List Value),qY G l vs->k∈l.filterMap (fun c=>match c with|.ptr q=>some q.key|_=>none)->k.path=[]:=by
   intro l
   induction l with
   |nil=>intro vs _ hm;simp at hm
   |cons c l ih=>
    intro vs h hm;cases vs with
    |nil=>exact h.elim
    |cons v vs=>
     simp only[List.filterMap_cons]at hm;split at hm
     . exact ih vs h.2 hm
     . rename_i k0 hc;rcases List.mem_cons.1 hm with rfl|hm
       . cases c<;>simp at hc;subst hc;exact h.1.2.1
       . exact ih vs h.2 hm
  simp only[deps,List.filterMap_append,List.mem_append]at hk;rcases hk with hk|hk
  . exact go _ _ e2 hk
  . exact go _ _ e3 hk
theorem vH {G w F ts}(h:RelF G w F ts){p}(hd:F.get p=some .dead)(π):¬ Uses (F.kill p) (p.under π):=by
 have hw:=Weak.mapC (qM p) F;have hrows:∀ π,F.rowsAt (p.under π)=none:=fun π=>by rw[qoN hd];rfl
 have hrows':∀ π,(F.kill p).rowsAt (p.under π)=none:=by
  intro π;cases e:(F.kill p).rowsAt (p.under π)with
  |none=>rfl
  |some rows=>obtain⟨r0,e0,_⟩:=hw.rowsAt e (p.under_inHeap π);rw[hrows]at e0;cases e0
 rintro (⟨hr,hi⟩|⟨x,c,hx,hk⟩)
 . rw[hrows']at hr;cases hr
 .
  by_cases hp:x.key.path=[]
  .
   rw[Fr.kill,qaH F _ hp]at hx;cases hc0:F.get x with
   |none=>simp[hc0]at hx
   |some c0=>
    simp only[hc0,av,aa]at hx;have hown:x.toKey=p.under π->c0=.dead:=by
     intro e;cases π with
     |nil=>rw[Pl.under_nil]at e;have:=Xu e;subst this;rw[hd]at hc0;exact(aS hc0).symm
     |cons y π=>
      obtain⟨a,b⟩:=y;exfalso;have h2:x.key.path++[(x.r,x.o)]=p.key.path++(p.r,p.o)::(a,b)::π:=by have:=congrArg Key.path e;simpa [Pl.toKey,Pl.under]using this
      rw[hp]at h2;have:=congrArg List.length h2;simp at this;omega
    cases c0 with
    |own zz rows=>simp[vI]at hx;subst hx;simp only[deps,aW]at hk;have:=hown hk.symm;cases this
    |mp es=>simp[vI]at hx;subst hx;simp only[deps,aW]at hk;have:=hown hk.symm;cases this
    |ref q=>
     simp only[vI]at hx;split at hx
     . subst hx;simp[deps]at hk
     . rename_i hn;subst hx;simp only[deps,aW]at hk;exact hn (qaC.2 ⟨π,hk.symm⟩)
    |ptr q=>
     simp only[vI]at hx;split at hx
     . subst hx;simp[deps]at hk
     . rename_i hn;subst hx;simp only[deps,aW]at hk;exact hn (qaC.2 ⟨π,hk.symm⟩)
    |clo f fs cs=>simp only[vI]at hx;subst hx;have:=h.clo_path hc0 (k:=p.under π) hk;simp[Pl.under]at this
    |_=>simp[vI]at hx;subst hx;simp[deps]at hk
  . have hpure:=(h.mapC (qM p)).pure (x:=x) (c:=c) hx hp;cases c<;>simp[qw]at hpure<;>simp only[deps,List.not_mem_nil,aW]at hk;rename_i zz rs;have hr:(F.kill p).rowsAt x.toKey=none:=by rw[<- hk];exact hrows' π
    have:(F.kill p).rowsAt x.toKey=subR (.own zz rs) []:=by rw[<- Pl.under_nil];exact qoN hx []
    rw[hr]at this;simp[subR,getR]at this
theorem vQ {G w F ts}(h:RelF G w F ts){d v π}(hπ:π≠[])(hv:∀ r o c zz rs es,cellAt v.rows r o=some c->c≠.own zz rs/\c≠.mp es)(hvk:∀ r o c,cellAt v.rows r o=some c->∀ k∈deps ⟨⟨.slot d,[]⟩,r,o⟩ c,k.root≠.slot d):
    ¬ Uses ((F.killR (.slot d)).put (some d) v) ⟨.slot d,π⟩:=by
  have h1:=h.mapC (qP (.slot d));have hrows:∀ π,π≠[]->((F.killR (.slot d)).put (some d) v).rowsAt ⟨.slot d,π⟩=none:=by
    intro π hπ;by_cases hlt:d<(F.killR (.slot d)).slots.length
    . rw[zN hlt,qbi (fun r o c zz rs hc=>(hv r o c zz rs [] hc).1) hπ]
    . simp[Fr.rowsAt,Fr.rows,Fr.put,hlt]
  rintro (⟨hr,_⟩|⟨x,c,hx,hk⟩)
  . rw[hrows π hπ]at hr;cases hr
  . by_cases hd:x.key.root=.slot d
    . by_cases hp:x.key.path=[]
      . have hxk:x.key=⟨.slot d,[]⟩:=by cases hkx:x.key;simp_all
        by_cases hlt:d<(F.killR (.slot d)).slots.length
        . have hx':cellAt v.rows x.r x.o=some c:=by
            unfold Fr.get at hx;rw[hxk,zN hlt]at hx;simpa [getR]using hx
          have:=hvk _ _ _ hx' ⟨.slot d,π⟩ (by have:x=⟨⟨.slot d,[]⟩,x.r,x.o⟩:=by cases x;simp_all
                                              rw[<- this];exact hk)
          exact this rfl
        . unfold Fr.get at hx;rw[hxk]at hx;simp[Fr.rowsAt,Fr.rows,Fr.put,hlt]at hx
      . have:x.key=⟨.slot d,x.key.path⟩:=by cases hkx:x.key;simp_all
        unfold Fr.get at hx;rw[this,hrows _ hp]at hx;cases hx
    . have hx':(F.killR (.slot d)).get x=some c:=by
        unfold Fr.get at *;rw[Yw hd]at hx;exact hx
      by_cases hp:x.key.path=[]
      . rw[Fr.killR,qaH F _ hp]at hx';cases hc0:F.get x with
        |none=>simp[hc0]at hx'
        | some c0=>
          simp only[hc0,av,aa]at hx';have hroot:∀ c',deps x c'=[x.toKey]->⟨.slot d,π⟩∈deps x c'->False:=by intro c' e hm;rw[e,aW]at hm;exact hd (by have:=congrArg Key.root hm;simpa [Pl.toKey]using this.symm)
          cases c0 with
          |own zz rows=>simp[yz]at hx';subst hx';exact hroot _ rfl hk
          |mp es=>simp[yz]at hx';subst hx';exact hroot _ rfl hk
          | ref q=>
            simp only[yz]at hx';split at hx'
            . subst hx';simp[deps]at hk
            . rename_i hn;subst hx';simp only[deps,aW]at hk;exact hn (by have:=congrArg Key.root hk;simpa [Pl.toKey]using this.symm)
          | ptr q=>
            simp only[yz]at hx';split at hx'
            . subst hx';simp[deps]at hk
            . rename_i hn;subst hx';simp only[deps,aW]at hk;refine hn ?_;rw[<- hk];simp[hπ]
          |clo f fs cs=>simp only[yz]at hx';subst hx';have:=h.clo_path hc0 (k:=⟨.slot d,π⟩) hk;exact hπ this
          |_=>simp[yz]at hx';subst hx';simp[deps]at hk
      . have hpure:=h1.pure (x:=x) (c:=c) hx' hp;cases c<;>simp[qw]at hpure<;>simp only[deps,List.not_mem_nil,aW]at hk;exact hd (by have:=congrArg Key.root hk;simpa [Pl.toKey]using this.symm)
def Zk (K k:Key):Option (Nat×Nat×List (Nat×Nat)):=
 if k.root=K.root/\K.path <+: k.path then match k.path.drop K.path.length with
  |(r,o)::π=>some (r,o,π)
  |[]=>none
 else none
theorem xz {K k r o π}:Zk K k=some (r,o,π)↔k=(⟨K,r,o⟩:Pl).under π:=by
 unfold Zk;constructor
 .
  intro h;split at h
  . rename_i hc;obtain⟨h1,t,h2⟩:=hc;rw[<- h2,List.drop_left]at h;cases t with
    |nil=>cases h
    |cons y t=>obtain⟨a,b⟩:=y;simp only[aa,ai]at h;obtain⟨rfl,rfl,rfl⟩:=h;cases k;simp_all[Pl.under]
  . cases h
 . rintro rfl
   simp[Pl.under]
open Classical in
noncomputable def QU (G:Gh)(Y:Nat->Nat->Option (Option Pl))(k:Key):Option Hd:=if ∃ r o x π,Y r o=some (some x)/\k=x.under π then none else G.γ k
theorem Qc {G Y k}(h:¬ ∃ r o x π,Y r o=some (some x)/\k=x.under π):QU G Y k=G.γ k:=by unfold QU;rw[aG h]
theorem qf6 {G Y k}(h:∃ r o x π,Y r o=some (some x)/\k=x.under π):QU G Y k=none:=by unfold QU;rw[aF h]
noncomputable def Gh.mv (G:Gh)(K:Key)(Y:Nat->Nat->Option (Option Pl)):Gh:=
 { G with γ:=fun k=>match Zk K k with
  |some (r,o,π)=>(match Y r o with
   |some (some x)=>G.γ (x.under π)
   |some none=>none
   |none=>QU G Y k)
  |none=>QU G Y k }
def Inj (Y:Nat->Nat->Option (Option Pl)):Prop:=∀ r o r' o' x x' π π',Y r o=some (some x)->Y r' o'=some (some x')->x.under π=x'.under π'->r=r'/\o=o'/\π=π'
theorem YE (G:Gh)(K Y)(k):
  (∃ r o x π,Y r o=some (some x)/\k=(⟨K,r,o⟩:Pl).under π/\(G.mv K Y).γ k=G.γ (x.under π))\/(G.mv K Y).γ k=none \/
  ((∀ r o x π,Y r o=some (some x)->k≠x.under π)/\(G.mv K Y).γ k=G.γ k):=by
 have base:QU G Y k=none\/((∀ r o x π,Y r o=some (some x)->k≠x.under π)/\QU G Y k=G.γ k):=by
  by_cases h:∃ r o x π,Y r o=some (some x)/\k=x.under π
  . exact .inl (qf6 h)
  . exact .inr ⟨fun r o x π h1 h2=>h ⟨r,o,x,π,h1,h2⟩,Qc h⟩
 cases hs:Zk K k with
 |none=>right;simp only[Gh.mv,hs];exact base
 |some y=>
  obtain⟨r,o,π⟩:=y;cases hY:Y r o with
  |none=>right;simp only[Gh.mv,hs,hY];exact base
  |some z=>
   cases z with
   |none=>right;left;simp only[Gh.mv,hs,hY]
   |some x=>left;exact⟨r,o,x,π,hY,xz.1 hs,by simp only[Gh.mv,hs,hY]⟩
theorem GInv.mv {G w}(inv:GInv G w)(K){Y}(hY:Inj Y):GInv (G.mv K Y) w:=by
 refine⟨fun k k' h h' e e' hb=>?_,fun k h e=>?_,inv.imlt,inv.glob⟩
 .
  rcases YE G K Y k with⟨r,o,x,π,h1,h2,h3⟩|h1|⟨h1,h2⟩
  .
   rw[h3]at e;rcases YE G K Y k' with⟨r',o',x',π',h1',h2',h3'⟩|h1'|⟨h1',h2'⟩
   . rw[h3']at e';obtain⟨rfl,rfl,rfl⟩:=hY _ _ _ _ _ _ _ _ h1 h1' (inv.inj _ _ _ _ e e' hb);rw[h2,h2']
   . rw[h1']at e';cases e'
   . rw[h2']at e';exact absurd (inv.inj _ _ _ _ e e' hb).symm (h1' _ _ _ _ h1)
  . rw[h1]at e;cases e
  .
   rw[h2]at e;rcases YE G K Y k' with⟨r',o',x',π',h1',h2',h3'⟩|h1'|⟨h1',h2'⟩
   . rw[h3']at e';exact absurd (inv.inj _ _ _ _ e e' hb) (h1 _ _ _ _ h1')
   . rw[h1']at e';cases e'
   . rw[h2']at e';exact inv.inj _ _ _ _ e e' hb
 .
  rcases YE G K Y k with⟨r,o,x,π,h1,h2,h3⟩|h1|⟨h1,h2⟩
  . rw[h3]at e;exact inv.lt _ _ e
  . rw[h1]at e;cases e
  . rw[h2]at e;exact inv.lt _ _ e
theorem YR {G:Gh}{K Y k}(h1:∀ r o π,k=(⟨K,r,o⟩:Pl).under π->Y r o=none)(h2:∀ r o x π,Y r o=some (some x)->k≠x.under π):(G.mv K Y).γ k=G.γ k:=by
 have hn:¬ ∃ r o x π,Y r o=some (some x)/\k=x.under π:=fun ⟨r,o,x,π,a,b⟩=>h2 r o x π a b;cases hs:Zk K k with
 |none=>simp only[Gh.mv,hs];exact Qc hn
 |some y=>obtain⟨r,o,π⟩:=y;simp only[Gh.mv,hs,h1 r o π (xz.1 hs)];exact Qc hn
theorem Ze (G:Gh)(K){Y r o x}(h:Y r o=some (some x))(π):
  (G.mv K Y).γ ((⟨K,r,o⟩:Pl).under π)=G.γ (x.under π):=by
 simp only[Gh.mv,xz.2 rfl,h]
theorem RelF.mv {G w F ts}(h:RelF G w F ts)(K){Y}(hY:Inj Y)(h1:∀ r o π,Y r o≠none->¬ Uses F ((⟨K,r,o⟩:Pl).under π))(h2:∀ r o x π,Y r o=some (some x)->¬ Uses F (x.under π)):RelF (G.mv K Y) w F ts:=by
 refine h.ghost (h.inv.mv K hY) rfl rfl fun k hu=>YR (fun r o π e=>?_) (fun r o x π e e'=>?_)
 .
  cases hy:Y r o with
  |none=>rfl
  |some z=>exact absurd (e▸hu) (h1 r o π (by rw[hy];simp))
 . exact h2 r o x π e (e'▸hu)
theorem Gain.mv {G w}(K)(Y):Gain G w (G.mv K Y) w:=by
 refine⟨Nat.le_refl _,fun _ h=>h,fun _ _=>rfl,fun _ _ _=>⟨rfl,fun h=>h⟩,fun k h e=>?_,fun i=>?_,.refl w,fun d hd=>⟨hd,?_⟩⟩
 .
  rcases YE G K Y k with⟨r,o,x,π,h1,h2,h3⟩|h1|⟨h1,h2⟩
  . rw[h3]at e;exact .inl ⟨_,h,e,rfl⟩
  . rw[h1]at e;cases e
  . rw[h2]at e;exact .inl ⟨_,h,e,rfl⟩
 .
  refine YR (fun r o π e=>?_) (fun r o x π e e'=>?_)
  . simp[Pl.under]at e
  . simp[Pl.under]at e'
 .
  refine YR (fun r o π e=>?_) (fun r o x π e e'=>?_)
  . simp[Pl.under]at e
  . simp[Pl.under]at e'
theorem qaF {G:Gh}{K Y k}(h:k.path=[]):(G.mv K Y).γ k=G.γ k:=by
 refine YR (fun r o π e=>?_) (fun r o x π e e'=>?_)
 . rw[e]at h;simp[Pl.under]at h
 . rw[e']at h;simp[Pl.under]at h
def Seen (c:Cell):Prop:=(∀ zz rows,c≠.own zz rows)/\(∀ es,c≠.mp es)
theorem Sh.seen {G w p q c v}(h:Sh G w p c v)(hc:Seen c):Sh G w q c v:=by
 cases c with
 |own zz rows=>exact absurd rfl (hc.1 _ rows)
 |mp es=>exact absurd rfl (hc.2 es)
 |_=>exact h
theorem Tree.mv {G w K Y r o x c}(hY:Y r o=some (some x))(h:Tree G w x c):
  Tree (G.mv K Y) w ⟨K,r,o⟩ c:=by
 intro rest rows e;have hp:(x.under rest).path≠[]:=by simp[Pl.under]
 rcases h rest rows e with(⟨g1,g2,g3⟩|⟨_,_,_,_,_,g,_⟩)|⟨hd,vs,T,e1,e2,e3,e4,e5,e6,e7,e8,e9⟩
 . exact .inl (.inl ⟨by rw[Ze G K hY];exact g1,g2,by simp[Pl.under]⟩)
 . exact absurd g hp
 refine .inr ⟨hd,vs,T,by rw[Ze G K hY];exact e1,e2,e3,e4,e5,e6,e7,fun _=>e8 hp,fun r' o' c' hc'=>?_⟩;obtain⟨u,hu,hs⟩:=e9 r' o' c' hc';refine⟨u,hu,?_⟩;have hpure:=(e8 hp).2 r' o' c' hc';cases c' with
 |own zz rows'=>
  have e1:(⟨(⟨K,r,o⟩:Pl).under rest,r',o'⟩:Pl).toKey=(⟨K,r,o⟩:Pl).under (rest++[(r',o')]):=by simp[Pl.toKey,Pl.under]
  have e2:(⟨x.under rest,r',o'⟩:Pl).toKey=x.under (rest++[(r',o')]):=by simp[Pl.toKey,Pl.under]
  unfold Sh;rw[e1,Ze G K hY,<- e2];exact hs
 |val u=>exact hs
 |nil=>exact hs
 |imm rows=>exact hs
 |dead=>exact hs
 |_=>simp[qw]at hpure
theorem Sh.mv {G w K Y r o x c v}(hY:Y r o=some (some x))(hc:¬ Seen c)(h:Sh G w x c v):Sh (G.mv K Y) w ⟨K,r,o⟩ c v:=by
 have e:(⟨K,r,o⟩:Pl).toKey=(⟨K,r,o⟩:Pl).under []:=rfl;cases c with
 |own zz rows=>unfold Sh;rw[e,Ze G K hY,Pl.under_nil];exact h
 |mp es=>obtain⟨y,ents,clock,f1,f2⟩:=h;exact⟨y,ents,clock,by rw[e,Ze G K hY,Pl.under_nil];exact f1,f2⟩
 |_=>exact absurd (by constructor<;>intros<;>simp) hc
end
section
variable [Glob]
theorem Shp.comb {a b c}(h1:Shp a b)(h2:Shp a c):Shp b c:=by
 rcases h1 with h1|⟨z,r1,r2,e1,e2,e3⟩
 . rw[<- h1];exact h2
 .
  rcases h2 with h2|⟨z',s1,s2,f1,f2,f3⟩
  . rw[<- h2];exact .inr ⟨z,r2,r1,e2,e1,e3.symm⟩
  . rw[e1]at f1;cases f1;exact .inr ⟨z,r2,s2,e2,f2,by rw[<- e3,f3]⟩
theorem qcU {a b}(h:a.map List.length=b.map List.length){r o c}(hc:cellAt a r o=some c):∃ c',cellAt b r o=some c':=by
 obtain⟨row,h1,h2⟩:=qc.1 hc;have hl:(a.map List.length)[r]? = some row.length:=by simp[h1]
 rw[h,aI]at hl;cases hb:b[r]? with
 |none=>simp[hb]at hl
 |some row'=>
  simp only[hb,av,aa]at hl;have:o<row'.length:=by rw[hl];exact(az.1 h2).1
  exact⟨row'[o],by simp[cellAt,hb,this]⟩
theorem qau.comb {F F1 F2 p c1 c2}(h1:qau F F1 p c1)(h2:qau F F2 p c2):qau F1 F2 p c2 where
 old:=⟨c1,h1.new⟩
 new:=h2.new
 under:=h2.under
 other k hk:=by
  rcases h1.other k hk with⟨a1,b1⟩|⟨a,b,ha,hb,hl⟩
  . rcases h2.other k hk with⟨a2,b2⟩|⟨a',b',ha',_⟩
    . exact .inl ⟨b1,b2⟩
    . rw[a1]at ha';cases ha'
  . rcases h2.other k hk with⟨a2,b2⟩|⟨a',b',ha',hb',hl'⟩
    . rw[a2]at ha;cases ha
    . rw[ha]at ha';cases ha';refine .inr ⟨b,b',hb,hb',by rw[<- hl.len,hl'.len],fun r o c' hc' hne=>?_⟩;obtain⟨c0,hc0,hs⟩:=hl'.cell r o c' hc' hne;obtain⟨cb,hcb⟩:=qcU hl.len hc0;obtain⟨c0',hc0',hs'⟩:=hl.cell r o cb hcb hne;rw[hc0]at hc0';cases hc0';exact⟨cb,hcb,hs'.comb hs⟩
 len:=by rw[h2.len,h1.len]
 tags k:=by rw[h2.tags,h1.tags]
 boxes r:=by rw[h2.boxes,h1.boxes]
theorem Fr.set_of_get {F:Fr}{p c0}(h:F.get p=some c0)(c):∃ F',F.set p c=some F':=by
 have up:∀ (π:List (Nat×Nat)) (r0 r1:List (List Cell)),getR r0 π=some r1->cellAt r1 p.r p.o=some c0->∃ r2,updR (putAt p.r p.o c) r0 π=some r2:=by
  intro π
  induction π with
  |nil=>intro r0 r1 h1 h2;simp only[getR,aa]at h1;subst h1;exact⟨setRow r0 p.r p.o c,by simp only[updR,putAt,h2]⟩
  |cons y π ih=>
   obtain⟨a,b⟩:=y;intro r0 r1 h1 h2;simp only[getR]at h1;cases hc:cellAt r0 a b with
   |none=>simp[hc]at h1
   |some c1=>
    cases c1 with
    |own zz rs=>simp only[hc]at h1;obtain⟨r2,e2⟩:=ih _ _ h1 h2;exact⟨setRow r0 a b (.own zz r2),by simp only[updR,hc,e2]⟩
    |_=>simp[hc]at h1
 unfold Fr.get at h;cases hr:F.rowsAt p.key with
 |none=>simp[hr]at h
 |some rs=>
  simp only[hr,ae]at h;unfold Fr.rowsAt at hr;cases hroot:F.rows p.key.root with
  |none=>simp[hroot]at hr
  |some rs0=>simp only[hroot,ae]at hr;obtain⟨r2,e2⟩:=up _ _ _ hr h;exact⟨F.setRows p.key.root r2,by unfold Fr.set;simp only[hroot,e2]⟩
structure Shr (G:Gh) (F:Fr) (G':Gh) (F':Fr):Prop where
 γ:G'.γ=G.γ
 lv:G'.lv=G.lv
 im:∀ b,G.im b->G'.im b
 new:∀ b,G'.im b->G.im b\/∃ k h,Uses F k/\G.γ k=some h/\h.b=b
 uses:∀ k,Uses F' k->Uses F k
theorem Shr.refl (G)(F):Shr G F G F:=⟨rfl,rfl,fun _ h=>h,fun _ h=>.inl h,fun _ h=>h⟩
theorem Shr.trans {G G1 G2 F F1 F2}(h1:Shr G F G1 F1)(h2:Shr G1 F1 G2 F2):Shr G F G2 F2 where
 γ:=by rw[h2.γ,h1.γ]
 lv:=by rw[h2.lv,h1.lv]
 im b h:=h2.im b (h1.im b h)
 new b h:=by
  rcases h2.new b h with h|⟨k,x,hk,hx,hb⟩
  . exact h1.new b h
  . exact .inr ⟨k,x,h1.uses k hk,by rw[<- h1.γ];exact hx,hb⟩
 uses k h:=h1.uses k (h2.uses k h)
theorem qY.lv {G G'}(hγ:G'.γ=G.γ)(hlv:G'.lv=G.lv):∀ {l:List Cell} {vs:List Value},qY G l vs->qY G' l vs:=by intro l vs h;refine h.ghost (fun r hr=>?_) (fun k _=>by rw[hγ]);cases r<;>simp_all[Gh.ok]
theorem Sh.shr {G G' F F' w}(hs:Shr G F G' F'){p c v}(hc:∀ es,c≠.mp es)(h:Sh G w p c v):Sh G' w p c v:=by
 have ok:∀ r,G.ok r->G'.ok r:=fun r hr=>by cases r<;>simp_all[Gh.ok,hs.lv]
 cases c with
 |val u=>exact h
 |nil=>exact h
 |imm rows=>exact RelI.mono hs.im (fun _ _=>rfl) h
 |own zz rows=>unfold Sh;rw[hs.γ];exact h
 |mp es=>exact absurd rfl (hc es)
 |mpb es=>exact h.elim
 |ptr q=>obtain⟨e0,x,e1,e2⟩:=h;exact⟨ok _ e0,x,by rw[hs.γ];exact e1,e2⟩
 |cptr row o=>obtain⟨b,base,vs,T,fr,e1,e2,e3,e4⟩:=h;exact⟨b,base,vs,T,fr,hs.im _ e1,e2,e3,fun j c e=>let ⟨u,hu,hr⟩:=e4 j c e;⟨u,hu,hr.mono hs.im (fun _ _=>rfl)⟩⟩
 |ref q=>exact⟨ok _ h.1,by rw[hs.γ];exact h.2⟩
 |clo f fs cs=>obtain⟨vs,us,e1,e2,e3⟩:=h;exact⟨vs,us,e1,e2.lv hs.γ hs.lv,e3.lv hs.γ hs.lv⟩
 |dead=>exact h
def Hold (G:Gh)(w:World)(F:Fr):Option Pl->Cell->Value->Prop
 |none,c,v=>Seen c/\c≠.dead/\(∀ q,c≠.ref q)/\(∀ q,c=.ptr q->q.key.path=[])/\∀ p,Sh G w p c v
 |some s,c,v=>(∃ k r o,s=⟨⟨.slot k,[]⟩,r,o⟩)/\¬ Seen c/\Sh G w s c v/\Tree G w s c/\∀ π,¬ Uses F (s.under π)
theorem Hold.one {G w F x c v}(h:Hold G w F x c v):oneC v=true:=by
 cases x with
 |none=>exact(h.2.2.2.2 ⟨⟨.res,[]⟩,0,0⟩).one
 |some s=>exact h.2.2.1.one
theorem Tree.shr {G G' F F' w}(hs:Shr G F G' F')(inv:GInv G w){s c}(hf:∀ π,¬ Uses F (s.under π))(h:Tree G w s c):Tree G' w s c:=by
 intro rest rows e;rcases(h rest rows e).arr (by simp[Pl.under])with⟨g1,g2,g3⟩|⟨hd,vs,T,e1,e2,e3,e4,e5,e6,e7,e8,e9⟩
 . exact .inl (.inl ⟨by rw[hs.γ];exact g1,g2,g3⟩)
 refine .inr ⟨hd,vs,T,by rw[hs.γ];exact e1,e2,fun hi=>?_,e4,e5,e6,e7,e8,fun r o c hc=>?_⟩
 .
  rcases hs.new _ hi with h|⟨k,x,hk,hx,hb⟩
  . exact e3 h
  . have:=inv.inj _ _ _ _ e1 hx hb.symm;exact hf rest (this▸hk)
 . obtain⟨u,hu,hsh⟩:=e9 r o c hc;refine⟨u,hu,hsh.shr hs ?_⟩;intro es he;have:=(e8 (by simp[Pl.under])).2 r o c hc;rw[he]at this;simp[qw]at this
theorem Hold.shr {G G' F F' w}(hs:Shr G F G' F')(inv:GInv G w){x c v}(h:Hold G w F x c v):Hold G' w F' x c v:=by
 cases x with
 |none=>exact⟨h.1,h.2.1,h.2.2.1,h.2.2.2.1,fun p=>(h.2.2.2.2 p).shr hs h.1.2⟩
 |some s=>
  obtain⟨h1,h2,h3,h4,h5⟩:=h;refine⟨h1,h2,?_,h4.shr hs inv h5,fun π hu=>h5 π (hs.uses _ hu)⟩;cases c with
  |own zz rows=>exact h3.shr hs (by intros;simp)
  |mp es=>
   obtain⟨y,ents,clock,e1,e2,e3,e4,e5,e6⟩:=h3;refine⟨y,ents,clock,by rw[hs.γ];exact e1,e2,e3,fun hi=>?_,e5,e6.mono hs.im (fun _ _=>rfl)⟩;rcases hs.new _ hi with h|⟨k,z,hk,hz,hb⟩
   . exact e4 h
   . have:=inv.inj _ _ _ _ e1 hz hb.symm;exact h5 [] (by rw[Pl.under_nil,this];exact hk)
  |_=>exact absurd (by constructor<;>intros<;>simp) h2
theorem qau.uses {F F' p c}(st:qau F F' p c)(hd:deps p c=[])(hr:∀ rest,subR c rest=none){k}(hu:Uses F' k):Uses F k:=by
 have row:∀ k rows,F'.rowsAt k=some rows->(∀ rest,k≠p.under rest)/\∃ a,F.rowsAt k=some a/\Like (if k=p.key then some (p.r,p.o)else none) a rows:=by
  intro k rows e;have hn:∀ rest,k≠p.under rest:=by intro rest e';rw[e',st.under,hr]at e;cases e
  rcases st.other k hn with⟨_,h⟩|⟨a,b,ha,hb,hl⟩
  . rw[h]at e;cases e
  . rw[hb]at e;cases e;exact⟨hn,a,ha,hl⟩
 rcases hu with⟨hs,hi⟩|⟨x,c',hx,hk⟩
 .
  cases e:F'.rowsAt k with
  |none=>simp[e]at hs
  |some rows=>obtain⟨_,a,ha,_⟩:=row k rows e;exact .inl ⟨by rw[ha];rfl,hi⟩
 .
  by_cases hxp:x=p
  . subst hxp;rw[st.new]at hx;cases hx;rw[hd]at hk;simp at hk
  .
   cases e:F'.rowsAt x.key with
   |none=>simp[Fr.get,e]at hx
   |some rows=>
    have hx':cellAt rows x.r x.o=some c':=by simpa [Fr.get,e]using hx
    obtain⟨_,a,ha,hl⟩:=row _ rows e;have hne:(if x.key=p.key then some (p.r,p.o)else none)≠some (x.r,x.o):=by
     split
     . rename_i ek;simp only[ne_eq,aa,ai]
       rintro ⟨e1,e2⟩
       exact hxp (by cases x;cases p;simp_all)
     . simp
    obtain⟨c0,hc0,hsh⟩:=hl.cell _ _ _ hx' hne;refine .inr ⟨x,c0,by simp[Fr.get,ha,hc0],?_⟩;rcases hsh with rfl|⟨_,r1,r2,e1,e2,_⟩
    . exact hk
    . subst e1;subst e2;exact hk
theorem Val.unique {G w F ts p u u'}(h:Val G w F ts p u)(h':Val G w F ts p u'):u=u':=by
 rcases h with⟨hi,x,vs,T,e1,e2,e3⟩|⟨hn,k,v,V,e1,e2,e3,e4⟩
 .
  rcases h' with⟨_,x',vs',T',f1,f2,f3⟩|⟨hn,_⟩
  . rw[e1]at f1;cases f1;rw[e2]at f2;cases f2;rw[e3]at f3;exact aS f3
  . exact absurd hi hn
 .
  rcases h' with⟨hi,_⟩|⟨_,k',v',V',f1,f2,f3,f4⟩
  . exact absurd hi hn
  . rw[e1]at f1;have:k=k':=by simpa using f1
    subst this;rw[e2]at f2;cases f2;rw[e3]at f3;cases f3;rw[e4]at f4;exact aS f4
theorem RelF.tree {G w F ts}(h:RelF G w F ts){p c}(e:F.get p=some c):Tree G w p c:=by intro rest rows hs;refine h.cont _ _ ?_ (p.under_inHeap rest);rw[qoN e];exact hs
theorem RelF.empty {G w F F' ts}(h:RelF G w F ts){p}(st:qau F F' p .dead)(hm:∀ es,F.get p≠some (.mpb es)):RelF G w F' ts:=by
 refine h.set st (fun _=>rfl) (fun u hu=>?_) (Tree.flat (by intros;simp)) hm;obtain⟨c0,hc0⟩:=st.old;obtain⟨u',hu',hs⟩:=h.val hc0 (fun es he=>hm es (he▸hc0));have:=hu.unique hu';subst this;rcases hs with⟨_,hn⟩|hs
 . exact .inl ⟨rfl,hn⟩
 . exact .inr hs.one
theorem yD {G w F ts}(h:RelF G w F ts){p c v}(hs:∀ q,Sh G w q (.ref p) v)(e:F.get p=some c)(hc:¬ Seen c):
  Sh G w p c v/\∀ u,Val G w F ts p u->u=v:=by
 obtain⟨u,hu,hsh⟩:=h.val e (fun es he=>hc (by subst he;exact⟨by simp,by simp⟩));obtain⟨_,hx⟩:=hs p;have key:Sh G w p c u/\u=v:=by
  rcases hsh with⟨hd,_⟩|hsh
  . subst hd;exact absurd (by constructor<;>intros<;>simp) hc
  .
   refine⟨hsh,?_⟩;cases c with
   |own zz rows=>
    rcases hx with⟨hx,hv⟩|⟨x,hx,hv⟩<;>rcases hsh with⟨e1,_,e3⟩|⟨y,e1,_,e3,_⟩<;>rw[hx]at e1<;>cases e1
    . rw[e3,hv]
    . rw[e3,hv]
   |mp es=>obtain⟨y,_,_,e1,_,e3,_⟩:=hsh;rcases hx with⟨hx,hv⟩|⟨x,hx,hv⟩<;>rw[hx]at e1<;>cases e1;rw[e3,hv]
   |_=>exact absurd (by constructor<;>intros<;>simp) hc
 obtain⟨k1,rfl⟩:=key;exact⟨k1,fun u' hu'=>hu'.unique hu⟩
def qjM (G:Gh)(p:Pl)(c:Cell)(b:Nat):Prop:=G.im b\/∃ rest rows h,subR c rest=some rows/\G.γ (p.under rest)=some h/\h.b=b
theorem RelF.freezeAt {G w F F' ts}(h:RelF G w F ts){p zz rows}(e:F.get p=some (.own zz rows))(st:qau F F' p (.imm (qG rows))):
  let G':Gh:={ G with im:=qjM G p (.own zz rows) }
  RelF G' w F' ts/\Gain G w G' w/\Shr G F G' F'/\∀ u,Sh G w p (.own zz rows) u->RelI G'.im w (.imm (qG rows)) u:=by
 intro G';obtain⟨F1,h1⟩:=Fr.set_of_get e .dead;have st1:=Fr.setTo h1;have r1:=h.empty st1 (by intro _;rw[e];simp);have tr:=h.tree e;have him:∀ b,G.im b->G'.im b:=fun b hb=>.inl hb;have nouse:∀ π,F1.rowsAt (p.under π)=none:=fun π=>by rw[st1.under];rfl
 have r2:RelF G' w F1 ts:=by
  refine r1.freeze _ him (fun b hb=>?_) (fun k x hx hk hb=>?_)
  . rcases hb with hb|⟨_,_,y,_,hy,rfl⟩
    . exact h.inv.imlt b hb
    . exact h.inv.lt _ _ hy
  .
   rcases hb with hb|⟨rest,rs,y,hs,hy,hb⟩
   . exact hb
   .
    exfalso;have:=h.inv.inj _ _ _ _ hx hy hb.symm;subst this;rcases hk with⟨hr,_⟩|⟨z,es,hz,hzk⟩
    . rw[nouse]at hr;cases hr
    .
     cases rest with
     |nil=>rw[Pl.under_nil]at hzk;have:=Xu hzk;subst this;rw[st1.new]at hz;cases hz
     |cons y' rest=>
      have:z.key=p.under ((y'::rest).dropLast):=by
       have e1:z.key.path++[(z.r,z.o)]=p.key.path++(p.r,p.o)::(y'::rest):=by have:=congrArg Key.path hzk;simpa [Pl.toKey,Pl.under]using this
       have e2:z.key.root=p.key.root:=by have:=congrArg Key.root hzk;simpa [Pl.toKey,Pl.under]using this
       have e3:z.key.path=p.key.path++(p.r,p.o)::(y'::rest).dropLast:=by have:=congrArg List.dropLast e1;rw[List.dropLast_concat,List.dropLast_append_of_ne_nil (by simp)]at this;simpa using this
       cases hzk':z.key;rw[hzk']at e2 e3;simp only[Pl.under,Key.mk.injEq];exact⟨e2,e3⟩
      unfold Fr.get at hz;rw[this,nouse]at hz;cases hz
 have hrel:∀ u,Sh G w p (.own zz rows) u->RelI G'.im w (.imm (qG rows)) u:=by intro u hs;have:=Tree.relI (im':=G'.im) him (.own zz rows) p u rfl hs tr (fun rest rs y h1 h2=>.inr ⟨rest,rs,y,h1,h2,rfl⟩);simpa [immC]using this
 have st2:=st1.comb st;refine⟨r2.set st2 (fun _=>rfl) (fun u hu=>.inr ?_) (Tree.flat (by intros;simp)) (by intro _;rw[st1.new];simp),?_,?_,hrel⟩
 .
  obtain⟨u0,hu0,hs0⟩:=h.val e;rcases hs0 with⟨hd,_⟩|hs0
  . cases hd
  .
   have:u=u0:=by
    rcases hu with⟨hi,x,vs,T,a1,a2,a3⟩|⟨hn,k,v,V,a1,a2,a3,a4⟩
    . exact Val.unique (G:=G) (F:=F) (ts:=ts) (.inl ⟨hi,x,vs,T,a1,a2,a3⟩) hu0
    . have ht:=st1.tags k;rw[a2]at ht;cases hk:F.slots[k]? with
      |none=>simp[hk]at ht
      |some v0=>simp only[hk,av,aa]at ht;exact Val.unique (.inr ⟨hn,k,v0,V,a1,hk,a3,by rw[<- ht];exact a4⟩) hu0
   subst this;exact hrel u hs0
 .
  refine⟨Nat.le_refl _,him,fun _ _=>rfl,fun b _ hn=>⟨rfl,fun hb=>?_⟩,fun k x hx=>.inl ⟨k,x,hx,rfl⟩,fun _=>rfl,.refl w,fun _ h=>⟨h,rfl⟩⟩;rcases hb with hb|⟨_,_,y,_,hy,hb⟩
  . exact hb
  . exact absurd hb (hn _ _ hy)
 .
  refine⟨rfl,rfl,him,fun b hb=>?_,fun k hu=>st.uses rfl (fun _=>rfl) hu⟩;rcases hb with hb|⟨rest,rs,y,hs,hy,hb⟩
  . exact .inl hb
  . exact .inr ⟨_,y,.inl ⟨by rw[qoN e,hs];rfl,p.under_inHeap rest⟩,hy,hb⟩
theorem qa2 {c}(h:¬ Seen c){x}:x.toKey∈deps x c:=by
 cases c with
 |own zz rows=>simp[deps]
 |mp es=>simp[deps]
 |_=>exact absurd (by constructor<;>intros<;>simp) h
theorem qbK {cx G w F F' ts c c' v}(h:RelF G w F ts)(hc:Seen c)(hs:∀ p,Sh G w p c v)(e:takeC cx F c=some (c',F')):
  ∃ im' x,RelF { G with im:=im' } w F' ts/\Gain G w { G with im:=im' } w/\Shr G F { G with im:=im' } F'/\Hold { G with im:=im' } w F' x c' v /\
   ∀ s,x=some s->Uses F s.toKey/\c=.ref s:=by
 have same:c≠.dead->c'=c->F'=F->(∀ q,c≠.ref q)->(∀ q,c=.ptr q->q.key.path=[])->∃ im' x,RelF { G with im:=im' } w F' ts/\Gain G w { G with im:=im' } w/\Shr G F { G with im:=im' } F'/\Hold { G with im:=im' } w F' x c' v /\
   ∀ s,x=some s->Uses F s.toKey/\c=.ref s:=by
  rintro hd rfl rfl hr hp
  exact⟨G.im,none,h,Gain.refl G w,Shr.refl G F',⟨hc,hd,hr,hp,hs⟩,by intros;simp_all⟩
 have moved:∀ p c0 F1,F.get p=some c0->¬ Seen c0->(∃ k,p.key=⟨.slot k,[]⟩)->c=.ref p->F.set p .dead=some F1->c'=c0->F'=F1.kill p ->
   ∃ im' x,RelF { G with im:=im' } w F' ts/\Gain G w { G with im:=im' } w/\Shr G F { G with im:=im' } F'/\Hold { G with im:=im' } w F' x c' v /\
   ∀ s,x=some s->Uses F s.toKey/\c=.ref s:=by
  rintro p c0 F1 hg hns ⟨k,hk⟩ rfl hset rfl rfl
  have st:=Fr.setTo hset;have r1:=h.empty st (by intro es he;rw[hg]at he;cases he;exact hns ⟨by simp,by simp⟩);have hsv:=(yD h hs hg hns).1;refine⟨G.im,some p,r1.mapC (qM p),Gain.refl G w,⟨rfl,rfl,fun _ h=>h,fun _ h=>.inl h,fun k hu=>?_⟩,⟨⟨k,p.r,p.o,?_⟩,hns,hsv,h.tree hg,fun π=>vH r1 st.new π⟩,fun s e=>?_⟩
  . exact st.uses rfl (fun _=>rfl) ((Weak.mapC (qM p) F1).uses hu)
  . cases p;simp_all
  . cases e;exact⟨.inr ⟨p,c',hg,qa2 hns⟩,rfl⟩
 cases c with
 |ref p=>
  simp only[takeC]at e;cases hg:F.get p with
  |none=>simp[hg]at e
  |some c0=>
   have slotOf:(cx.temp p.key.root&&p.key.path.isEmpty)=true->∃ k,p.key=⟨.slot k,[]⟩:=by intro ht;simp only[aD,List.isEmpty_iff]at ht;cases hr:p.key.root<;>rw[hr]at ht<;>simp[Cx.temp]at ht;rename_i k;exact⟨k,by cases hk:p.key;simp_all⟩
   cases c0 with
   |own zz rows=>
    simp only[hg]at e;split at e
    . rename_i ht;cases hset:F.set p .dead with
      |none=>simp[hset]at e
      |some F1=>simp only[hset,av,aa,ai]at e;exact moved p _ F1 hg (fun hn=>hn.1 _ rows rfl) (slotOf ht) rfl hset e.1.symm e.2.symm
    . cases hset:F.set p (.imm (qG rows))with
      |none=>simp[hset]at e
      |some F1=>simp only[hset,av,aa,ai]at e;obtain⟨rfl,rfl⟩:=e;obtain⟨a1,a2,a3,a4⟩:=h.freezeAt hg (Fr.setTo hset);have hsv:=(yD h hs hg (fun hn=>hn.1 _ rows rfl)).1;exact⟨_,none,a1,a2,a3,⟨⟨by intros;simp,by intros;simp⟩,by simp,by intros;simp,by intros;simp_all,fun p=>a4 v hsv⟩,by intros;simp_all⟩
   |mp es=>
    simp only[hg]at e;split at e
    . rename_i ht;cases hset:F.set p .dead with
      |none=>simp[hset]at e
      |some F1=>simp only[hset,av,aa,ai]at e;exact moved p _ F1 hg (fun hn=>hn.2 es rfl) (slotOf ht) rfl hset e.1.symm e.2.symm
    . cases e
   |_=>simp[hg]at e
 |dead=>simp[takeC]at e
 |ptr q=>
  simp only[takeC]at e;split at e
  . rename_i hq;simp only[aa,ai]at e;exact same (by simp) e.1.symm e.2.symm (by intros;simp) (fun q' hq'=>by cases hq';simpa using hq)
  . cases e
 |_=>simp only[takeC,aa,ai]at e;exact same (by simp) e.1.symm e.2.symm (by intros;simp) (fun q hq=>by cases hq)
theorem YW {cx G w F F' ts c c' v}(h:RelF G w F ts)(hc:Seen c)(hs:∀ p,Sh G w p c v)(e:takeC cx F c=some (c',F')):
  ∃ im' x,RelF { G with im:=im' } w F' ts/\Gain G w { G with im:=im' } w/\Shr G F { G with im:=im' } F'/\Hold { G with im:=im' } w F' x c' v /\
   ∀ s,x=some s->Uses F s.toKey:=
 let ⟨im',x,a1,a2,a3,a4,a5⟩:=qbK h hc hs e;⟨im',x,a1,a2,a3,a4,fun s e=>(a5 s e).1⟩
end
section
variable [Glob]
def RelV (G:Gh)(w:World)(v:AV)(V:Value):Prop:=QO v.tag (v.rows.map List.length) V/\∀ r o c,cellAt v.rows r o=some c->∃ u,qX v.tag V r o=some u/\(c=.dead\/(Seen c/\∀ p,Sh G w p c u))
theorem qcc (p)(c):Seen (qf7 p c):=by cases c<;>simp only[qf7]<;>constructor<;>intros<;>simp
theorem Sh.view {G w p c u}(h:Sh G w p c u)(hok:G.ok p.key.root)(q):Sh G w q (qf7 p c) u:=by
 cases c with
 |own zz rows=>
  rcases h with⟨e1,_,e3⟩|⟨x,e1,_,e3,_⟩
  . exact⟨hok,.inl ⟨e1,e3⟩⟩
  . exact⟨hok,.inr ⟨x,e1,e3⟩⟩
 |mp es=>obtain⟨x,_,_,e1,_,e3,_⟩:=h;exact⟨hok,.inr ⟨x,e1,e3⟩⟩
 |_=>exact h
theorem Xi (k)(r):∀ (l:List Cell) (o0 o:Nat),(xA k r o0 l)[o]? = (l[o]?).map (qf7 ⟨k,r,o0+o⟩)
 |[],o0,o=>by simp[xA]
 |c::l,o0,0=>by simp[xA]
 |c::l,o0,o+1=>by simp only[xA,List.getElem?_cons_succ];rw[Xi k r l (o0+1) o];congr 2;simp only[Pl.mk.injEq,true_and];omega
theorem YU (k)(r):∀ (l:List Cell) (o0:Nat),(xA k r o0 l).length=l.length
 |[],_=>rfl
 |c::l,o0=>by simp[xA,YU k r l]
theorem qaf (k):∀ (rows:List (List Cell)) (r0 r:Nat),(xm k r0 rows)[r]? = (rows[r]?).map (xA k (r0+r) 0)
 |[],r0,r=>by simp[xm]
 |l::rows,r0,0=>by simp[xm]
 |l::rows,r0,r+1=>by simp only[xm,List.getElem?_cons_succ];rw[qaf k rows (r0+1) r];congr 2;omega
theorem QI (k):∀ (rows:List (List Cell)) (r0:Nat),(xm k r0 rows).map List.length=rows.map List.length
 |[],_=>rfl
 |l::rows,r0=>by simp[xm,YU,QI k rows]
theorem qeK {k rows r o c'}(h:cellAt (xm k 0 rows) r o=some c'):∃ c,cellAt rows r o=some c/\c'=qf7 ⟨k,r,o⟩ c:=by
 unfold cellAt at *;rw[qaf]at h;cases hr:rows[r]? with
 |none=>simp[hr]at h
 |some row=>
  simp only[hr,av,ae,Xi]at h;cases ho:row[o]? with
  |none=>simp[ho]at h
  |some c=>simp only[ho,av,aa,Nat.zero_add]at h;exact⟨c,by simp[ho],h.symm⟩
theorem ZP (G w)(v):qm v=.dead\/(Seen (qm v)/\∀ p,Sh G w p (qm v) v):=by
 unfold qm;split
 . exact .inr ⟨⟨by intros;simp,by intros;simp⟩,fun p=>rfl⟩
 .
  split
  . rename_i h;exact .inr ⟨⟨by intros;simp,by intros;simp⟩,fun p=>⟨rfl,h⟩⟩
  . exact .inl rfl
theorem one_cell {c r o c'}(h:cellAt [[c]] r o=some c'):r=0/\o=0/\c'=c:=by
 obtain⟨row,h1,h2⟩:=qc.1 h;cases r with
 |zero=>simp at h1;subst h1;cases o<;>simp at h2;exact⟨rfl,rfl,h2.symm⟩
 |succ r=>simp at h1
theorem zI {l r o c'}(h:cellAt [l] r o=some c'):r=0/\l[o]? = some c':=by
 obtain⟨row,h1,h2⟩:=qc.1 h;cases r with
 |zero=>simp at h1;subst h1;exact⟨rfl,h2⟩
 |succ r=>simp at h1
theorem RelV.c {G w x V}(h:x=.dead\/(Seen x/\∀ p,Sh G w p x V)):RelV G w (.c x) V:=by refine⟨trivial,fun r o c hc=>?_⟩;obtain⟨rfl,rfl,rfl⟩:=one_cell hc;exact⟨V,rfl,h⟩
theorem xI (G w)(v):RelV G w (yR v) v:=by
 unfold yR;split
 .
  rename_i cs;refine⟨⟨cs,rfl,by simp⟩,fun r o c hc=>?_⟩;obtain⟨rfl,hc'⟩:=zI hc;have hc:(cs.toList.map qm)[o]? = some c:=hc';simp only[aI,aR]at hc;cases ho:cs[o]? with
  |none=>simp[ho]at hc
  |some u=>simp only[ho,av,aa]at hc;subst hc;exact⟨u,by simp[qX,AV.ag,ho],ZP G w u⟩
 . exact RelV.c (.inl rfl)
 . exact RelV.c (ZP G w _)
theorem qx {G w F}{a:Act}(h:RelF G w F a.tmps)(x):RelV G w (F.ev x) (a.eval x):=by
 cases x with
 |tmp s=>
  simp only[Fr.ev,Act.eval];cases hs:F.slots[s]? with
  |none=>exact RelV.c (.inl rfl)
  |some v=>
   obtain⟨V,hV,hsh,hc⟩:=h.slots s v hs;have:a.tmps.getD s Go.undef=V:=by rw[aK,hV];rfl
   rw[this];refine⟨by simp only[QI];exact hsh,fun r o c hc'=>?_⟩;obtain⟨c0,hc0,rfl⟩:=qeK hc';obtain⟨u,hu,hs⟩:=hc r o c0 hc0;refine⟨u,hu,?_⟩;rcases hs with rfl|hs
   . exact .inl rfl
   . exact .inr ⟨qcc _ _,fun p=>hs.view trivial p⟩
 |const v=>exact xI G w v
 |global g=>exact RelV.c (.inr ⟨⟨by intros;simp,by intros;simp⟩,fun p=>⟨rfl,rfl⟩⟩)
 |func f=>exact RelV.c (.inr ⟨⟨by intros;simp,by intros;simp⟩,fun p=>⟨#[],#[],rfl,trivial,trivial⟩⟩)
def vz (G:Gh)(w:World):List Cell->List Value->Prop
 |[],[]=>True
 |c::l,u::us=>(c=.dead\/(Seen c/\∀ p,Sh G w p c u))/\vz G w l us
 |_,_=>False
theorem vz.of_get {G w}:∀ {l:List Cell} {us:List Value},us.length=l.length ->
  (∀ (o:Nat) c,l[o]? = some c->∃ u,us[o]? = some u/\(c=.dead\/(Seen c/\∀ p,Sh G w p c u)))->vz G w l us
 |[],[],_,_=>trivial
 |c::l,u::us,hl,h=>by obtain⟨u',hu,hr⟩:=h 0 c rfl;cases hu;exact⟨hr,vz.of_get (by simpa using hl) fun o c hc=>h (o+1) c hc⟩
 |[],_::_,hl,_=>by simp at hl
 |_::_,[],hl,_=>by simp at hl
theorem qo1 {v}(h:oneC v=true):v.cells = #[v]:=by cases v<;>first|rfl|(simp[oneC]at h)
theorem RelV.cells {G w v V}(h:RelV G w v V){l}(e:v.cells=some l):l=[.dead]\/vz G w l V.cells.toList:=by
 obtain⟨hs,hc⟩:=h;unfold AV.cells at e;split at e
 .
  rename_i x ht hr;simp only[aa]at e;subst e;rw[hr]at hc;obtain⟨u,hu,hx⟩:=hc 0 0 x rfl;rw[ht]at hu;simp only[qX,aa]at hu;subst hu;rcases hx with rfl|hx
  . exact .inl rfl
  . right;rw[qo1 ((hx.2 ⟨⟨.res,[]⟩,0,0⟩).one)];exact⟨.inr hx,trivial⟩
 . rename_i l' ht hr;simp only[aa]at e;subst e;right;rw[ht,hr]at hs;obtain⟨vs,rfl,hsz⟩:=hs;refine vz.of_get (by simpa [Value.cells]using hsz) fun o c ho=>?_;obtain⟨u,hu,hx⟩:=hc 0 o c (by rw[hr];simp[cellAt,ho]);rw[ht]at hu;exact⟨u,by simpa [qX,Value.cells]using hu,hx⟩
 . cases e
theorem vz.shr {G G' F F' w}(hs:Shr G F G' F'):∀ {l:List Cell} {us:List Value},vz G w l us->vz G' w l us
 |[],[],_=>trivial
 |c::l,u::us,⟨h1,h2⟩=>⟨h1.imp (fun h=>h) fun ⟨a,b⟩=>⟨a,fun p=>(b p).shr hs a.2⟩,vz.shr hs h2⟩
 |[],_::_,h=>h.elim
 |_::_,[],h=>h.elim
theorem RelV.shr {G G' F F' w}(hs:Shr G F G' F'){v V}(h:RelV G w v V):RelV G' w v V:=⟨h.1,fun r o c hc=>let ⟨u,hu,hx⟩:=h.2 r o c hc;⟨u,hu,hx.imp (fun h=>h) fun ⟨a,b⟩=>⟨a,fun p=>(b p).shr hs a.2⟩⟩⟩
def qva (G:Gh)(w:World)(F:Fr):List (Option Pl)->List Cell->List Value->Prop
 |[],[],[]=>True
 |x::xs,c::l,u::us=>Hold G w F x c u/\qva G w F xs l us
 |_,_,_=>False
def Dis (xs:List (Option Pl)):Prop:=∀ (i j:Nat) s,xs[i]? = some (some s)->xs[j]? = some (some s)->i=j
theorem qva.shr {G G' F F' w}(hs:Shr G F G' F')(inv:GInv G w):∀ {xs:List (Option Pl)} {l:List Cell} {us:List Value},qva G w F xs l us->qva G' w F' xs l us
 |[],[],[],_=>trivial
 |_::_,_::_,_::_,⟨h1,h2⟩=>⟨h1.shr hs inv,h2.shr hs inv⟩
 |[],[],_::_,h=>h.elim
 |[],_::_,_,h=>h.elim
 |_::_,[],_,h=>h.elim
 |_::_,_::_,[],h=>h.elim
theorem qva.len {G w F}:∀ {xs:List (Option Pl)} {l:List Cell} {us:List Value},qva G w F xs l us->xs.length=l.length/\us.length=l.length
 |[],[],[],_=>⟨rfl,rfl⟩
 |_::_,_::_,_::_,⟨_,h2⟩=>by have:=h2.len;simp[this.1,this.2]
 |[],[],_::_,h=>h.elim
 |[],_::_,_,h=>h.elim
 |_::_,[],_,h=>h.elim
 |_::_,_::_,[],h=>h.elim
theorem qva.get {G w F}:∀ {xs:List (Option Pl)} {l:List Cell} {us:List Value},qva G w F xs l us->∀ {o:Nat} {c:Cell},l[o]? = some c ->
  ∃ x u,xs[o]? = some x/\us[o]? = some u/\Hold G w F x c u
 |x::xs,c::l,u::us,⟨h1,h2⟩,0,c',e=>by cases e;exact⟨x,u,rfl,rfl,h1⟩
 |x::xs,c::l,u::us,⟨h1,h2⟩,o+1,c',e=>h2.get (o:=o) e
 |[],[],[],_,o,c',e=>by simp at e
 |[],[],_::_,h,_,_,_=>h.elim
 |[],_::_,_,h,_,_,_=>h.elim
 |_::_,[],_,h,_,_,_=>h.elim
 |_::_,_::_,[],h,_,_,_=>h.elim
theorem qva.nouse {G w F xs l us}(h:qva G w F xs l us){s}(hm:some s∈xs):¬ Uses F s.toKey:=by
 obtain⟨i,hi⟩:=List.mem_iff_getElem?.1 hm;have:i<l.length:=by rw[<- h.len.1];exact(az.1 hi).1
 obtain⟨x,u,h1,_,h3⟩:=h.get (o:=i) (c:=l[i]) (by simp[this]);rw[hi]at h1;cases h1;exact h3.2.2.2.2 []
theorem Dis.cons {x xs}(h:Dis xs)(hx:∀ s,x=some s->some s∉xs):Dis (x::xs):=by
 intro i j s hi hj;cases i with
 |zero=>
  cases j with
  |zero=>rfl
  |succ j=>simp only[aJ,aa]at hi;exact absurd (aN (by simpa using hj)) (hx s hi)
 |succ i=>
  cases j with
  |zero=>simp only[aJ,aa]at hj;exact absurd (aN (by simpa using hi)) (hx s hj)
  |succ j=>rw[h i j s (by simpa using hi) (by simpa using hj)]
theorem Zl {cx w ts}:∀ (l l':List Cell) (us:List Value) (G:Gh) (F F':Fr),RelF G w F ts->vz G w l us->QB cx F l=some (l',F') ->
  ∃ im' xs,RelF { G with im:=im' } w F' ts/\Gain G w { G with im:=im' } w/\Shr G F { G with im:=im' } F'/\qva { G with im:=im' } w F' xs l' us/\Dis xs/\∀ s,some s∈xs->Uses F s.toKey:=by
 intro l
 induction l with
 |nil=>
  intro l' us G F F' h hr e;simp only[QB,aa,ai]at e;obtain⟨rfl,rfl⟩:=e;cases us with
  |nil=>exact⟨G.im,[],h,Gain.refl G w,Shr.refl G F,trivial,by intro i j s hi;simp at hi,by simp⟩
  |cons u us=>exact hr.elim
 |cons c l ih=>
  intro l' us G F F' h hr e;cases us with
  |nil=>exact hr.elim
  |cons u us=>
   simp only[QB]at e;cases h1:takeC cx F c with
   |none=>simp[h1]at e
   |some y=>
    obtain⟨c1,F1⟩:=y;simp only[h1]at e;cases h2:QB cx F1 l with
    |none=>simp[h2]at e
    |some z=>
     obtain⟨l1,F2⟩:=z;simp only[h2,aa,ai]at e;obtain⟨rfl,rfl⟩:=e;have hc:Seen c/\∀ p,Sh G w p c u:=by
      rcases hr.1 with rfl|hc
      . simp[takeC]at h1
      . exact hc
     obtain⟨im1,x,a1,a2,a3,a4,a5⟩:=YW h hc.1 hc.2 h1;obtain⟨im2,xs,b1,b2,b3,b4,b5,b6⟩:=ih l1 us _ F1 F2 a1 (hr.2.shr a3) h2;refine⟨im2,x::xs,b1,a2.trans b2,a3.trans b3,⟨a4.shr b3 a1.inv,b4⟩,b5.cons fun s hs hm=>?_,fun s hm=>?_⟩
     . subst hs;exact a4.2.2.2.2 [] (b6 s hm)
     . rcases List.mem_cons.1 hm with hm|hm
       . exact a5 s hm.symm
       . exact a3.uses _ (b6 s hm)
theorem Uses.put {F d v}(hv:∀ r o c zz rs,cellAt v.rows r o=some c->c≠.own zz rs){k}(hd:∀ r o c,cellAt v.rows r o=some c->k∉deps ⟨⟨.slot d,[]⟩,r,o⟩ c)(hu:Uses (F.put (some d) v) k):Uses F k:=by
 have slotd:∀ π rows,π≠[]->(F.put (some d) v).rowsAt ⟨.slot d,π⟩=some rows->False:=by
  intro π rows hπ e;by_cases hlt:d<F.slots.length
  . rw[zN hlt,qbi hv hπ]at e;cases e
  . simp[Fr.rowsAt,Fr.rows,Fr.put,hlt]at e
 rcases hu with⟨hr,hi⟩|⟨x,c,hx,hk⟩
 .
  by_cases hroot:k.root=.slot d
  .
   exfalso;have hp:k.path≠[]:=by
    rcases hi with hi|hi
    . exact hi
    . rw[hroot]at hi;simp[Root.boxed]at hi
   cases e:(F.put (some d) v).rowsAt k with
   |none=>simp[e]at hr
   |some rows=>exact slotd k.path rows hp (by rw[<- e];congr 1;cases k;simp_all)
  . rw[Yw hroot]at hr;exact .inl ⟨hr,hi⟩
 .
  by_cases hroot:x.key.root=.slot d
  .
   exfalso;by_cases hp:x.key.path=[]
   .
    have hxk:x.key=⟨.slot d,[]⟩:=by cases hkx:x.key;simp_all
    unfold Fr.get at hx;rw[hxk]at hx;by_cases hlt:d<F.slots.length
    . rw[zN hlt]at hx;have hx':cellAt v.rows x.r x.o=some c:=by simpa [getR]using hx
      refine hd _ _ _ hx' ?_;have:x=⟨⟨.slot d,[]⟩,x.r,x.o⟩:=by cases x;simp_all
      rw[<- this];exact hk
    . simp[Fr.rowsAt,Fr.rows,Fr.put,hlt]at hx
   . unfold Fr.get at hx;cases e:(F.put (some d) v).rowsAt x.key with
     |none=>simp[e]at hx
     |some rows=>exact slotd x.key.path rows hp (by rw[<- e];congr 1;cases hkx:x.key;simp_all)
  . refine .inr ⟨x,c,?_,hk⟩;unfold Fr.get at *;rw[Yw hroot]at hx;exact hx
theorem qc9 (F:Fr)(d)(v v'):(F.put (some d) v).put (some d) v'=F.put (some d) v':=by simp[Fr.put,List.set_set]
theorem Zn (f:Cell->Cell)(rows:List (List Cell)):(rows.map (·.map f)).map List.length=rows.map List.length:=by simp[Function.comp_def]
theorem qea {rows}(h:(rows.any (·.any qy))=false){r o c}(hc:cellAt rows r o=some c):qy c=false:=by obtain⟨row,h1,h2⟩:=qc.1 hc;rw[List.any_eq_false]at h;have:=h row (aN h1);simp only[Bool.not_eq_true,List.any_eq_false]at this;simpa using this c (aN h2)
theorem qvc {c}:Seen c↔qy c=false:=by cases c<;>simp[Seen,qy]
theorem qY.mv {G}(K)(Y):∀ {l:List Cell} {vs:List Value},qY G l vs->qY (G.mv K Y) l vs
 |[],[],_=>trivial
 |c::l,v::vs,⟨h1,h2⟩=>by
  refine⟨?_,h2.mv K Y⟩;cases c with
  |ptr q=>obtain⟨a,b,x,c1,c2⟩:=h1;exact⟨a,b,x,by rw[qaF b];exact c1,c2⟩
  |val u=>exact h1
  |_=>exact h1.elim
 |[],_::_,h=>h.elim
 |_::_,[],h=>h.elim
theorem Hold.still {G w F c v}(h:Hold G w F none c v)(K Y)(p):Sh (G.mv K Y) w p c v:=by
 obtain⟨h1,h2,h3,h4,h5⟩:=h;have hs:=h5 p;cases c with
 |own zz rows=>exact absurd rfl (h1.1 _ rows)
 |mp es=>exact absurd rfl (h1.2 es)
 |ref q=>exact absurd rfl (h3 q)
 |ptr q=>obtain⟨a,x,b,c⟩:=hs;exact⟨a,x,by rw[qaF (h4 q rfl)];exact b,c⟩
 |clo f fs cs=>obtain⟨vs,us,a,b,c⟩:=hs;exact⟨vs,us,a,b.mv K Y,c.mv K Y⟩
 |_=>exact hs
def zg (rows:List (List Cell))(X:Nat->Nat->Option (Option Pl))(r o:Nat):Option (Option Pl):=
 match cellAt rows r o with
 |some c=>if qy c then X r o else none
 |none=>none
theorem qfY {rows X}(hX:∀ r o s,zg rows X r o=some (some s)->∃ k a b,s=⟨⟨.slot k,[]⟩,a,b⟩)(hd:∀ r o r' o' s,zg rows X r o=some (some s)->zg rows X r' o'=some (some s)->r=r'/\o=o'):Inj (zg rows X):=by intro r o r' o' x x' π π' h1 h2 e;obtain⟨k,a,b,rfl⟩:=hX _ _ _ h1;obtain⟨k',a',b',rfl⟩:=hX _ _ _ h2;simp only[Pl.under,List.nil_append,Key.mk.injEq,Root.slot.injEq,List.cons.injEq,ai]at e;obtain⟨rfl,⟨rfl,rfl⟩,rfl⟩:=e;obtain⟨e1,e2⟩:=hd _ _ _ _ _ h1 h2;exact⟨e1,e2,rfl⟩
theorem qgw {G w F ts}(h:RelF G w F ts){d v V}(X)(hs:QO v.tag (v.rows.map List.length) V)(hc:∀ r o c,cellAt v.rows r o=some c->∃ u,qX v.tag V r o=some u/\(c=.dead\/∃ x,X r o=some x/\Hold G w F x c u))(hd:∀ r o r' o' s,zg v.rows X r o=some (some s)->zg v.rows X r' o'=some (some s)->r=r'/\o=o'):
  ∃ G',RelF G' w (F.putS (some d) v) (ts.setIfInBounds d V)/\Gain G w G' w:=by
 unfold Fr.putS;simp only;by_cases ha:(v.rows.any (·.any qy))=true
 .
  rw[aF ha];have h1:=h.mapC (qP (.slot d))
  let vd:AV:=⟨v.tag,v.rows.map (·.map fun _=>.dead)⟩
  have vdc:∀ r o c,cellAt vd.rows r o=some c->c=.dead/\∃ c0,cellAt v.rows r o=some c0:=fun r o c e=>by obtain⟨c0,hc0,e⟩:=zH e;exact⟨e,c0,hc0⟩
  have h2:RelF G w ((F.killR (.slot d)).put (some d) vd) (ts.setIfInBounds d V):=by
   refine h1.put_flat ⟨by rw[Zn];exact hs,fun r o c e=>?_⟩ (fun r o c zz rs e=>by rw[(vdc r o c e).1];simp)
   obtain⟨rfl,c0,hc0⟩:=vdc r o c e;obtain⟨u,hu,_⟩:=hc r o c0 hc0;exact⟨u,hu,.inl rfl⟩
  have hsrc:∀ r o s,zg v.rows X r o=some (some s)->∃ c u,cellAt v.rows r o=some c/\qX v.tag V r o=some u/\Hold G w F (some s) c u:=by
   intro r o s e;unfold zg at e;cases hcell:cellAt v.rows r o with
   |none=>simp[hcell]at e
   |some c=>
    simp only[hcell]at e;split at e
    . rename_i ho;obtain⟨u,hu,hx⟩:=hc r o c hcell;rcases hx with rfl|⟨x,hx,hh⟩
      . simp[qy]at ho
      . rw[hx]at e;cases e;exact⟨c,u,rfl,hu,hh⟩
    . cases e
  have hinj:Inj (zg v.rows X):=qfY (fun r o s e=>by obtain⟨c,u,_,_,hh⟩:=hsrc r o s e;exact hh.1) hd;have fre:∀ π,π≠[]->¬ Uses ((F.killR (.slot d)).put (some d) vd) ⟨.slot d,π⟩:=fun π hπ=>vQ h hπ (fun r o c zz rs es e=>by rw[(vdc r o c e).1];simp) (fun r o c e k hk=>by rw[(vdc r o c e).1]at hk;simp[deps]at hk);have h3:=h2.mv ⟨.slot d,[]⟩ hinj (fun r o π _=>fre _ (by simp)) (fun r o s π e hu=>by obtain⟨c,u,_,_,hh⟩:=hsrc r o s e;have hu1:=Uses.put (fun r o c zz rs e=>by rw[(vdc r o c e).1];simp) (fun r o c e=>by rw[(vdc r o c e).1];simp[deps]) hu;exact hh.2.2.2.2 π ((Weak.mapC (qP (.slot d)) F).uses hu1));have qwI:∀ r o c,cellAt v.rows r o=some c->∃ u,qX v.tag V r o=some u/\(c=.dead\/Sh (G.mv ⟨.slot d,[]⟩ (zg v.rows X)) w ⟨⟨.slot d,[]⟩,r,o⟩ c u):=by
   intro r o c e;obtain⟨u,hu,hx⟩:=hc r o c e;refine⟨u,hu,?_⟩;rcases hx with rfl|⟨x,hx,hh⟩
   . exact .inl rfl
   .
    right;cases x with
    |none=>exact hh.still _ _ _
    |some s=>
     have hsr:zg v.rows X r o=some (some s):=by
      unfold zg;simp only[e];rw[aF,hx];cases hoc:qy c with
      |true=>rfl
      |false=>exact absurd (qvc.2 hoc) hh.2.1
     exact hh.2.2.1.mv hsr hh.2.1
  refine⟨_,?_,Gain.mv ⟨.slot d,[]⟩ (zg v.rows X)⟩;have h4:=h3.put (d:=d) (v:=v) (V:=V) ⟨hs,qwI⟩ (fun π rows hπ e=>?_)
  . rw[qc9]at h4;simpa using h4
  .
   cases π with
   |nil=>exact absurd rfl hπ
   |cons y π=>
    obtain⟨r,o⟩:=y;simp only[getR]at e;cases hcell:cellAt v.rows r o with
    |none=>simp[hcell]at e
    |some c=>
     cases c with
     |own zz rs=>
      simp only[hcell]at e;obtain⟨u,hu,hx⟩:=hc r o _ hcell;rcases hx with hx|⟨x,hx,hh⟩
      . cases hx
      . cases x with
        |none=>exact absurd rfl (hh.1.1 _ rs)
        |some s=>
         have hsr:zg v.rows X r o=some (some s):=by unfold zg;simp only[hcell];have:qy (.own zz rs)=true:=rfl;rw[aF this,hx]
         exact(hh.2.2.2.1.mv hsr) π rows e
     |_=>simp[hcell]at e
 .
  have ha':(v.rows.any (·.any qy))=false:=by simpa using ha
  rw[aG ha];refine⟨G,h.put_flat ⟨hs,fun r o c e=>?_⟩ (fun r o c zz rs e hco=>?_),Gain.refl G w⟩
  .
   obtain⟨u,hu,hx⟩:=hc r o c e;refine⟨u,hu,?_⟩;rcases hx with rfl|⟨x,hx,hh⟩
   . exact .inl rfl
   . right;cases x with
     |none=>exact hh.2.2.2.2 _
     |some s=>exact absurd (qvc.2 (qea ha' e)) hh.2.1
  . have:=qea ha' e;rw[hco]at this;simp[qy]at this
end
section
variable [Glob]
theorem qad (r r')(bs):(qgl r bs).lookup r'=if r'=r then none else bs.lookup r':=by
 induction bs with
 |nil=>simp[qgl]
 |cons x bs ih=>
  obtain⟨r0,l0⟩:=x;simp only[qgl];by_cases h0:r0=r
  .
   subst h0;rw[aF rfl,ih];by_cases h:r'=r0
   . rw[aF h,aF h]
   . have:(r'==r0)=false:=by simpa using h
     rw[aG h,aG h,List.lookup_cons,this]
  .
   rw[aG h0,List.lookup_cons,List.lookup_cons,ih];by_cases h:r'=r0
   . subst h;simp[h0]
   . have:(r'==r0)=false:=by simpa using h
     simp[this]
theorem RelF.drop {G w F ts}(h:RelF G w F ts)(d):RelF { G with lv:=fun k=>G.lv k/\k≠d } w (F.drop (.loc d)) ts:=by
 have hl:∀ r,((F.drop (.loc d)).boxes.lookup r)=if r=.loc d then none else(F.boxes.lookup r).map (·.map (zn (.loc d))):=by intro r;simp only[Fr.drop,Fr.mapC,qH,qad];split<;>rfl
 have hw:Weak F (F.drop (.loc d)):=by
  have h0:=Weak.mapC (yN (.loc d)) F;refine⟨by simp[Fr.drop,Fr.mapC],fun k v' e=>h0.slot k v' e,fun r l' e=>?_⟩;rw[hl]at e;split at e
  . cases e
  . exact h0.box r l' (by simpa [Fr.mapC,qH]using e)
 refine h.weak hw _ (fun k hk=>⟨hk.1,?_⟩) (fun k hk=>?_) (fun x c e=>?_)
 . rw[hl,aG (by simpa using hk.2)];simpa using h.live k hk.1
 .
  rw[hl]at hk;split at hk
  . cases hk
  . rename_i hne;cases hb:F.boxes.lookup (.loc k)with
    |none=>simp[hb]at hk
    |some l=>exact⟨(h.boxes _ _ hb).2,by simpa using hne⟩
 .
  rcases hw.get e with rfl|e'
  . exact⟨fun q h=>(by rcases h with h|h<;>cases h),fun f fs cs q h=>(by cases h)⟩
  .
   have ok:=h.okPtr e'
   -- the cell was turned by zn,or lies in an array
   have top:x.key.path=[]->zn (.loc d) c=c:=by
    intro hp;have hroot:x.key.root≠.loc d:=by
     intro hr;unfold Fr.get at e;have:x.key=⟨.loc d,[]⟩:=by cases hk:x.key;simp_all
     rw[this]at e;simp[Fr.rowsAt,Fr.rows,hl]at e
    have:(F.drop (.loc d)).get x=(F.mapC (zn (.loc d))).get x:=by
     unfold Fr.get;congr 1;unfold Fr.rowsAt;congr 1;cases hr:x.key.root with
     |slot k=>rfl
     |_=>simp only[Fr.rows,hl,Fr.mapC,qH];rw[aG (by rw[<- hr];exact hroot)]
    rw[this,qaH F _ hp,e']at e;simpa using e
   by_cases hp:x.key.path=[]
   .
    have ht:=top hp;refine⟨fun q hq=>?_,fun f fs cs q hc hm=>?_⟩
    .
     have o:=ok.1 q hq;have:q.key.root≠.loc d:=by
      rcases hq with rfl|rfl
      . simp only[zn]at ht;split at ht
        . cases ht
        . assumption
      . simp only[zn]at ht;split at ht
        . cases ht
        . assumption
     cases hr:q.key.root<;>rw[hr]at o<;>first|trivial|(refine⟨o,?_⟩;rw[hr]at this;simpa using this)
    . have o:=ok.2 f fs cs q hc hm;have:q.key.root≠.loc d:=by
       subst hc;simp only[zn]at ht;split at ht
       . cases ht
       . rename_i hn;intro hr;apply hn;rw[List.any_eq_true];exact⟨_,hm,by simpa using hr⟩
      cases hr:q.key.root<;>rw[hr]at o<;>first|trivial|(refine⟨o,?_⟩;rw[hr]at this;simpa using this)
   . have:=h.pure e' hp;refine⟨fun q hq=>?_,fun f fs cs q hc _=>?_⟩
     . rcases hq with rfl|rfl<;>simp[qw]at this
     . subst hc;simp[qw]at this
theorem qgb {G w F ts}(h:RelF G w F ts){d}(hd:F.boxes.lookup (.loc d)=none)(π):¬ Uses F ⟨.loc d,π⟩:=by
 have hrow:∀ π,F.rowsAt ⟨.loc d,π⟩=none:=fun π=>by simp[Fr.rowsAt,Fr.rows,hd]
 have hlv:¬ G.lv d:=fun hl=>by have:=h.live d hl;rw[hd]at this;cases this
 rintro (⟨hr,_⟩|⟨x,c,hx,hk⟩)
 . rw[hrow]at hr;cases hr
 .
  have hroot:x.key.root≠.loc d:=by
   intro hr;unfold Fr.get at hx;have:x.key=⟨.loc d,x.key.path⟩:=by cases hk:x.key;simp_all
   rw[this,hrow]at hx;cases hx
  have ok:=h.okPtr hx;cases c with
  |own zz rows=>simp only[deps,aW]at hk;exact hroot (by have:=congrArg Key.root hk;simpa [Pl.toKey]using this.symm)
  |mp es=>simp only[deps,aW]at hk;exact hroot (by have:=congrArg Key.root hk;simpa [Pl.toKey]using this.symm)
  |ref q=>
   simp only[deps,aW]at hk;have o:=ok.1 q (.inr rfl);have:q.key.root=.loc d:=by have:=congrArg Key.root hk;simpa [Pl.toKey]using this.symm
   rw[this]at o;exact hlv o
  |ptr q=>simp only[deps,aW]at hk;have o:=ok.1 q (.inl rfl);rw[<- hk]at o;exact hlv o
  |clo f fs cs=>simp only[deps,List.mem_filterMap]at hk;obtain⟨c',hm,e⟩:=hk;cases c'<;>simp at e;rename_i q;have o:=ok.2 f fs cs q rfl hm;rw[e]at o;exact hlv o
  |_=>simp[deps]at hk
theorem qY.up {G G'}(hγ:∀ k,k.path=[]->(∀ d,k.root=.loc d->G.lv d)->G'.γ k=G.γ k)(hok:∀ r,G.ok r->G'.ok r):∀ {l:List Cell} {vs:List Value},qY G l vs->qY G' l vs
 |[],[],_=>trivial
 |c::l,v::vs,⟨h1,h2⟩=>by
  refine⟨?_,h2.up hγ hok⟩;cases c with
  |ptr q=>obtain⟨a,b,x,c1,c2⟩:=h1;exact⟨hok _ a,b,x,by rw[hγ _ b (fun d hd=>by rw[hd]at a;exact a)];exact c1,c2⟩
  |val u=>exact h1
  |_=>exact h1.elim
 |[],_::_,h=>h.elim
 |_::_,[],h=>h.elim
theorem qmQ {G w F ts}(h:RelF G w F ts){d}(hd:F.boxes.lookup (.loc d)=none){l us}(T X)(hl:us.size=l.length)(hc:∀ (o:Nat) c,l[o]? = some c->∃ u,us[o]? = some u/\((c=.dead/\oneC u=true)\/∃ x,X 0 o=some x/\Hold G w F x c u))(hdis:∀ r o r' o' s,zg [l] X r o=some (some s)->zg [l] X r' o'=some (some s)->r=r'/\o=o'):
  ∃ G',RelF G' (w.alloc (.cells us T)) { F with boxes:=(.loc d,l)::F.boxes } ts/\Gain G w G' (w.alloc (.cells us T))/\G'.lv d /\
   ∃ x,G'.γ ⟨.loc d,[]⟩=some x/\x.b=w.heap.size/\x.isMap=false:=by
 have fre:=qgb h hd;have hsrc:∀ r o s,zg [l] X r o=some (some s)->r=0/\∃ c u,l[o]? = some c/\us[o]? = some u/\Hold G w F (some s) c u:=by
  intro r o s e;unfold zg at e;cases hcell:cellAt [l] r o with
  |none=>simp[hcell]at e
  |some c=>
   simp only[hcell]at e;obtain⟨rfl,hco⟩:=zI hcell;split at e
   . rename_i ho;obtain⟨u,hu,hx⟩:=hc o c hco;rcases hx with⟨rfl,_⟩|⟨x,hx,hh⟩
     . simp[qy]at ho
     . rw[hx]at e;cases e;exact⟨rfl,c,u,hco,hu,hh⟩
   . cases e
 have hinj:Inj (zg [l] X):=qfY (fun r o s e=>by obtain⟨_,c,u,_,_,hh⟩:=hsrc r o s e;exact hh.1) hdis
 let K:Key:=⟨.loc d,[]⟩
 let G1:=G.mv K (zg [l] X)
 have h1:RelF G1 w F ts:=h.mv K hinj (fun r o π _=>by simpa [Pl.under,K]using fre ((r,o)::π)) (fun r o s π e=>by obtain⟨_,c,u,_,_,hh⟩:=hsrc r o s e;exact hh.2.2.2.2 π)
 let x:Hd:=⟨w.heap.size,l.length,1,1,false⟩
 have h2:RelF (G1.add K x) (w.alloc (.cells us T)) F ts:=h1.add K x rfl _ (fre [])
 let G':Gh:={ G1.add K x with lv:=fun k=>G.lv k\/k=d }
 have hlv:¬ G.lv d:=fun hl=>by have:=h.live d hl;rw[hd]at this;cases this
 have hok:∀ r,(G1.add K x).ok r->G'.ok r:=fun r hr=>by
  cases r with
  |loc k=>exact .inl hr
  |_=>trivial
 have hok1:∀ r,G1.ok r->G'.ok r:=fun r hr=>by
  cases r with
  |loc k=>exact .inl hr
  |_=>trivial
 have γK:G'.γ K=some x:=by simp[G',Gh.add]
 have γo:∀ k,k≠K->G'.γ k=G1.γ k:=fun k hk=>by simp[G',Gh.add,hk]
 have hrow:∀ k,k.root≠.loc d->({ F with boxes:=(.loc d,l)::F.boxes }:Fr).rowsAt k=F.rowsAt k:=by
  intro k hk;unfold Fr.rowsAt;congr 1;cases hr:k.root with
  |slot j=>rfl
  |_=>
   have:(k.root==Root.loc d)=false:=by simpa using hk
   rw[hr]at this;simp only[Fr.rows,List.lookup_cons,this]
 have hrowd:∀ π,({ F with boxes:=(.loc d,l)::F.boxes }:Fr).rowsAt ⟨.loc d,π⟩=getR [l] π:=by intro π;simp[Fr.rowsAt,Fr.rows,List.lookup_cons]
 have treeOk:∀ o c s u,l[o]? = some c->X 0 o=some (some s)->Hold G w F (some s) c u->∀ rest rows,subR c rest=some rows->qU G' (w.alloc (.cells us T)) ((⟨K,0,o⟩:Pl).under rest) rows:=by
  intro o c s u hco hx hh rest rows e;have hsr:zg [l] X 0 o=some (some s):=by
   unfold zg;have:cellAt [l] 0 o=some c:=by simp[cellAt,hco]
   simp only[this];rw[aF,hx];cases hoc:qy c with
   |true=>rfl
   |false=>exact absurd (qvc.2 hoc) hh.2.1
  have tr:=(hh.2.2.2.1.mv hsr (K:=K)) rest rows e;have qzb:Same G1 w (w.alloc (.cells us T)):=Same.alloc h1.inv _;have hp:((⟨K,0,o⟩:Pl).under rest).path≠[]:=by simp[Pl.under]
  rcases(tr.same qzb).arr hp with⟨g1,g2,g3⟩|⟨y,vs,T',e1,e2,e3,e4,e5,e6,e7,e8,e9⟩
  . exact .inl (.inl ⟨by rw[γo _ (fun e=>hp (by rw[e]))];exact g1,g2,g3⟩)
  refine .inr ⟨y,vs,T',by rw[γo _ (fun e=>hp (by rw[e]))];exact e1,e2,e3,e4,e5,e6,e7,e8,fun r o' c' hc'=>?_⟩;obtain⟨u',hu',hs'⟩:=e9 r o' c' hc';refine⟨u',hu',Sh.ghost (G:=G1) (G':=G') rfl hok1 rfl (fun k hk=>?_) hs'⟩;have hpure:=(e8 hp).2 r o' c' hc';cases c'<;>simp[qw]at hpure<;>simp only[deps,List.not_mem_nil,aW]at hk;subst hk;exact γo _ (fun e=>by have:=congrArg Key.path e;simp[Pl.toKey,K]at this)
 refine⟨G',⟨⟨h2.inv.inj,h2.inv.lt,h2.inv.imlt,h2.inv.glob⟩,h2.size,fun k v e=>?_,fun r l' e=>?_,fun k hk=>?_,fun k rows e hi=>?_⟩,?_,.inr rfl,x,γK,rfl,rfl⟩
 . obtain⟨V,hV,hr⟩:=h2.slots k v e;exact⟨V,hV,hr.map fun r o c u hc hs=>Sh.ghost (G:=G1.add K x) (G':=G') rfl hok rfl (fun k' _=>rfl) hs⟩
 .
  simp only[List.lookup_cons]at e;split at e
  . rename_i hr;have:r=.loc d:=by simpa using hr
    subst this;exact⟨rfl,.inr rfl⟩
  . have:=h.boxes r l' e;exact⟨this.1,by cases r<;>first|trivial|exact .inl this.2⟩
 .
  simp only[List.lookup_cons];rcases hk with hk|rfl
  . split
    . rfl
    . exact h.live k hk
  . simp
 .
  by_cases hr:k.root=.loc d
  .
   obtain⟨r,π⟩:=k;simp only at hr;subst hr;rw[hrowd]at e;cases π with
   |nil=>
    simp only[getR,aa]at e;subst e;refine .inr ⟨x,us,T,γK,rfl,fun hi=>?_,?_,by simp[x],by simp[x,hl],by simp[x],fun hp=>absurd rfl hp,fun r o c hcell=>?_⟩
    . have:=h.inv.imlt _ hi;simp[x]at this
    . rw[heap_alloc,aF rfl]
    .
     obtain⟨rfl,hco⟩:=zI hcell;obtain⟨u,hu,hx⟩:=hc o c hco;refine⟨u,by simpa using hu,?_⟩;rcases hx with⟨rfl,hone⟩|⟨y,hy,hh⟩
     . exact hone
     .
      cases y with
      |none=>
       have hs:=hh.still K (zg [l] X) ⟨K,0,o⟩;have hs1:Sh G1 (w.alloc (.cells us T)) ⟨K,0,o⟩ c u:=hs.same (Same.alloc h1.inv _).m;refine Sh.ghost (G:=G1) (G':=G') rfl hok1 rfl (fun k hk=>γo k fun e=>?_) hs1;subst e
       -- a pointer to the box that wasn't there
       cases c with
       |ptr q=>simp only[deps,aW]at hk;have:=(hh.2.2.2.2 ⟨K,0,o⟩).1;rw[<- hk]at this;exact hlv this
       |clo f fs cs=>
        obtain⟨vs,us',_,e2,e3⟩:=hh.2.2.2.2 ⟨K,0,o⟩;have go:∀ (l:List Cell) (vs:List Value),qY G l vs->K∈l.filterMap (fun c=>match c with|.ptr q=>some q.key|_=>none)->False:=by
         intro l
         induction l with
         |nil=>intro vs _ hm;simp at hm
         |cons c l ih=>
          intro vs h hm;cases vs with
          |nil=>exact h.elim
          |cons v vs=>
           simp only[List.filterMap_cons]at hm;split at hm
           . exact ih vs h.2 hm
           . rename_i k0 hc;rcases List.mem_cons.1 hm with rfl|hm
             . cases c<;>simp at hc;have:=h.1.1;rw[hc]at this;exact hlv this
             . exact ih vs h.2 hm
        simp only[deps,List.filterMap_append,List.mem_append]at hk;rcases hk with hk|hk
        . exact go _ _ e2 hk
        . exact go _ _ e3 hk
       |ref q=>exact absurd rfl (hh.2.2.1 q)
       |own zz rows=>exact absurd rfl (hh.1.1 _ rows)
       |mp es=>exact absurd rfl (hh.1.2 es)
       |_=>simp[deps]at hk
      |some s=>
       have hsr:zg [l] X 0 o=some (some s):=by
        unfold zg;simp only[hcell];rw[aF,hy];cases hoc:qy c with
        |true=>rfl
        |false=>exact absurd (qvc.2 hoc) hh.2.1
       have hs:=(hh.2.2.1.mv hsr hh.2.1 (K:=K))
       have hs1:Sh G1 (w.alloc (.cells us T)) ⟨K,0,o⟩ c u:=hs.same (Same.alloc h1.inv _).m;refine Sh.ghost (G:=G1) (G':=G') rfl hok1 rfl (fun k hk=>γo k fun e=>?_) hs1;subst e;cases c with
       |own zz rows=>simp only[deps,aW]at hk;have:=congrArg Key.path hk;simp[Pl.toKey,K]at this
       |mp es=>simp only[deps,aW]at hk;have:=congrArg Key.path hk;simp[Pl.toKey,K]at this
       |_=>exact hh.2.1 (by constructor<;>intros<;>simp)
   |cons y π=>
    obtain⟨r,o⟩:=y;simp only[getR]at e;cases hcell:cellAt [l] r o with
    |none=>simp[hcell]at e
    |some c=>
     cases c with
     |own zz rs=>
      simp only[hcell]at e;obtain⟨rfl,hco⟩:=zI hcell;obtain⟨u,hu,hx⟩:=hc o _ hco;rcases hx with⟨hx,_⟩|⟨y,hy,hh⟩
      . cases hx
      . cases y with
        |none=>exact absurd rfl (hh.1.1 _ rs)
        |some s=>exact treeOk o _ s u hco hy hh π rows e
     |_=>simp[hcell]at e
  . rw[hrow k hr]at e;rcases h2.cont k rows e hi with hn|⟨y,vs,T',e1,e2,e3,e4,e5,e6,e7,e8,e9⟩
    . exact .inl hn
    exact .inr ⟨y,vs,T',e1,e2,e3,e4,e5,e6,e7,e8,fun r o c hc=>let ⟨u,hu,hs⟩:=e9 r o c hc;⟨u,hu,Sh.ghost (G:=G1.add K x) (G':=G') rfl hok rfl (fun k' _=>rfl) hs⟩⟩
 . have g1:=Gain.mv (G:=G) (w:=w) K (zg [l] X);have g2:Gain G1 w (G1.add K x) (w.alloc (.cells us T)):=Gain.alloc h1.inv K x rfl _ (by intro i;simp[K]) (by intro d' hd' hk;simp only[K,Key.mk.injEq,Root.loc.injEq,and_true]at hk;subst hk;have:=h.live d hd';rw[hd]at this;cases this) (fun _ _ _ e=>by cases e;rfl);have g3:Gain (G1.add K x) (w.alloc (.cells us T)) G' (w.alloc (.cells us T)):=⟨Nat.le_refl _,fun _ h=>h,fun _ _=>rfl,fun _ _ _=>⟨rfl,fun h=>h⟩,fun k y e=>.inl ⟨k,y,e,rfl⟩,fun _=>rfl,.refl _,fun _ h=>⟨.inl h,rfl⟩⟩
   exact(g1.trans g2).trans g3
theorem qCY {G w F ts}(h:RelF G w F ts){d}(hd:F.boxes.lookup (.loc d)=none):
  ∃ G',RelF G' (w.alloc (.map #[] 0)) { F with boxes:=(.loc d,[.mpb []])::F.boxes } ts/\Gain G w G' (w.alloc (.map #[] 0))/\G'.lv d /\
   ∃ x,G'.γ ⟨.loc d,[]⟩=some x/\x.b=w.heap.size/\x.isMap=true:=by
 have fre:=qgb h hd
 let K:Key:=⟨.loc d,[]⟩
 let x:Hd:=⟨w.heap.size,0,0,0,true⟩
 have h2:RelF (G.add K x) (w.alloc (.map #[] 0)) F ts:=h.add K x rfl _ (fre [])
 let G':Gh:={ G.add K x with lv:=fun k=>G.lv k\/k=d }
 have hok:∀ r,(G.add K x).ok r->G'.ok r:=fun r hr=>by
  cases r with
  |loc k=>exact .inl hr
  |_=>trivial
 have γK:G'.γ K=some x:=by simp[G',Gh.add]
 have hrow:∀ k,k.root≠.loc d->({ F with boxes:=(.loc d,[.mpb []])::F.boxes }:Fr).rowsAt k=F.rowsAt k:=by
  intro k hk;unfold Fr.rowsAt;congr 1;cases hr:k.root with
  |slot j=>rfl
  |_=>
   have:(k.root==Root.loc d)=false:=by simpa using hk
   rw[hr]at this;simp only[Fr.rows,List.lookup_cons,this]
 have hrowd:∀ π,({ F with boxes:=(.loc d,[.mpb []])::F.boxes }:Fr).rowsAt ⟨.loc d,π⟩=getR [[.mpb []]] π:=by intro π;simp[Fr.rowsAt,Fr.rows,List.lookup_cons]
 refine⟨G',?_,?_,.inr rfl,x,γK,rfl,rfl⟩
 .
  refine⟨⟨h2.inv.inj,h2.inv.lt,h2.inv.imlt,h2.inv.glob⟩,h2.size,fun k v e=>?_,fun r l' e=>?_,fun k hk=>?_,fun k rows e hi=>?_⟩
  . obtain⟨V,hV,hr⟩:=h2.slots k v e;exact⟨V,hV,hr.map fun _ _ _ _ _ hs=>Sh.ghost (G:=G.add K x) (G':=G') rfl hok rfl (fun _ _=>rfl) hs⟩
  .
   simp only[List.lookup_cons]at e;split at e
   . rename_i hr;have:r=.loc d:=by simpa using hr
     subst this;exact⟨rfl,.inr rfl⟩
   . have:=h.boxes r l' e;exact⟨this.1,by cases r<;>first|trivial|exact .inl this.2⟩
  .
   simp only[List.lookup_cons];rcases hk with hk|rfl
   . split
     . rfl
     . exact h.live k hk
   . simp
  .
   by_cases hr:k.root=.loc d
   .
    obtain⟨r,π⟩:=k;simp only at hr;subst hr;rw[hrowd]at e;cases π with
    |nil=>
     simp only[getR,aa]at e;subst e;refine .inl (.inr ⟨x,[],#[],0,rfl,rfl,γK,rfl,fun hi=>?_,?_,trivial⟩)
     . have:=h.inv.imlt _ hi;simp[x]at this
     . rw[heap_alloc,aF rfl]
    |cons y π=>
     obtain⟨r,o⟩:=y;simp only[getR]at e;cases hcell:cellAt [[Cell.mpb []]] r o with
     |none=>simp[hcell]at e
     |some c=>obtain⟨_,_,rfl⟩:=qww hcell;simp[hcell]at e
   . rw[hrow k hr]at e;rcases h2.cont k rows e hi with hn|⟨y,vs,T',e1,e2,e3,e4,e5,e6,e7,e8,e9⟩
     . exact .inl hn
     exact .inr ⟨y,vs,T',e1,e2,e3,e4,e5,e6,e7,e8,fun r o c hc=>let ⟨u,hu,hs⟩:=e9 r o c hc;⟨u,hu,Sh.ghost (G:=G.add K x) (G':=G') rfl hok rfl (fun k' _=>rfl) hs⟩⟩
 . have g2:Gain G w (G.add K x) (w.alloc (.map #[] 0)):=Gain.alloc h.inv K x rfl _ (by intro i;simp[K]) (by intro d' hd' hk;simp only[K,Key.mk.injEq,Root.loc.injEq,and_true]at hk;subst hk;have:=h.live d hd';rw[hd]at this;cases this) (fun _ _ _ e=>by cases e);have g3:Gain (G.add K x) (w.alloc (.map #[] 0)) G' (w.alloc (.map #[] 0)):=⟨Nat.le_refl _,fun _ h=>h,fun _ _=>rfl,fun _ _ _=>⟨rfl,fun h=>h⟩,fun k y e=>.inl ⟨k,y,e,rfl⟩,fun _=>rfl,.refl _,fun _ h=>⟨.inl h,rfl⟩⟩
   exact g2.trans g3
end
end Ab
end Go.Proofs.YtjnefcbeemkkeaaGreat
