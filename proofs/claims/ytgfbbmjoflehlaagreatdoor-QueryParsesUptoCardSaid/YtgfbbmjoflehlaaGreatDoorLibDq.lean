/-
  The interpreter of the model's code over values, and its soundness: part 4 of 5. No claim stands here.
-/
import Derived.Test.YtgfbbmjoflehlaaGreatDoorLibCq
set_option linter.all false
namespace Go.Proofs.YtgfbbmjoflehlaaGreatDoor
namespace Ab
noncomputable section
section
variable [Glob]
def qnG (cx:Cx)(F:Fr)(o:Oper)(c a b:Operand):Option AV:=match (F.ev c).con with
 |some (.bool t)=>some (if t then F.ev a else F.ev b)
 |_=>none
def qm1 (cx:Cx)(F:Fr)(o:Oper)(op:BinOp)(t:TypeId)(x y:Operand):Option AV:=match op,(F.ev x).con,(F.ev y).con with
 |.eql,some (.agg xs),some (.agg ys)=>if qL cx.P t then(qaK cx.P xs ys (match cx.P.underlying t with|some (.struct fs)=>fs.toList|_=>[])).map .bool else none
 |.neq,some (.agg xs),some (.agg ys)=>if qL cx.P t then(qaK cx.P xs ys (match cx.P.underlying t with|some (.struct fs)=>fs.toList|_=>[])).map fun b=>.bool (!b)else none
 |_,_,_=>yg cx F o
def qnr (cx:Cx)(F:Fr)(o:Oper)(t:TypeId)(a:Operand):Option AV:=match (F.ev a).cell,qQ cx.P t,zW cx.P t with
 |some c,some n,some g=>(F.loadL n c).bind (mkAV g)
 |_,_,_=>none
def qh5 (cx:Cx)(F:Fr)(o:Oper)(x:Operand):Option AV:=match (F.ev x).cell with
 |some (.ptr p)=>some (.c (.ptr p))
 |some (.cptr row o)=>some (.c (.cptr row o))
 |_=>none
def qgI (cx:Cx)(F:Fr)(o:Oper)(s:TypeId)(x:Operand)(f:Nat):Option AV:=match cx.P.underlying s,(F.ev x).cell with
 |some (.struct fields),some c=>match fields[f]? with
  |some fd=>match qQ cx.P fd.type with
   |some (_+1)=>(ZE fd.offset c).map .c
   |_=>none
  |none=>none
 |_,_=>none
def qgB (cx:Cx)(F:Fr)(o:Oper)(t:TypeId)(x i:Operand):Option AV:=match cx.P.underlying t,(F.ev x).cell,asInt (F.ev i)with
 |some (.slice elem),some (.imm rows),some n=>match rows[n.toNat]?,qQ cx.P elem with
  |some row,some sz=>if 0<=n&&row.length==sz then some (.c (.cptr row 0))else none
  |_,_=>none
 |some (.slice elem),some (.ref p),some n=>match F.get p,qQ cx.P elem with
  |some (.own zz rows),some sz=>if 0<=n&&n<rows.length&&zz==sz then some (.c (.ptr ⟨p.toKey,n.toNat,0⟩))else none
  |_,_=>none
 |some (.array len elem),some c,some n=>match qQ cx.P elem with
  |some sz=>if 0<=n/\n<len then(ZE (n.toNat*sz) c).map .c else none
  |none=>none
 |_,_,_=>none
def qmw (cx:Cx)(F:Fr)(o:Oper)(s:TypeId)(x:Operand)(f:Nat):Option AV:=match cx.P.underlying s,F.ev x with
 |some (.struct fields),⟨.agg,[l]⟩=>match fields[f]? with
  |some fd=>match qQ cx.P fd.type,zW cx.P fd.type with
   |some n,some g=>if fd.offset+n<=l.length then mkAV g ((l.drop fd.offset).take n)else none
   |_,_=>none
  |none=>none
 |_,_=>none
def qiR (cx:Cx)(F:Fr)(o:Oper)(x:Operand)(i:Nat):Option AV:=match F.ev x with
 |⟨.tup fl,rows⟩=>match fl[i]?,rows[i]? with
  |some g,some l=>mkAV g l
  |_,_=>none
 |_=>none
def qLen (cx:Cx)(F:Fr)(o:Oper)(args:Array Operand)(argTypes:Array TypeId):Option AV:=match args[0]?,argTypes[0]? with
 |some x,some t=>match cx.P.underlying t,(F.ev x).cell with
  |some (.slice _),some c=>(F.look c).map fun rows=>.int rows.length
  |_,_=>yg cx F o
 |_,_=>none
def qhW (cx:Cx)(F:Fr)(o:Oper)(f:Nat)(first caps:Array Operand):Option AV:=
 let fs:=first.toList.map fun x=>(F.ev x).cell
 let cs:=caps.toList.map fun x=>(F.ev x).cell
 let good:Option Cell->Bool:=fun c=>match c with
  |some (.ptr p)=>p.key.path.isEmpty
  |some (.val _)=>true
  |_=>false
 if fs.all good&&cs.all good then some (.c (.clo f (fs.map (·.getD .dead)) (cs.map (·.getD .dead))))else none
def xquiet (cx:Cx)(F:Fr)(o:Oper):Option AV:=match o.op with
 |.move x=>some (F.ev x)
 |.pick c a b=>qnG cx F o c a b
 |.binOp op t x y _=>qm1 cx F o op t x y
 |.unOp ..=>yg cx F o
 |.convert s t x=>XU cx F o s t x
 |.makeInterface ..=>yg cx F o
 |.typeAssert x _ t ok=>qbz cx F x t ok
 |.load t a=>qnr cx F o t a
 |.nilCheck x=>qh5 cx F o x
 |.fieldAddr s x f=>qgI cx F o s x f
 |.indexAddr t x i=>qgB cx F o t x i
 |.index ..=>yg cx F o
 |.field s x f=>qmw cx F o s x f
 |.extract x i=>qiR cx F o x i
 |.call { callee:=.builtin .len,args,argTypes }=>qLen cx F o args argTypes
 |.call { callee:=.builtin .max,.. }|.call { callee:=.builtin .min,.. }=>yg cx F o
 |.makeFunc (.func f) first caps=>qhW cx F o f first caps
 |_=>none
def qlj (cx:Cx)(F:Fr)(o:Oper)(x:Operand):Option Fr:=match (F.ev x).cell,o.dst with
 |some (.ref p),some d=>
  if p.key.root=.slot d then(if p=⟨⟨.slot d,[]⟩,0,0⟩then match F.slots[d]? with
    |some ⟨.one,[[c]]⟩=>if qy c then some F else none
    |_=>none
   else none)
  else if cx.temp p.key.root then match takeC cx F (.ref p)with
   |some (c,F')=>some (F'.putS (some d) (.c c))
   |none=>none
  else some (F.putS (some d) (.c (.ref p)))
 |some c,some d=>some (F.putS (some d) (.c c))
 |none,some d=>(Qb cx F (F.ev x)).map fun (v,F')=>F'.putS (some d) v
 |_,none=>none
def qlG (cx:Cx)(F:Fr)(o:Oper)(t:TypeId)(a x:Operand):Option Fr:=match o.dst,(F.ev a).cell,qQ cx.P t,Qb cx F (F.ev x)with
 |none,some (.ptr p),some n,some (v,F')=>match v.cells with
  |some l=>if l.length=n&&p.key.heap&&(p.key.path.isEmpty||l.all qw)then F'.setL p 0 l else none
  |none=>none
 |_,_,_,_=>none
def qmS (cx:Cx)(F:Fr)(o:Oper)(t:TypeId)(parts:Array (Nat×Operand)):Option Fr:=match XP cx.P t,placeOf cx.P t,ym cx F (parts.toList.map fun (i,x)=>(i,F.ev x))with
 |some l,some place,some (ps,F')=>(qbn place l ps).map fun l'=>F'.putS o.dst (.ag l')
 |_,_,_=>none
def qew (cx:Cx)(F:Fr)(o:Oper)(t:TypeId)(len:Nat)(parts:Array (Nat×Operand)):Option Fr:=match cx.P.underlying t with
 |some (.slice elem)=>match qQ cx.P elem,XP cx.P elem,ym cx F (parts.toList.map fun (i,x)=>(i,F.ev x))with
  | some sz,some zl,some (ps,F')=>if len*sz<=16777216&&0<sz then
    match qbn (fun i=>some (i*sz,sz)) (List.replicate len zl).flatten ps with
    |some l=>if l.all qw then some (F'.putS o.dst (.c (.own sz (chunk sz len l))))else none
    |none=>none
   else none
  |_,_,_=>none
 |_=>none
def qmF (cx:Cx)(F:Fr)(o:Oper)(t:TypeId)(x:Operand)(lo hi:Option Operand):Option Fr:=match cx.P.underlying t with
 |some (.slice elem)=>match frzC F (((F.ev x).cell).getD .dead),qQ cx.P elem with
  |some (rows,F'),some sz=>
   let l:=match lo with|some y=>asInt (F.ev y)|none=>some 0
   let h:=match hi with|some y=>asInt (F.ev y)|none=>some (rows.length:Int)
   match l,h with
   |some l,some h=>if 0<=l/\l<=h/\h<=rows.length/\(rows.head?.all (·.length==sz))then some (F'.putS o.dst (.c (.imm ((rows.take h.toNat).drop l.toNat))))else none
   |_,_=>none
  |_,_=>none
 |_=>(yg cx F o).map (F.putS o.dst)
def qk2 (cx:Cx)(F:Fr)(o:Oper)(args:Array Operand)(argTypes:Array TypeId):Option Fr:=match args.toList,argTypes.toList,o.dst with
 |[s,x],[t,t1],some d=>match cx.P.underlying t,srcU (cx.P.underlying t1),(F.ev s).cell,(F.ev x).cell with
  |some (.slice elem),some (.slice _),some .nil,some xc=>match cx.P.info? elem with
   |some i=>Yo cx F d elem i [] none xc
   |none=>none
  |some (.slice elem),some (.slice _),some (.ref p),some xc=>match F.get p,cx.P.info? elem,F.set p .dead with
   |some (.own zz rows),some i,some F1=>if zz=i.size then Yo cx (F1.kill p) d elem i rows (some p) xc else none
   |_,_,_=>none
  |_,_,_,_=>none
 |_,_,_=>none
def qjs (cx:Cx)(F:Fr)(o:Oper)(s t:TypeId)(x:Operand):Option Fr:=match cx.P.underlying s,cx.P.underlying t,(F.ev x).con with
 |some .string,some (.slice e),some (.string b)=>match cx.P.underlying e with
  |some (.int .u8)=>some (F.putS o.dst (.c (.imm (yH b))))
  |_=>none
 |_,_,_=>none
def xloud (cx:Cx)(F:Fr)(o:Oper):Option Fr:=match o.op with
 |.assign x=>qlj cx F o x
 |.alloc t=>match XP cx.P t with
  |some l=>qaN F o.dst l
  |none=>none
 |.box _ x=>match Qb cx F (F.ev x)with
  |some (v,F')=>v.cells.bind (qaN F' o.dst)
  |none=>none
 |.store t a x=>qlG cx F o t a x
 |.build t parts=>qmS cx F o t parts
 |.buildSlice t len parts=>qew cx F o t len parts
 |.convert s t x=>qjs cx F o s t x
 |.slice t x lo hi none=>qmF cx F o t x lo hi
 |.call { callee:=.builtin .append,args,argTypes }=>qk2 cx F o args argTypes
 |_=>none
theorem XZ (cx F)(o):xquiet cx F o=quiet cx F o:=by
 obtain⟨dst,op,ty,pos,after,guard⟩:=o;cases op with
 |call c=>
  obtain⟨callee,args,argTypes⟩:=c;cases callee with
  |builtin b=>cases b<;>rfl
  |_=>rfl
 |makeFunc f a b=>cases f<;>rfl
 |_=>rfl
theorem qjC (cx F)(o):xloud cx F o=loud cx F o:=by
 obtain⟨dst,op,ty,pos,after,guard⟩:=o;cases op with
 |call c=>
  obtain⟨callee,args,argTypes⟩:=c;cases callee with
  |builtin b=>cases b<;>rfl
  |_=>rfl
 |makeMap t r=>cases r<;>rfl
 |slice t x lo hi mx=>cases mx<;>rfl
 |_=>rfl
def qmR (F:Fr)(x:Operand):Option (Fr×Option Value):=match (F.ev x).con with
 |some (.iface t v)=>some (F,some (.iface t v))
 |_=>none
def qnq (cx:Cx)(rec:Oracle)(F:Fr)(o:Oper)(g:Operand)(args:Array Operand):Option (Fr×Option Value):=match (F.ev g).cell with
 |some (.clo f first caps)=>vZ cx rec F o.dst f (first.map .c++args.toList.map F.ev++caps.map .c)
 |_=>none
def qfW (cx:Cx)(rec:Oracle)(F:Fr)(o:Oper):Option (Fr×Option Value):=match o.op with
 |.panic x=>qmR F x
 |.call { callee:=.value g,args,.. }=>qnq cx rec F o g args
 |_=>match xloud cx F o with
  |some F'=>some (F',none)
  |none=>none
theorem qg2 (cx rec F o)(h:quiet cx F o=none):qfW cx rec F o=aop0 cx rec F o:=by
 obtain⟨dst,op,ty,pos,after,guard⟩:=o;unfold aop0;rw[h];simp only;rw[<- qjC];cases op with
 |call c=>
  obtain⟨callee,args,argTypes⟩:=c;cases callee with
  |value g=>rfl
  |builtin b=>simp only[qfW];split<;>simp_all
  |_=>rfl
 |panic x=>rfl
 |_=>simp only[qfW];split<;>simp_all
def qlq (cx:Cx)(rec:Oracle)(F:Fr)(o:Oper):Option (Fr×Option Value):=match xquiet cx F o with
 |some v=>some (F.putS o.dst v,none)
 |none=>qfW cx rec F o
theorem qiO (cx rec F)(o):qlq cx rec F o=aop0 cx rec F o:=by
 unfold qlq;rw[XZ];cases h:quiet cx F o with
 |none=>exact qg2 cx rec F o h
 |some v=>unfold aop0;rw[h]
def xaop (cx:Cx)(rec:Oracle)(F:Fr)(o:Oper):Option (Fr×Option Value):=match mvop cx F o with
 |some F'=>some (F',none)
 |none=>qlq cx rec F o
theorem qhC (cx rec F)(o):xaop cx rec F o=aop cx rec F o:=by unfold xaop aop;rw[qiO];rfl
end
section
variable [Glob]
def Xp (s:ByteArray)(n:Nat):Option Int:=(s[n]?).map fun b=>(b.toNat:Int)
theorem qj {α β P}(s)(f:α->Sem β):qo P (s >>= f)=(qo P s).bind fun a=>qo P (f a):=by
 show qo P (Sem.bind s f)=_
 induction s with
 |pure a=>rfl
 |program k ih=>exact ih P
 |mark m k ih=>exact ih
 |_=>rfl
theorem yo {P t u}(h:P.underlying t=some u):qo P (underlying t)=some u:=by unfold underlying;rw[qj];show(qo P (match P.underlying t with|some d=>pure d|none=>_))=_;rw[h];rfl
theorem xB {v n}(e:asInt v=some n):∃ k,v.con=some (.int k n):=by
 unfold asInt at e;split at e
 . rename_i k m h;simp only[aa]at e;subst e;exact⟨k,h⟩
 . cases e
theorem qhh {cx F dst t x i ty pos after g s n b}(hu:cx.P.underlying t=some .string)(hx:(F.ev x).con=some (.string s))(hi:asInt (F.ev i)=some n)(h0:0<=n)(hb:s[n.toNat]? = some b):
  yg cx F ⟨dst,.index t x i,ty,pos,after,g⟩=some (.c (.val (.int .u8 (b.toNat:Int)))):=by
 obtain⟨k,hk⟩:=xB hi;unfold yg;rw[aD (by simp[Op.operands,hx,hk])];have:qo cx.P (execOp (fun x=>((F.ev x).con).getD Go.undef) ⟨dst,.index t x i,ty,pos,after,g⟩)=some (.value (.int .u8 (b.toNat:Int))):=by simp only[execOp,hx,hk,Option.getD_some,Instr.index,qj,yo hu,ae,asIntOf];rw[show qo cx.P (pure (k,n):Sem (IntKind×Int))=some (k,n)from rfl,ae];simp only[aD h0,hb];rfl
 rw[this];rfl
theorem qcI {P t g}(h:zW P t=some g):qo P (isAgg t)=some g:=by
 unfold zW at h;cases hu:P.underlying t with
 |none=>simp[hu]at h
 |some u=>unfold isAgg;rw[qj,yo hu,ae];rw[hu]at h;cases u<;>simp only[aa]at h<;>subst h<;>rfl
theorem qbE {P t n}(h:qQ P t=some n):qo P (sizeOf t)=some n:=by unfold qQ at h;rw[aG]at h;obtain⟨i,hi,rfl⟩:=h;unfold sizeOf typeInfo;rw[qj,qj];show((qo P (match P.info? t with|some i=>pure i|none=>_)).bind _)=_;rw[hi];rfl
theorem qlm {cx F dst t el}{len:Nat}{x i ty pos after g cs n v}(hu:cx.P.underlying t=some (.array len el))(hz:qQ cx.P el=some 1)(hg:zW cx.P el=some false)(hx:(F.ev x).con=some (.agg cs))(hi:asInt (F.ev i)=some n)(h0:0<=n)(h1:n<len)(hb:cs.toList[n.toNat]? = some v):
  yg cx F ⟨dst,.index t x i,ty,pos,after,g⟩=some (yR v):=by
 obtain⟨k,hk⟩:=xB hi;unfold yg;rw[aD (by simp[Op.operands,hx,hk])];have hb':cs[n.toNat]? = some v:=by rw[<- hb,aQ]
 have:qo cx.P (execOp (fun x=>((F.ev x).con).getD Go.undef) ⟨dst,.index t x i,ty,pos,after,g⟩)=some (.value v):=by simp only[execOp,hx,hk,Option.getD_some,Instr.index,qj,yo hu,ae,asIntOf];rw[show qo cx.P (pure (k,n):Sem (IntKind×Int))=some (k,n)from rfl,ae];simp only[aD (show 0<=n/\n<(len:Int)from⟨h0,h1⟩),qj,qbE hz,ae,part,qcI hg,Nat.mul_one];simp only[aT,if_false,hb'];rfl
 rw[this]
theorem qkS {cx F dst t x y u ty pos after g s r}(hx:(F.ev x).con=some (.string s))(hy:(F.ev y).con=some (.string r))(h:s.size+r.size<=1000000000):
  yg cx F ⟨dst,.binOp .add t x y u,ty,pos,after,g⟩=some (.c (.val (.string (s++r)))):=by
 unfold yg;rw[aD (by simp[Op.operands,hx,hy])];have hn:¬ ((s.size+r.size:Nat):Int)>IntKind.i64.max:=by
  have:IntKind.i64.max=9223372036854775807:=by decide
  rw[this];omega
 have:qo cx.P (execOp (fun x=>((F.ev x).con).getD Go.undef) ⟨dst,.binOp .add t x y u,ty,pos,after,g⟩)=some (.value (.string (s++r))):=by simp only[execOp,hx,hy,Option.getD_some,qj];rw[show qo cx.P (eqGuard .add t x y (.string s) (.string r))=some ()from rfl,ae];rw[show binOp .add t (.string s) (.string r)=Op.stringOp .add s r from rfl];unfold Op.stringOp;simp only[aF hn];rfl
 rw[this];rfl
theorem qgh {P t s lo hi}{l h:Int}(hu:P.underlying t=some .string)(hl:match lo with|some v=>∃ k,v=.int k l|none=>l=0)(hh:match hi with|some v=>∃ k,v=.int k h|none=>h=s.size)(h0:0<=l/\l<=h/\h<=s.size):qo P (Instr.sliceAt t (.string s) lo hi none)=some (.string (s.extract l.toNat h.toNat)):=by
 obtain⟨q1,q2,q3⟩:=h0;have bnd:∀ (k:IntKind) (n:Int) (y:Nat) (code:BoundsCode),0<=n->n<=y->qo P (Instr.sliceBound (.int k n) y code)=some n.toNat:=fun k n y code h1 h2=>by unfold Instr.sliceBound;rw[qj,show qo P (asIntOf (.int k n))=some (k,n)from rfl,ae];simp only[aD (show 0<=n/\n<=(y:Int)from⟨h1,h2⟩)];rfl
 have hb:qo P (Instr.sliceBounds false s.size s.size lo hi none)=some (l.toNat,h.toNat,s.size):=by
  unfold Instr.sliceBounds;cases hi with
  |none=>
   simp only at hh;subst hh;cases lo with
   |none=>simp only at hl;subst hl;rfl
   |some v=>obtain⟨k,rfl⟩:=hl;show qo P (Instr.sliceBound (.int k l) s.size _ >>= fun l=>pure (l,s.size,s.size))=_;rw[qj,bnd k l s.size _ q1 (by omega)];rfl
  |some v=>
   obtain⟨k,rfl⟩:=hh;cases lo with
   |none=>simp only at hl;subst hl;show qo P (Instr.sliceBound (.int k h) s.size _ >>= fun h=>pure (0,h,s.size))=_;rw[qj,bnd k h s.size _ (by omega) q3];rfl
   |some v2=>obtain⟨k2,rfl⟩:=hl;show qo P (Instr.sliceBound (.int k h) s.size _ >>= fun h=>Instr.sliceBound (.int k2 l) h _ >>= fun l=>pure (l,h,s.size))=_;rw[qj,bnd k h s.size _ (by omega) q3,ae,qj,bnd k2 l h.toNat _ q1 (by omega)];rfl
 unfold Instr.sliceAt;rw[qj,yo hu,ae];unfold Instr.slice;simp only;rw[qj,yo hu,ae];simp only[Option.isSome_none,aT,if_false];refine Eq.trans (qj _ _) ?_;rw[hb];rfl
theorem qhf {cx F dst t x lo hi ty pos after g s}{l h:Int}(hu:cx.P.underlying t=some .string)(hx:(F.ev x).con=some (.string s))(hl:(match lo with|some y=>asInt (F.ev y)|none=>some 0)=some l)(hh:(match hi with|some y=>asInt (F.ev y)|none=>some (s.size:Int))=some h)(h0:0<=l/\l<=h/\h<=s.size):
  yg cx F ⟨dst,.slice t x lo hi none,ty,pos,after,g⟩=some (.c (.val (.string (s.extract l.toNat h.toNat)))):=by
 unfold yg;have hl':match lo.map (fun y=>((F.ev y).con).getD Go.undef)with|some v=>∃ k,v=.int k l|none=>l=0:=by
  cases lo with
  |none=>simpa using hl.symm
  |some y=>obtain⟨k,hk⟩:=xB hl;exact⟨k,by show((F.ev y).con).getD Go.undef=_;rw[hk];rfl⟩
 have hh':match hi.map (fun y=>((F.ev y).con).getD Go.undef)with|some v=>∃ k,v=.int k h|none=>h=s.size:=by
  cases hi with
  |none=>simpa using hh.symm
  |some y=>obtain⟨k,hk⟩:=xB hh;exact⟨k,by show((F.ev y).con).getD Go.undef=_;rw[hk];rfl⟩
 have hall:((Op.slice t x lo hi none).operands.toList.all fun x=>(F.ev x).con.isSome)=true:=by
  cases lo with
  |none=>cases hi with
   |none=>simp[Op.operands,hx]
   |some y=>obtain⟨k,hk⟩:=xB hh;simp[Op.operands,hx,hk]
  |some z=>
   obtain⟨k1,hk1⟩:=xB hl;cases hi with
   |none=>simp[Op.operands,hx,hk1]
   |some y=>obtain⟨k,hk⟩:=xB hh;simp[Op.operands,hx,hk,hk1]
 rw[aD hall];have:qo cx.P (execOp (fun x=>((F.ev x).con).getD Go.undef) ⟨dst,.slice t x lo hi none,ty,pos,after,g⟩)=some (.value (.string (s.extract l.toNat h.toNat))):=by simp only[execOp,hx,Option.getD_some,qj,Option.map_none];rw[qgh hu hl' hh' h0];rfl
 rw[this];rfl
theorem qhd {cx F dst op t x y u ty pos after g k a b v}(hop:(op=.quo/\v=.int k (k.wrap (a.tdiv b)))\/(op=.rem/\v=.int k (a.tmod b)))(hx:(F.ev x).con=some (.int k a))(hy:(F.ev y).con=some (.int k b))(h:b≠0):
  yg cx F ⟨dst,.binOp op t x y u,ty,pos,after,g⟩=some (.c (.val v)):=by
 unfold yg;rw[aD (by simp[Op.operands,hx,hy])];have:qo cx.P (execOp (fun x=>((F.ev x).con).getD Go.undef) ⟨dst,.binOp op t x y u,ty,pos,after,g⟩)=some (.value v):=by
  rcases hop with⟨rfl,rfl⟩|⟨rfl,rfl⟩
  . simp only[execOp,hx,hy,Option.getD_some,qj];rw[show qo cx.P (eqGuard .quo t x y (Value.int k a) (Value.int k b))=some ()from rfl,ae];rw[show Go.binOp .quo t (Value.int k a) (Value.int k b)=(if k≠k then stuck "BinOp: operands of different kinds" else Op.intDiv .quo k a b)from rfl,aF (by simp)]
    unfold Op.intDiv;simp only[aF h];rfl
  . simp only[execOp,hx,hy,Option.getD_some,qj];rw[show qo cx.P (eqGuard .rem t x y (Value.int k a) (Value.int k b))=some ()from rfl,ae];rw[show Go.binOp .rem t (Value.int k a) (Value.int k b)=(if k≠k then stuck "BinOp: operands of different kinds" else Op.intDiv .rem k a b)from rfl,aF (by simp)]
    unfold Op.intDiv;simp only[aF h];rfl
 rw[this];cases hop<;>(rename_i h;obtain⟨_,rfl⟩:=h;rfl)
theorem qkx {cx F dst op t x y u ty pos after g k k' a b v}(hop:(op=.shl/\v=.int k (k.wrap (a*2 ^ (min b.toNat k.bits))))\/(op=.shr/\v=.int k (a.fdiv (2 ^ (min b.toNat k.bits)))))(hx:(F.ev x).con=some (.int k a))(hy:(F.ev y).con=some (.int k' b))(h:0<=b):
  yg cx F ⟨dst,.binOp op t x y u,ty,pos,after,g⟩=some (.c (.val v)):=by
 unfold yg;rw[aD (by simp[Op.operands,hx,hy])];have h':¬ b<0:=by omega
 have:qo cx.P (execOp (fun x=>((F.ev x).con).getD Go.undef) ⟨dst,.binOp op t x y u,ty,pos,after,g⟩)=some (.value v):=by
  rcases hop with⟨rfl,rfl⟩|⟨rfl,rfl⟩
  . simp only[execOp,hx,hy,Option.getD_some,qj];rw[show qo cx.P (eqGuard .shl t x y (Value.int k a) (Value.int k' b))=some ()from rfl,ae];rw[show Go.binOp .shl t (Value.int k a) (Value.int k' b)=Op.shift .shl k a k' b from rfl];unfold Op.shift;simp only[aF h'];rfl
  . simp only[execOp,hx,hy,Option.getD_some,qj];rw[show qo cx.P (eqGuard .shr t x y (Value.int k a) (Value.int k' b))=some ()from rfl,ae];rw[show Go.binOp .shr t (Value.int k a) (Value.int k' b)=Op.shift .shr k a k' b from rfl];unfold Op.shift;simp only[aF h'];rfl
 rw[this];cases hop<;>(rename_i h;obtain⟨_,rfl⟩:=h;rfl)
end
section
variable [Glob]
def qkk {α:Type}(p:Pl)(k:Pl->α):α:=match p with|⟨⟨r,π⟩,a,b⟩=>k ⟨⟨r,π⟩,a,b⟩
def qfw {α:Type}(c:Cell)(k:Cell->α):α:=match c with
 |.val v=>k (.val v)|.nil=>k .nil|.imm r=>k (.imm r)|.own z r=>k (.own z r)|.mp e=>k (.mp e)
 |.ptr p=>qkk p fun p=>k (.ptr p)|.cptr r o=>k (.cptr r o)|.ref p=>qkk p fun p=>k (.ref p)|.clo f a b=>k (.clo f a b)|.dead=>k .dead
def qdI {α:Type}:List Cell->(List Cell->α)->α
 |[],k=>k []
 |c::l,k=>qfw c fun c=>qdI l fun l=>k (c::l)
def qcM {α:Type}:List (List Cell)->(List (List Cell)->α)->α
 |[],k=>k []
 |r::l,k=>qdI r fun r=>qcM l fun l=>k (r::l)
def qjP {α:Type}(t:Tag)(k:Tag->α):α:=match t with|.one=>k .one|.agg=>k .agg|.tup l=>k (.tup l)
def qff {α:Type}(v:AV)(k:AV->α):α:=match v with|⟨t,rows⟩=>qjP t fun t=>qcM rows fun rows=>k ⟨t,rows⟩
def qcB {α:Type}:List AV->(List AV->α)->α
 |[],k=>k []
 |v::l,k=>qff v fun v=>qcB l fun l=>k (v::l)
def QA {α:Type}:List (Root×List Cell)->(List (Root×List Cell)->α)->α
 |[],k=>k []
 |(r,b)::l,k=>qdI b fun b=>QA l fun l=>k ((r,b)::l)
def qdU {α:Type}(F:Fr)(k:Fr->α):α:=match F with|⟨s,b⟩=>qcB s fun s=>QA b fun b=>k ⟨s,b⟩
theorem qdx {α}(c)(k:Cell->α):qfw c k=k c:=by cases c<;>rfl
theorem qbd {α}:∀ (l:List Cell) (k:List Cell->α),qdI l k=k l
 |[],_=>rfl
 |c::l,k=>by simp only[qdI,qdx,qbd l]
theorem qbP {α}:∀ (l:List (List Cell)) (k:List (List Cell)->α),qcM l k=k l
 |[],_=>rfl
 |c::l,k=>by simp only[qcM,qbd,qbP l]
theorem qd7 {α}(v)(k:AV->α):qff v k=k v:=by obtain⟨t,rows⟩:=v;simp only[qff,qbP];cases t<;>rfl
theorem qb6 {α}:∀ (l:List AV) (k:List AV->α),qcB l k=k l
 |[],_=>rfl
 |c::l,k=>by simp only[qcB,qd7,qb6 l]
theorem Yv {α}:∀ (l:List (Root×List Cell)) (k:List (Root×List Cell)->α),QA l k=k l
 |[],_=>rfl
 |(r,b)::l,k=>by simp only[QA,qbd,Yv l]
theorem qa1 {α}(F)(k:Fr->α):qdU F k=k F:=by obtain⟨s,b⟩:=F;simp only[qdU,qb6,Yv]
def XE {α β:Type}(f:α->(α->β)->β)(l:List α):(List α->β)->β:=List.rec (motive:=fun _=>(List α->β)->β) (fun k=>k []) (fun x _ ih k=>f x fun x=>ih fun l=>k (x::l)) l
theorem vU {α β f}(hf:∀ x k,f x k=k x):∀ (l:List α) (k:List α->β),XE f l k=k l
 |[],k=>rfl
 |x::l,k=>by show(f x fun x=>XE f l fun l=>k (x::l))=_;rw[hf,vU hf l]
theorem qfk {α:Type}:∀ {l:List α} {d:Nat} {v:α},l[d]? = some v->l.set d v=l
 |[],_,_,h=>by simp at h
 |x::l,0,v,h=>by simp at h;simp[h]
 |x::l,d+1,v,h=>by simp at h;simp[qfk h]
def natK {α:Type}(m:Nat)(k:Nat->α):α:=match m with|0=>k 0|m+1=>k (m+1)
theorem qlf {α}(m)(k:Nat->α):natK m k=k m:=by cases m<;>rfl
def qgQ {α:Type}(i:Info)(k:Info->α):α:=match i with|⟨w,r,s,c,a,b⟩=>natK a fun a=>natK b fun b=>k ⟨w,r,s,c,a,b⟩
theorem qhK {α}(i)(k:Info->α):qgQ i k=k i:=by simp only[qgQ,qlf]
def spF {α:Type}(d:Option Nat)(F:Fr)(k:Fr->α):α:=match F with
 |⟨s,b⟩=>QA b fun b=>match d with
  |none=>XE (fun x k=>k x) s fun s=>k ⟨s,b⟩
  |some d=>match s[d]? with
   |some v=>qff v fun v=>XE (fun x k=>k x) (s.set d v) fun s=>k ⟨s,b⟩
   |none=>XE (fun x k=>k x) s fun s=>k ⟨s,b⟩
theorem qiv {α}(d F)(k:Fr->α):spF d F k=k F:=by
 obtain⟨s,b⟩:=F;simp only[spF,Yv];cases d with
 |none=>exact vU (fun _ _=>rfl) s _
 |some d=>
  simp only;cases h:s[d]? with
  |none=>exact vU (fun _ _=>rfl) s _
  |some v=>simp only[qd7];rw[vU (fun _ _=>rfl),qfk h]
inductive Adv where
 |test (r:Bool)
 |row (row:List Cell)
 |bnd
 |ld (row:List Cell)
 |st
 |ok
 |okE (e:Bool)
 |okO (rows:List (List Cell)) (e:Bool)
 |call (res:ARes) (bx:List (List Cell)) (thaw:Bool)
 |alt (p q:Nat)
 |pan (q:Nat)
 |sidx (c:Int)
 |aix (v:Value)
 |scat
 |ssl
 |qr
abbrev Advs:=List (Option Nat×Adv)
def tquiet (cx:Cx)(F:Fr)(o:Oper):Adv->Option (AV×List Prop)
 |.test r=>match xquiet cx F o with
  |some ⟨.one,[[.val (.bool b)]]⟩=>some (.bool r,[b=r])
  |_=>none
 |.row row=>match o.op with
  |.indexAddr t x i=>match cx.P.underlying t,(F.ev x).cell,asInt (F.ev i)with
   |some (.slice elem),some (.imm rows),some n=>match qQ cx.P elem with
    |some sz=>some (.c (.cptr row 0),[0<=n/\rows[n.toNat]? = some row/\row.length=sz])
    |none=>none
   |_,_,_=>none
  |_=>none
 |.bnd=>match o.op with
  |.indexAddr t x i=>match cx.P.underlying t,(F.ev x).cell,asInt (F.ev i)with
   |some (.slice elem),some (.ref p),some n=>match F.get p,qQ cx.P elem with
    |some (.own zz rows),some sz=>if zz=sz then some (.c (.ptr ⟨p.toKey,n.toNat,0⟩),[0<=n/\n<rows.length])else none
    |_,_=>none
   |_,_,_=>none
  |_=>none
 |.ld row=>match o.op with
  |.load t a=>match (F.ev a).cell,qQ cx.P t,zW cx.P t with
   | some (.ptr p),some n,some g=>if p.key.heap&&decide (p.o+n<=row.length)then match F.rowsAt p.key,mkAV g (xA p.key p.r p.o ((row.drop p.o).take n))with
     |some rows,some v=>some (v,[rows[p.r]? = some row])
     |_,_=>none
    else none
   |_,_,_=>none
  |_=>none
 |.sidx c=>match o.op with
  |.index t x i=>match cx.P.underlying t,(F.ev x).con,asInt (F.ev i)with
   |some .string,some (.string s),some n=>some (.c (.val (.int .u8 c)),[0<=n/\Xp s n.toNat=some c])
   |_,_,_=>none
  |_=>none
 |.aix v=>match o.op with
  |.index t x i=>match cx.P.underlying t,(F.ev x).con,asInt (F.ev i)with
   |some (.array len el),some (.agg cs),some n=>if qQ cx.P el=some 1/\zW cx.P el=some false then some (yR v,[0<=n/\n<(len:Int)/\cs.toList[n.toNat]? = some v])else none
   |_,_,_=>none
  |_=>none
 |.qr=>match o.op with
  |.binOp .quo _ x y _=>match (F.ev x).con,(F.ev y).con with
   |some (.int k a),some (.int k' b)=>if k=k' then some (.c (.val (.int k (k.wrap (a.tdiv b)))),[b≠0])else none
   |_,_=>none
  |.binOp .rem _ x y _=>match (F.ev x).con,(F.ev y).con with
   |some (.int k a),some (.int k' b)=>if k=k' then some (.c (.val (.int k (a.tmod b))),[b≠0])else none
   |_,_=>none
  |.binOp .shl _ x y _=>match (F.ev x).con,(F.ev y).con with
   |some (.int k a),some (.int _ b)=>some (.c (.val (.int k (k.wrap (a*2 ^ (min b.toNat k.bits))))),[0<=b])
   |_,_=>none
  |.binOp .shr _ x y _=>match (F.ev x).con,(F.ev y).con with
   |some (.int k a),some (.int _ b)=>some (.c (.val (.int k (a.fdiv (2 ^ (min b.toNat k.bits))))),[0<=b])
   |_,_=>none
  |_=>none
 |.scat=>match o.op with
  |.binOp .add _ x y _=>match (F.ev x).con,(F.ev y).con with
   |some (.string s),some (.string r)=>some (.c (.val (.string (s++r))),[s.size+r.size<=1000000000])
   |_,_=>none
  |_=>none
 |_=>none
def tset (F:Fr)(p:Pl)(c:Cell):Option (Fr×Prop):=match F.rows p.key.root,F.rowsAt p.key with
 |some rows,some rs=>match updR (fun _=>some (setRow rs p.r p.o c)) rows p.key.path with
  |some rows'=>some (F.setRows p.key.root rows',∃ c0,cellAt rs p.r p.o=some c0)
  |none=>none
 |_,_=>none
def qf5 (F:Fr)(p:Pl):Nat->List Cell->Option (Fr×List Prop)
 |_,[]=>some (F,[])
 |j,c::l=>match tset (if qy c then F.kill { p with o:=p.o+j }else F) { p with o:=p.o+j } c with
  |some (F',q)=>match qf5 F' p (j+1) l with
   |some (F'',qs)=>some (F'',q::qs)
   |none=>none
  |none=>none
def qcb (i:TypeInfo)(zl:Bool)(rows more:List (List Cell))(p:Option Pl)(xc:Cell):Bool:=(rows.length+more.length)*i.bytes<=140737488355328&&rows.length+more.length<=lim&&0<i.size&&zl&&more.head?.all (·.length==i.size)&&qg3 p xc
def tappend (cx:Cx)(F:Fr)(d:Nat)(elem:TypeId)(i:TypeInfo)(rows:List (List Cell))(p:Option Pl)(xc:Cell)(e:Bool):Option (Fr×List Prop):=match takeC cx F xc with
 |some (c,F2)=>match QM c with
  |some more=>some (F2.putS (some d) (.c (if p.isNone&&e then .nil else .own i.size (rows++more))),[qcb i (XP cx.P elem).isSome rows more p xc=true/\(p.isNone=true->more.isEmpty=e)])
  |none=>none
 |none=>none
def Fr.dropS (F:Fr)(k:Nat):Fr:={ F with slots:=F.slots.set k .deadv }
def tloud (cx:Cx)(F:Fr)(o:Oper):Adv->Option (Fr×List Prop)
 |.st=>match o.op with
  |.store t a x=>match o.dst,(F.ev a).cell,qQ cx.P t,Qb cx F (F.ev x)with
   |none,some (.ptr p),some n,some (v,F')=>match v.cells with
    |some l=>if l.length=n&&p.key.heap&&(p.key.path.isEmpty||l.all qw)then qf5 F' p 0 l else none
    |none=>none
   |_,_,_,_=>none
  |_=>none
 |.okE e=>match o.op with
  |.call { callee:=.builtin .append,args,argTypes }=>match args.toList,argTypes.toList,o.dst with
   |[s,x],[t,t1],some d=>match cx.P.underlying t,srcU (cx.P.underlying t1),(F.ev s).cell,(F.ev x).cell with
    |some (.slice elem),some (.slice _),some .nil,some xc=>match cx.P.info? elem with
     |some i=>tappend cx F d elem i [] none xc e
     |none=>none
    |some (.slice elem),some (.slice _),some (.ref p),some xc=>match F.get p,cx.P.info? elem,F.set p .dead with
     |some (.own zz rows),some i,some F1=>if zz=i.size then tappend cx (F1.kill p) d elem i rows (some p) xc e else none
     |_,_,_=>none
    |_,_,_,_=>none
   |_,_,_=>none
  |_=>none
 |.okO rows0 e=>match o.op with
  |.call { callee:=.builtin .append,args,argTypes }=>match args.toList,argTypes.toList,o.dst with
   |[.tmp k,x],[t,t1],some d=>match cx.P.underlying t,srcU (cx.P.underlying t1),(F.ev (.tmp k)).cell,(F.ev x).cell with
    |some (.slice elem),some (.slice _),some (.ref p),some xc=>match F.rowsAt p.key,cx.P.info? elem,tset F p .dead with
     |some rs,some i,some (F1,_)=>match tappend cx ((F1.dropS k).kill p) d elem i rows0 (some p) xc e with
      |some (F2,ps)=>some (F2,(cellAt rs p.r p.o=some (.own i.size rows0))::(F1.slots[k]? = some (.c (.ref p)))::ps)
      |none=>none
     |_,_,_=>none
    |_,_,_,_=>none
   |_,_,_=>none
  |_=>none
 |.ok=>match o.op with
  |.slice t x lo hi none=>match cx.P.underlying t with
   |some (.slice elem)=>match frzC F (((F.ev x).cell).getD .dead),qQ cx.P elem with
    |some (rows,F'),some sz=>
     match (match lo with|some y=>asInt (F.ev y)|none=>some 0),(match hi with|some y=>asInt (F.ev y)|none=>some (rows.length:Int))with
     |some l,some h=>some (F'.putS o.dst (.c (.imm ((rows.take h.toNat).drop l.toNat))),[0<=l/\l<=h/\h<=rows.length/\(rows.head?.all (·.length==sz))=true])
     |_,_=>none
    |_,_=>none
   |_=>none
  |_=>none
 |.ssl=>match o.op with
  |.slice t x lo hi none=>match cx.P.underlying t,(F.ev x).con,(match lo with|some y=>asInt (F.ev y)|none=>some 0)with
   |some .string,some (.string s),some l=>match (match hi with|some y=>asInt (F.ev y)|none=>some (s.size:Int))with
    |some h=>some (F.putS o.dst (.c (.val (.string (s.extract l.toNat h.toNat)))),[0<=l/\l<=h/\h<=(s.size:Int)])
    |none=>none
   |_,_,_=>none
  |_=>none
 |_=>none
def Ev (P:Program)(hand:Nat->Nat->Bool)(f:Nat)(args:List AV)(bx:List (List Cell))(res:ARes)(bx':List (List Cell)):Prop:=
 (∃ fn,P.funcs[f]? = some fn/\fn.body.isSome=true/\(fn.name == "runtime.NumGoroutine")=false) /\
  ∀ G w (Vs:Array Value),RelF G w ⟨args,qd 0 bx⟩ Vs->Calls P f Vs w (Went G w res bx')
def qhn (v:AV):Bool:=v.rows.all fun (l:List Cell)=>l.all Xg
def Xw (E:Nat->List AV->List (List Cell)->ARes->List (List Cell)->Prop)(cx:Cx)(F:Fr)(dst:Option Nat)(f:Nat)(vs:List AV)(res:ARes)(bx':List (List Cell))(thaw:Bool):Option (Fr×List Prop×Option Value):=
 match yT cx f F 0 vs with
 |some (vs1,F1)=>match vg cx f F1 0 vs1 with
  |some (args,lent)=>
   let roots:=yl F1 3 (zm [] (args.flatMap fun v=>v.rows.flatMap fun l=>l.flatMap Xz))
   match mapO (renV (idxOf roots)) args,mapO (qbl F1 (idxOf roots)) roots with
   | some args',some bx=>match mapO (mapO (renC (yP roots))) bx' with
     |some bx''=>
      if lent.all (fun p=>!roots.contains p.key.root)&&bx'.length==roots.length&&bx''.map List.length==bx.map List.length&&nodupB roots then
       match zG F1 lent with
       |some Ff=>match res with
        |.panic v=>some (qB (yj Ff roots) roots bx'',[E f args' bx res bx'],some v)
        |.ret v=>match renV (yP roots) v with
         | some v'=>some ((qB (yj (if thaw then F1 else Ff) roots) roots bx'').putK dst v',
           E f args' bx res bx'::(if lent.isEmpty then []else if roots.isEmpty then [qhn v'=thaw]else [false=thaw]),none)
         |none=>none
       |none=>none
      else none
     |none=>none
   |_,_=>none
  |none=>none
 |none=>none
def qhw (cx:Cx)(F:Fr)(dst:Option Nat)(f:Nat)(vs:List AV)(res:ARes)(bx':List (List Cell))(thaw:Bool):Option (Fr×List Prop×Option Value):=Xw (Ev cx.P cx.hand) cx F dst f vs res bx' thaw
def qey:Oracle:=fun _ _ _=>none
def taop (cx:Cx)(F:Fr)(o:Oper):Option Adv->Option (Fr×List Prop×Option Value)
 |none=>match xaop cx qey F o with
  |some (F',r)=>some (F',[],r)
  |none=>none
 |some (.call res bx thaw)=>match o.op with
  |.call { callee:=.value g,args,.. }=>match (F.ev g).cell with
   |some (.clo f first caps)=>qhw cx F o.dst f (first.map .c++args.toList.map F.ev++caps.map .c) res bx thaw
   |_=>none
  |_=>none
 |some a=>match tquiet cx F o a with
  |some (v,ps)=>some (F.putS o.dst v,ps,none)
  |none=>if (xquiet cx F o).isNone then(match tloud cx F o a with
   |some (F',ps)=>some (F',ps,none)
   |none=>none)else none
def qh6 (o:Oper)(rest:List Oper):Option Adv->Bool
 |some (.call _ _ _)=>rest.all fun o'=>o'.dst != o.dst
 |_=>true
def Qe (d:Option Nat):Advs->Option Adv×Advs
 |(d',a)::l=>if d'=d then(some a,l)else(none,(d',a)::l)
 |[]=>(none,[])
def taops (cx:Cx)(ops:List Oper):List Oper->Fr->Advs->Option (Fr×Advs×List Prop×Option Value)
 |[],F,ad=>some (F,ad,[],none)
 |o::rest,F,ad=>match zi ops F o with
  |some true=>match Qe o.dst ad with
   |(a,ad')=>if qh6 o rest a then(match taop cx F o a with
    |some (F',ps,none)=>spF o.dst F' fun F'=>match taops cx ops rest F' ad' with
     |some (F'',ad'',qs,r)=>some (F'',ad'',ps++qs,r)
     |none=>none
    |some (F',ps,some v)=>some (F',ad',ps,some v)
    |none=>none)else none
  |some false=>spF o.dst (F.putS o.dst .undef) fun F'=>taops cx ops rest F' ad
  |none=>none
def tdop (cx:Cx)(ops:List Oper)(F:Fr)(o:Oper)(ad:Advs):Option (Fr×Info×Advs×List Prop):=match zi ops F o with
 |none=>none
 |some false=>some (F.put o.dst .undef,zJ F (F.put o.dst .undef) (dstR o) (xW ops o) false,ad,[])
 |some true=>match Qe o.dst ad with
  |(none,ad')=>match xquiet cx F o with
   |some v=>some (F.put o.dst v,zJ F (F.put o.dst v) (dstR o) (xW ops o++slotsOf o++(if Xl o.op then qR F o else [])) false,ad',[])
   | none=>if xG F (qC F o)then match xaop cx qey (F.part (qC F o) (readsOf o)) o with
     |some (F1,none)=>some (F.merge F1 (qC F o),zJ F (F.merge F1 (qC F o)) (qC F o) (xW ops o++slotsOf o) true,ad',[])
     |_=>none
    else none
  |(some a,ad')=>match tquiet cx F o a with
   |some (v,ps)=>some (F.put o.dst v,zJ F (F.put o.dst v) (dstR o) (xW ops o++slotsOf o++(if Xl o.op then qR F o else [])) false,ad',ps)
   | none=>if (xquiet cx F o).isNone&&xG F (qC F o)then match taop cx (F.part (qC F o) (readsOf o)) o (some a)with
     |some (F1,ps,none)=>some (F.merge F1 (qC F o),zJ F (F.merge F1 (qC F o)) (qC F o) (xW ops o++slotsOf o) true,ad',ps)
     |_=>none
    else none
def tdrun (cx:Cx)(ops:List Oper):List Oper->Fr->Advs->Option (Fr×List Info×Advs×List Prop)
 |[],F,ad=>some (F,[],ad,[])
 |o::rest,F,ad=>if !qh6 o rest (Qe o.dst ad).1 then none else match tdop cx ops F o ad with
  |some (F1,i,ad1,ps)=>spF o.dst F1 fun F1=>qgQ i fun i=>match tdrun cx ops rest F1 ad1 with
   |some (F2,is,ad2,qs)=>some (F2,i::is,ad2,ps++qs)
   |none=>none
  |none=>none
def qeJ (cx:Cx)(ops:List Oper)(F:Fr)(p q:Nat)(ad:Advs):Option (Fr×Advs×List Prop):=match tdrun cx ops (xy ops (Ye p q ops.length)) F ad with
 |some (F2,is2,ad',qs)=>match tdrun cx ops ops F ad' with
  |some (F1,is,ad'',ps)=>
   if vP p q 0 ops&&(vw 0 ops&&decide (p<q)&&decide (q<ops.length)&&qcl (befL ops []) p q [] ((List.range ops.length).zip is)&&qcl (befL ops []) q p [] ((Ye p q ops.length).zip is2))then
    some (F1,ad'',(F2=F1)::(qs++ps))else none
  |none=>none
 |none=>none
def tadraw (cx:Cx)(ops:List Oper)(F:Fr)(ad:Advs):Option (Fr×Advs×List Prop):=match ad with
 |(_,.alt p q)::ad=>qeJ cx ops F p q ad
 |ad=>match tdrun cx ops ops F ad with
  |some (F',is,ad',ps)=>if vw 0 ops&&vS (befL ops []) is 0 is then some (F',ad',ps)else none
  |none=>none
def qel (cx:Cx)(ops:List Oper)(F:Fr)(q nb:Nat)(ad:Advs):Option (Value×List (List Cell)×List Prop):=match tdrun cx ops (xy ops (XB (befL ops []) q ops.length)) F ad with
 |some (F1,is,[(_,.call (.panic v) bx _)],ps)=>match ops[q]? with
  |some o=>match o.op with
   |.call { callee:=.value g,args,.. }=>match zi ops F1 o,((F1.part (qC F1 o) (readsOf o)).ev g).cell with
    |some true,some (.clo f first caps)=>match qhw cx (F1.part (qC F1 o) (readsOf o)) o.dst f (first.map .c++args.toList.map (F1.part (qC F1 o) (readsOf o)).ev++caps.map .c) (.panic v) bx false with
     |some (F2,qs,some _)=>qdU (F1.merge (F2.putK o.dst (.c (.imm []))) (qC F1 o)) fun F3=>match zD F3 nb with
      | some b=>if (xG F1 (qC F1 o)&&qcw F3.boxes)&&qdJ o q 0 ops&&(vw 0 ops&&qcl (befL ops []) 0 ops.length [] ((XB (befL ops []) q ops.length++[q]).zip (is++[zJ F1 F3 (qC F1 o) (xW ops o++slotsOf o) true])) &&
        qis (befL ops []) q ((XB (befL ops []) q ops.length).zip is))then some (v,b,ps++qs)else none
      |none=>none
     |_=>none
    |_,_=>none
   |_=>none
  |none=>none
 |_=>none
inductive TItem where
 |code (c:Code)
 |inBlock (id:Nat)
 |inLoop (b:Code)
inductive TStop where
 |at (K:List TItem) (F:Fr)
 |fin (res:ARes) (bx:List (List Cell))
def YX (id:Nat):List TItem->Option (List TItem)
 |[]=>none
 |.inBlock id'::K=>if id'=id then some K else YX id K
 |_::K=>YX id K
def tfin (P:Program)(fn:Func)(nb:Nat)(F:Fr):Option TStop:=match QS P F fn.results.toList with
 |some (vs,F')=>match qjr vs,zD F' nb with
  |some v,some bx'=>some (.fin (.ret v) bx')
  |_,_=>none
 |none=>none
def qf3 (ps:List Prop):Option (TStop×List Prop)->Option (TStop×List Prop)
 |some (s,qs)=>some (s,ps++qs)
 |none=>none
def mgo (cx:Cx)(fn:Func)(nb:Nat):Nat->List TItem->Fr->Advs->Option (TStop×List Prop)
 |0,K,F,ad=>match ad with
  |[]=>some (.at K F,[])
  |_=>none
 |n+1,K,F,ad=>match K with
  |[]=>match ad with
   |[]=>match tfin cx.P fn nb F with
    |some s=>some (s,[])
    |none=>none
   |_=>none
  |.inLoop b::K=>match qfB b with
   |[]=>mgo cx fn nb n (.code b :: .inLoop b::K) F ad
   |ls=>qdU (F.norm [] ls) fun F=>mgo cx fn nb n (.code b :: .inLoop b::K) F ad
  |.inBlock _::K=>mgo cx fn nb n K F ad
  |.code c::K=>match c with
   |.skip=>mgo cx fn nb n K F ad
   | .region _ ops draw=>if draw then(match ad with
     |(_,.pan q)::ad=>(match qel cx ops.toList F q nb ad with
      |some (v,bx',ps)=>some (.fin (.panic v) bx',ps)
      |none=>none)
     |ad=>(match tadraw cx ops.toList F ad with
      |some (F',ad',ps)=>qf3 ps (mgo cx fn nb n K F' ad')
      |none=>none))
    else match taops cx ops.toList ops.toList F ad with
     |some (F',ad',ps,none)=>qf3 ps (mgo cx fn nb n K F' ad')
     |some (F',[],ps,some v)=>match zD F' nb with
      |some bx'=>some (.fin (.panic v) bx',ps)
      |none=>none
     |_=>none
   |.seq a b=>mgo cx fn nb n (.code a :: .code b::K) F ad
   |.cond c a b=>match (F.ev c).con with
    |some (.bool true)=>mgo cx fn nb n (.code a::K) F ad
    |some (.bool false)=>mgo cx fn nb n (.code b::K) F ad
    |_=>none
   |.block id b=>mgo cx fn nb n (.code b :: .inBlock id::K) F ad
   |.loop b=>mgo cx fn nb n (.inLoop b::K) F ad
   |.exit id=>match YX id K with
    |some K'=>mgo cx fn nb n K' F ad
    |none=>none
   |.ret=>match ad with
    |[]=>match tfin cx.P fn nb F with
     |some s=>some (s,[])
     |none=>none
    |_=>none
   |_=>none
end
section
variable [Glob]
theorem ze {α:Type}{C}[Decidable C]{X}{y:α}(h:(if C then X else none)=some y):C/\X=some y:=by
 by_cases hc:C
 . rw[aD hc]at h;exact⟨hc,h⟩
 . rw[aF hc]at h;cases h
theorem qdv {cx F o r}(rec)(e:aop cx qey F o=some r):aop cx rec F o=some r:=by
 unfold aop at *;cases hm:mvop cx F o with
 |some F1=>rw[hm]at e;exact e
 |none=>
 rw[hm]at e;simp only at *;unfold aop0 at *;cases hq:quiet cx F o with
 |some v=>rw[hq]at e;exact e
 |none=>
  rw[hq]at e;simp only at *;cases hl:loud cx F o with
  |some F1=>rw[hl]at e;exact e
  |none=>
   rw[hl]at e;simp only at *;split at e
   . exact e
   . split at e
     . obtain⟨_,_,_,h⟩:=qft e;cases h
     . cases e
   . cases e
theorem QQ {cx F o a v ps}(e:tquiet cx F o a=some (v,ps))(hp:∀ p∈ps,p):quiet cx F o=some v:=by
 cases a with
 |test r=>
  simp only[tquiet,XZ]at e;split at e
  . rename_i b hq;simp only[aa,ai]at e;obtain⟨rfl,rfl⟩:=e;have:b=r:=hp _ (by simp);subst this;exact hq
  . cases e
 |row row=>
  obtain⟨dst,op,ty,pos,after,guard⟩:=o;simp only[tquiet]at e;split at e
  .
   rename_i t x i;split at e
   . rename_i elem rows n hu hc hn;split at e
     . rename_i sz hs;simp only[aa,ai]at e;obtain⟨rfl,rfl⟩:=e;obtain⟨h1,h2,h3⟩:=hp _ au;simp only[quiet,hu,hc,hn,hs,h2,h3,h1,decide_true,beq_self_eq_true,Bool.and_self,if_true]
     . cases e
   . cases e
  . cases e
 |bnd=>
  obtain⟨dst,op,ty,pos,after,guard⟩:=o;simp only[tquiet]at e;split at e
  .
   rename_i t x i;split at e
   .
    rename_i elem p n hu hc hn;split at e
    . rename_i zz rows sz hg hs;split at e
      . rename_i hz;simp only[aa,ai]at e;obtain⟨rfl,rfl⟩:=e;obtain⟨h1,h2⟩:=hp _ au;simp only[quiet,hu,hc,hn,hs,hg,h1,h2,hz,decide_true,beq_self_eq_true,Bool.and_self,if_true]
      . cases e
    . cases e
   . cases e
  . cases e
 |ld row=>
  obtain⟨dst,op,ty,pos,after,guard⟩:=o;simp only[tquiet]at e;split at e
  .
   rename_i t a;split at e
   .
    rename_i p n g hc hs hg;split at e
    . rename_i hcond;simp only[aC,aX]at hcond;split at e
      . rename_i rows v' hr hm;simp only[aa,ai]at e;obtain⟨rfl,rfl⟩:=e;have h1:=hp _ au;simp only[quiet,hc,hs,hg,Fr.loadL,hcond.1,aj,aT,if_false,hr,h1,hcond.2,if_true,ae];exact hm
      . cases e
    . cases e
   . cases e
  . cases e
 |sidx b=>
  obtain⟨dst,op,ty,pos,after,guard⟩:=o;simp only[tquiet]at e;split at e
  . rename_i t x i;split at e
    . rename_i s n hu hx hi;simp only[aa,ai]at e;obtain⟨rfl,rfl⟩:=e;obtain⟨h1,h2⟩:=hp _ au;unfold Xp at h2;rw[aG]at h2;obtain⟨b',h3,rfl⟩:=h2;exact qhh hu hx hi h1 h3
    . cases e
  . cases e
 |aix b=>
  obtain⟨dst,op,ty,pos,after,guard⟩:=o;simp only[tquiet]at e;split at e
  .
   rename_i t x i;split at e
   . rename_i len el cs n hu hx hi;split at e
     . rename_i hz;simp only[aa,ai]at e;obtain⟨rfl,rfl⟩:=e;obtain⟨h1,h2,h3⟩:=hp _ au;exact qlm hu hz.1 hz.2 hx hi h1 h2 h3
     . cases e
   . cases e
  . cases e
 |qr=>
  obtain⟨dst,op,ty,pos,after,guard⟩:=o;simp only[tquiet]at e;split at e
  .
   rename_i t x y u;split at e
   . rename_i k a k' b hx hy;split at e
     . rename_i hk;subst hk;simp only[aa,ai]at e;obtain⟨rfl,rfl⟩:=e;have h1:=hp _ au;have:=qhd (cx:=cx) (dst:=dst) (t:=t) (u:=u) (ty:=ty) (pos:=pos) (after:=after) (g:=guard) (op:=.quo) (.inl ⟨rfl,rfl⟩) hx hy h1;simp only[quiet,hx,hy];exact this
     . cases e
   . cases e
  .
   rename_i t x y u;split at e
   . rename_i k a k' b hx hy;split at e
     . rename_i hk;subst hk;simp only[aa,ai]at e;obtain⟨rfl,rfl⟩:=e;have h1:=hp _ au;have:=qhd (cx:=cx) (dst:=dst) (t:=t) (u:=u) (ty:=ty) (pos:=pos) (after:=after) (g:=guard) (op:=.rem) (.inr ⟨rfl,rfl⟩) hx hy h1;simp only[quiet,hx,hy];exact this
     . cases e
   . cases e
  . rename_i t x y u;split at e
    . rename_i k a k' b hx hy;simp only[aa,ai]at e;obtain⟨rfl,rfl⟩:=e;have h1:=hp _ au;have:=qkx (cx:=cx) (dst:=dst) (t:=t) (u:=u) (ty:=ty) (pos:=pos) (after:=after) (g:=guard) (op:=.shl) (.inl ⟨rfl,rfl⟩) hx hy h1;simp only[quiet,hx,hy];exact this
    . cases e
  . rename_i t x y u;split at e
    . rename_i k a k' b hx hy;simp only[aa,ai]at e;obtain⟨rfl,rfl⟩:=e;have h1:=hp _ au;have:=qkx (cx:=cx) (dst:=dst) (t:=t) (u:=u) (ty:=ty) (pos:=pos) (after:=after) (g:=guard) (op:=.shr) (.inr ⟨rfl,rfl⟩) hx hy h1;simp only[quiet,hx,hy];exact this
    . cases e
  . cases e
 |scat=>
  obtain⟨dst,op,ty,pos,after,guard⟩:=o;simp only[tquiet]at e;split at e
  . rename_i t x y u;split at e
    . rename_i s r hx hy;simp only[aa,ai]at e;obtain⟨rfl,rfl⟩:=e;have h1:=hp _ au;have:=qkS (cx:=cx) (dst:=dst) (t:=t) (u:=u) (ty:=ty) (pos:=pos) (after:=after) (g:=guard) hx hy h1;simp only[quiet,hx,hy];exact this
    . cases e
  . cases e
 |_=>simp[tquiet]at e
theorem qb3 {f g}:∀ {π:List (Nat×Nat)} {rows rs:List (List Cell)},getR rows π=some rs->f rs=g rs->updR f rows π=updR g rows π
 |[],rows,rs,h,e=>by simp only[getR,aa]at h;subst h;exact e
 |(r,o)::π,rows,rs,h,e=>by
  simp only[getR]at h;simp only[updR];split at h
  . rename_i rows' hc;rw[qb3 h e]
  . cases h
theorem Qx {F F' p c q}(e:tset F p c=some (F',q))(hq:q):F.set p c=some F':=by
 unfold tset at e;split at e
 .
  rename_i rows rs hr hrs;split at e
  . rename_i rows' hu;simp only[aa,ai]at e;obtain⟨rfl,rfl⟩:=e;unfold Fr.set;rw[hr];simp only;have hg:getR rows p.key.path=some rs:=by unfold Fr.rowsAt at hrs;rw[hr]at hrs;exact hrs
    obtain⟨c0,hc0⟩:=hq;rw[qb3 (g:=fun _=>some (setRow rs p.r p.o c)) hg (by simp only[putAt,hc0]),hu]
  . cases e
 . cases e
theorem qbg {p}:∀ {l:List Cell} {j:Nat} {F F':Fr} {ps:List Prop},qf5 F p j l=some (F',ps)->(∀ q∈ps,q)->F.setL p j l=some F'
 |[],j,F,F',ps,e,_=>by simp only[qf5,aa,ai]at e;obtain⟨rfl,_⟩:=e;rfl
 |c::l,j,F,F',ps,e,hp=>by
  simp only[qf5]at e;cases h1:tset (if qy c then F.kill { p with o:=p.o+j }else F) { p with o:=p.o+j } c with
  |none=>simp[h1]at e
  |some y=>
   obtain⟨F1,q⟩:=y;simp only[h1]at e;cases h2:qf5 F1 p (j+1) l with
   |none=>simp[h2]at e
   |some z=>obtain⟨F2,qs⟩:=z;simp only[h2,aa,ai]at e;obtain⟨rfl,rfl⟩:=e;simp only[Fr.setL,Qx h1 (hp q au)];exact qbg h2 (fun x hx=>hp x (aB _ hx))
theorem Za {cx F F' d elem i rows p xc e0 ps}(e:tappend cx F d elem i rows p xc e0=some (F',ps))(hp:∀ q∈ps,q):Yo cx F d elem i rows p xc=some F':=by
 unfold tappend at e;unfold Yo;split at e
 .
  rename_i c F2 ht;rw[ht];simp only;split at e
  . rename_i more hm;simp only[aa,ai]at e;obtain⟨rfl,rfl⟩:=e;rw[hm];simp only;obtain⟨h1,h2⟩:=hp _ au;unfold qcb at h1;rw[aD h1];cases p with
    |none=>rw[h2 rfl]
    |some p=>rfl
  . cases e
 . cases e
theorem qfZ {F:Fr}{k p}(h:F.slots[k]? = some (.c (.ref p))):(F.dropS k).kill p=F.kill p:=by
 have hu:under p p.toKey=true:=by simp[under,Pl.toKey]
 have e1:(AV.c (.ref p)).mapC (vI p)=.deadv:=by simp[AV.mapC,AV.c,AV.deadv,vI,hu]
 have e2:AV.deadv.mapC (vI p)=.deadv:=by simp[AV.mapC,AV.c,AV.deadv,vI]
 have e3:(F.slots.set k .deadv).map (·.mapC (vI p))=F.slots.map (·.mapC (vI p)):=by
  apply List.ext_getElem?;intro j;rw[aH,aH,List.getElem?_set];by_cases hj:k=j
  . subst hj;have hlt:=(az.1 h).1;rw[aD rfl,aD hlt,h];simp only[av,e1,e2]
  . rw[aF hj]
 simp only[Fr.dropS,Fr.kill,Fr.mapC,e3]
theorem qer {cx F F' o a ps}(e:tloud cx F o a=some (F',ps))(hp:∀ p∈ps,p):loud cx F o=some F':=by
 obtain⟨dst,op,ty,pos,after,guard⟩:=o;cases a with
 |st=>
  simp only[tloud]at e;split at e
  .
   rename_i t x y;unfold loud;simp only at e |-;split at e
   .
    rename_i p n v F1 hd hs ht;rw[hd,hs,ht];simp only;split at e
    . rename_i l hl;rw[hl];simp only;split at e
      . rename_i hc;rw[aD hc];exact qbg e hp
      . cases e
    . cases e
   . cases e
  . cases e
 |okE e0=>
  simp only[tloud]at e;split at e
  .
   rename_i args argTypes;unfold loud;simp only at e |-;split at e
   .
    rename_i s x t t1 d h1 h2;rw[h1,h2];simp only;split at e
    . rename_i elem xc xt a1 a2 a3 a4;rw[a1,a2,a3,a4];simp only;split at e
      . rename_i i hi;rw[hi];exact Za e hp
      . cases e
    .
     rename_i elem p xc xt a1 a2 a3 a4;rw[a1,a2,a3,a4];simp only;split at e
     . rename_i zz rows i F1 b1 b2 b3;rw[b1,b2,b3];simp only;split at e
       . rename_i hz;rw[aD hz];exact Za e hp
       . cases e
     . cases e
    . cases e
   . cases e
  . cases e
 |okO rows0 e0=>
  simp only[tloud]at e;split at e
  .
   rename_i args argTypes;unfold loud;simp only at e |-;split at e
   .
    rename_i s x t t1 d h1 h2;rw[h1,h2];simp only;split at e
    .
     rename_i elem et p xc a1 a2 a3 a4;rw[a1,a2,a3,a4];simp only;split at e
     .
      rename_i rs i F1 q b1 b2 b3;split at e
      .
       rename_i F2 qs b4;simp only[aa,ai]at e;obtain⟨rfl,rfl⟩:=e;have hc:=hp _ au;have hk:=hp _ (aB _ au);rw[qfZ hk]at b4;have hg:F.get p=some (.own i.size rows0):=by unfold Fr.get;rw[b1];exact hc
       have hs:F.set p .dead=some F1:=by
        have hq:q:=by
         unfold tset at b3;split at b3
         . rename_i rr rs' hr hrs;split at b3
           . simp only[aa,ai]at b3;obtain⟨_,rfl⟩:=b3;rw[b1]at hrs;cases hrs;exact⟨_,hc⟩
           . cases b3
         . cases b3
        exact Qx b3 hq
       rw[hg,b2,hs];simp only[if_true];exact Za b4 (fun x hx=>hp x (aB _ (aB _ hx)))
      . cases e
     . cases e
    . cases e
   . cases e
  . cases e
 |ok=>
  simp only[tloud]at e;split at e
  .
   rename_i t x lo hi;unfold loud;simp only at e |-;split at e
   .
    rename_i elem hu;rw[hu];simp only;split at e
    .
     rename_i rows F1 sz h1 h2;rw[h1,h2];simp only;split at e
     .
      rename_i l h k1 k2;simp only[aa,ai]at e;obtain⟨rfl,rfl⟩:=e;have hc:=hp _ au;cases lo with
      |none=>
       simp only[aa]at k1;subst k1;cases hi with
       |none=>simp only[aa]at k2;subst k2;simp only;rw[aD hc]
       |some y=>simp only at k2;simp only[k2];rw[aD hc]
      |some x=>
       simp only at k1;cases hi with
       |none=>simp only[aa]at k2;subst k2;simp only[k1];rw[aD hc]
       |some y=>simp only at k2;simp only[k1,k2];rw[aD hc]
     . cases e
    . cases e
   . cases e
  . cases e
 |ssl=>
  simp only[tloud]at e;split at e
  .
   rename_i t x lo hi;split at e
   . rename_i s l hu hx hl;split at e
     . rename_i h hh;simp only[aa,ai]at e;obtain⟨rfl,rfl⟩:=e;have h1:=hp _ au;have:=qhf (cx:=cx) (dst:=dst) (ty:=ty) (pos:=pos) (after:=after) (g:=guard) hu hx hl hh h1;unfold loud;simp only[hu,this];rfl
     . cases e
   . cases e
  . cases e
 |_=>simp[tloud]at e
def vG (f:Nat)(args:List AV)(bx:List (List Cell))(res:ARes)(bx':List (List Cell)):Oracle:=fun f' args' bx1=>open Classical in if f'=f/\args'=args/\bx1=bx then some (res,bx')else none
theorem xP {P hand f args bx res bx'}(h:Ev P hand f args bx res bx'):
  qN P (vG f args bx res bx')/\ZA P (vG f args bx res bx'):=by
 constructor
 .
  intro f1 args1 bx1 res1 bx1' e;unfold vG at e;split at e
  . rename_i hc;obtain⟨rfl,rfl,rfl⟩:=hc;simp only[aa,ai]at e;obtain⟨rfl,rfl⟩:=e;exact h.2
  . cases e
 .
  intro f1 args1 bx1 r e;unfold vG at e;split at e
  . rename_i hc;obtain⟨rfl,rfl,rfl⟩:=hc;exact h.1
  . cases e
theorem Xk (f args bx res)(bx'):vG f args bx res bx' f args bx=some (res,bx'):=by unfold vG;rw[aD ⟨rfl,rfl,rfl⟩]
def qcG (P:Program)(rec:Oracle):Prop:=qN P rec/\ZA P rec
theorem qcT (P):qcG P qey:=⟨fun _ _ _ _ _ e=>(by cases e),fun _ _ _ _ e=>(by cases e)⟩
theorem xV {E cx F F' dst f vs res bx' thaw ps r}(e:Xw E cx F dst f vs res bx' thaw=some (F',ps,r))(hp:∀ p∈ps,p):∃ args' bx,E f args' bx res bx'/\vZ cx (vG f args' bx res bx') F dst f vs=some (F',r):=by
 unfold Xw at e;split at e
 .
  rename_i vs1 F1 h1;split at e
  .
   rename_i args lent h2;simp only at e;split at e
   .
    rename_i args' bx h3 h4;split at e
    .
     rename_i bx'' h5;split at e
     .
      rename_i hc;split at e
      .
       rename_i Ff h6;split at e
       . rename_i v;simp only[aa,ai]at e;obtain⟨rfl,rfl,rfl⟩:=e;have he:E f args' bx (.panic v) bx':=hp _ au;refine⟨_,_,he,?_⟩;unfold vZ;rw[h1];simp only;rw[h2];simp only;rw[h3,h4];simp only;rw[Xk];simp only;rw[h5];simp only;rw[aD hc,h6]
       .
        rename_i v;split at e
        .
         rename_i v' h7;simp only[aa,ai]at e;obtain⟨rfl,rfl,rfl⟩:=e;have he:E f args' bx (.ret v) bx':=hp _ au;have ht:(if ((yl F1 3 (zm [] (args.flatMap fun v=>v.rows.flatMap fun l=>l.flatMap Xz))).isEmpty&&v'.rows.all (fun (l:List Cell)=>l.all Xg))=true then F1 else Ff)=if thaw then F1 else Ff:=by
          by_cases hl:lent=[]
          . subst hl;simp only[zG,aa]at h6;subst h6;simp
          . have hl':lent.isEmpty=false:=by cases lent<;>simp_all
            rw[hl']at hp;by_cases hr:(yl F1 3 (zm [] (args.flatMap fun v=>v.rows.flatMap fun l=>l.flatMap Xz))).isEmpty=true
            . rw[hr]at hp |-;have:qhn v'=thaw:=hp _ (by simp);show(if (true&&qhn v')=true then F1 else Ff)=_;rw[Bool.true_and,this]
            . have hr':(yl F1 3 (zm [] (args.flatMap fun v=>v.rows.flatMap fun l=>l.flatMap Xz))).isEmpty=false:=by simpa using hr
              rw[hr']at hp |-;have:false=thaw:=hp _ (by simp);rw[<- this];simp
         refine⟨_,_,he,?_⟩;unfold vZ;rw[h1];simp only;rw[h2];simp only;rw[h3,h4];simp only;rw[Xk];simp only;rw[h5];simp only;rw[aD hc,h6];simp only;rw[h7];simp only;rw[ht]
        . cases e
      . cases e
     . cases e
    . cases e
   . cases e
  . cases e
 . cases e
theorem qdO {cx F F' dst f vs res bx' thaw ps r}(e:qhw cx F dst f vs res bx' thaw=some (F',ps,r))(hp:∀ p∈ps,p):∃ rec,qcG cx.P rec/\vZ cx rec F dst f vs=some (F',r):=by obtain⟨args',bx,he,hc⟩:=xV e hp;exact⟨_,xP he,hc⟩
def qeL:Option Adv->Bool
 |some (.call _ _ _)=>true
 |_=>false
theorem qwH {cx F F' o a ps r}(e:taop cx F o a=some (F',ps,r))(hp:∀ p∈ps,p):
  (qeL a=true/\∃ rec,qcG cx.P rec/\aop cx rec F o=some (F',r))\/∀ rec,aop cx rec F o=some (F',r):=by
 have plain:∀ {a:Adv},(match tquiet cx F o a with
  |some (v,ps)=>some (F.putS o.dst v,ps,none)
  |none=>if (xquiet cx F o).isNone then(match tloud cx F o a with
   |some (F',ps)=>some (F',ps,none)
   |none=>none)else none)=some (F',ps,r)->∀ rec,aop cx rec F o=some (F',r):=by
  intro a e;have hm0:mvop cx F o=none:=rfl;rw[XZ]at e;cases hq:tquiet cx F o a with
  |some y=>obtain⟨v,qs⟩:=y;simp only[hq,aa,ai]at e;obtain⟨rfl,rfl,rfl⟩:=e;exact fun rec=>by simp only[aop,hm0,aop0,QQ hq hp]
  |none=>
   simp only[hq]at e;split at e
   . rename_i hn;rw[Option.isNone_iff_eq_none]at hn;split at e
     . rename_i F1 qs hl;simp only[aa,ai]at e;obtain⟨rfl,rfl,rfl⟩:=e;exact fun rec=>by simp only[aop,hm0,aop0,hn,qer hl hp]
     . cases e
   . cases e
 cases a with
 |none=>
  right;simp only[taop,qhC]at e;split at e
  . rename_i F1 r1 h;simp only[aa,ai]at e;obtain⟨rfl,rfl,rfl⟩:=e;exact fun rec=>qdv _ h
  . cases e
 |some a=>
  cases a with
  |call res bx thaw=>
   left;refine⟨rfl,?_⟩;obtain⟨dst,op,ty,pos,after,guard⟩:=o;simp only[taop]at e;split at e
   .
    rename_i g args argTypes;split at e
    . rename_i f first caps hc
      obtain⟨rec,hr,hN⟩:=qdO e hp;refine⟨rec,hr,?_⟩;have h1:quiet cx F ⟨dst,.call { callee:=.value g,args,argTypes },ty,pos,after,guard⟩=none:=rfl;have h0:mvop cx F ⟨dst,.call { callee:=.value g,args,argTypes },ty,pos,after,guard⟩=none:=rfl;have h2:loud cx F ⟨dst,.call { callee:=.value g,args,argTypes },ty,pos,after,guard⟩=none:=rfl;simp only[aop,h0,aop0,h1,h2,hc];exact hN
    . cases e
   . cases e
  |test r=>exact .inr (plain (a:=.test r) e)
  |row r=>exact .inr (plain (a:=.row r) e)
  |bnd=>exact .inr (plain (a:=.bnd) e)
  |ld r=>exact .inr (plain (a:=.ld r) e)
  |st=>exact .inr (plain (a:=.st) e)
  |ok=>exact .inr (plain (a:=.ok) e)
  |okE b=>exact .inr (plain (a:=.okE b) e)
  |okO rs b=>exact .inr (plain (a:=.okO rs b) e)
  |alt p q=>exact .inr (plain (a:=.alt p q) e)
  |pan q=>exact .inr (plain (a:=.pan q) e)
  |sidx b=>exact .inr (plain (a:=.sidx b) e)
  |aix b=>exact .inr (plain (a:=.aix b) e)
  |scat=>exact .inr (plain (a:=.scat) e)
  |ssl=>exact .inr (plain (a:=.ssl) e)
  |qr=>exact .inr (plain (a:=.qr) e)
theorem qb4 {cx r1 r2 ops}:∀ {rest:List Oper} {F:Fr},(∀ o∈rest,r1 o.dst=r2 o.dst)->aops cx r1 ops rest F=aops cx r2 ops rest F
 |[],_,_=>rfl
 |o::rest,F,h=>by
  have ho:=h o au;have hr:∀ F,aops cx r1 ops rest F=aops cx r2 ops rest F:=fun F=>qb4 fun o' hm=>h o' (aB _ hm);simp only[aops,ho];split
  . split
    . exact hr _
    . rfl
  . exact hr _
  . rfl
theorem qb2 {cx r1 r2 ops}:∀ {rest:List Oper} {F:Fr},(∀ o∈rest,r1 o.dst=r2 o.dst)->drun cx r1 ops rest F=drun cx r2 ops rest F
 |[],_,_=>rfl
 |o::rest,F,h=>by
  have ho:=h o au;have hr:∀ F,drun cx r1 ops rest F=drun cx r2 ops rest F:=fun F=>qb2 fun o' hm=>h o' (aB _ hm);have hd:dop cx r1 ops F o=dop cx r2 ops F o:=by simp only[dop,ho]
  simp only[drun,hd,hr]
theorem qaO {o rest a}(h:qh6 o rest a=true)(ha:qeL a=true):∀ o'∈rest,o'.dst≠o.dst:=by
 cases a with
 |none=>cases ha
 |some a=>
  cases a with
  |call r b t=>intro o' hm;have:=(List.all_eq_true.1 h) o' hm;simpa using this
  |_=>cases ha
theorem zP {cx ops}:∀ {rest:List Oper} {F F':Fr} {ad ad':Advs} {ps:List Prop} {r:Option Value},taops cx ops rest F ad=some (F',ad',ps,r)->(∀ p∈ps,p) ->
  ∃ recs:Orac,(∀ d,qcG cx.P (recs d))/\aops cx recs ops rest F=some (F',r)
 |[],F,F',ad,ad',ps,r,e,_=>by simp only[taops,aa,ai]at e;obtain⟨rfl,_,_,rfl⟩:=e;exact⟨fun _=>qey,fun _=>qcT _,rfl⟩
 |o::rest,F,F',ad,ad',ps,r,e,hp=>by
  simp only[taops]at e;cases hw:zi ops F o with
  |none=>simp[hw]at e
  |some b=>
   cases b with
   |true=>
    simp only[hw]at e;split at e
    .
     rename_i hc;split at e
     .
      rename_i F1 qs h1;simp only[qiv]at e;cases h2:taops cx ops rest F1 (Qe o.dst ad).2 with
      |none=>simp[h2]at e
      |some z=>
       obtain⟨F2,ad2,qs2,r2⟩:=z;simp only[h2,aa,ai]at e;obtain⟨rfl,rfl,rfl,rfl⟩:=e;obtain⟨recs,k1,k2⟩:=zP h2 (fun p hm=>hp p (aS _ hm));rcases qwH h1 (fun p hm=>hp p (aL _ hm))with⟨ha,rec,r1,r2'⟩|hall
       . refine⟨fun d=>if d=o.dst then rec else recs d,fun d=>?_,?_⟩
         . dsimp only;split
           . exact r1
           . exact k1 d
         . simp only[aops,hw,if_true,r2'];rw[<- k2];exact qb4 fun o' hm=>aF (qaO hc ha o' hm)
       . exact⟨recs,k1,by simp only[aops,hw,hall];exact k2⟩
     . rename_i F1 qs v h1;simp only[aa,ai]at e;obtain⟨rfl,rfl,rfl,rfl⟩:=e;rcases qwH h1 hp with⟨ha,rec,r1,r2'⟩|hall
       . exact⟨fun _=>rec,fun _=>r1,by simp only[aops,hw,r2']⟩
       . exact⟨fun _=>qey,fun _=>qcT _,by simp only[aops,hw,hall]⟩
     . cases e
    . cases e
   |false=>simp only[hw,qiv]at e;obtain⟨recs,k1,k2⟩:=zP e hp;exact⟨recs,k1,by simp only[aops,hw];exact k2⟩
theorem qgC {cx ops F F' o ad ad' I ps}(e:tdop cx ops F o ad=some (F',I,ad',ps))(hp:∀ p∈ps,p):
  (qeL (Qe o.dst ad).1=true/\∃ rec,qcG cx.P rec/\dop cx (fun _=>rec) ops F o=some (F',I))\/∀ recs:Orac,dop cx recs ops F o=some (F',I):=by
 unfold tdop at e;simp only[XZ,qhC]at e;cases hw:zi ops F o with
 |none=>simp[hw]at e
 |some b=>
  cases b with
  |false=>simp only[hw,aa,ai]at e;obtain⟨rfl,rfl,_,_⟩:=e;exact .inr fun recs=>by simp only[dop,hw]
  |true=>
   simp only[hw]at e;obtain⟨a,ad1,ha⟩:∃ a ad1,Qe o.dst ad=(a,ad1):=⟨_,_,rfl⟩
   rw[ha]at e |-;cases a with
   |none=>
    right;simp only at e;cases hq:quiet cx F o with
    |some v=>simp only[hq,aa,ai]at e;obtain⟨rfl,rfl,_,_⟩:=e;exact fun recs=>by simp only[dop,hw,hq]
    |none=>
     simp only[hq]at e;split at e
     . rename_i hc;split at e
       . rename_i F1 h1;simp only[aa,ai]at e;obtain⟨rfl,rfl,_,_⟩:=e;exact fun recs=>by simp only[dop,hw,hq,hc,if_true,qdv _ h1]
       . cases e
     . cases e
   |some a=>
    simp only at e;cases hq:tquiet cx F o a with
    |some y=>obtain⟨v,qs⟩:=y;simp only[hq,aa,ai]at e;obtain⟨rfl,rfl,_,rfl⟩:=e;exact .inr fun recs=>by simp only[dop,hw,QQ hq hp]
    |none=>
     simp only[hq]at e;split at e
     . rename_i hc;simp only[aC,Option.isNone_iff_eq_none]at hc;split at e
       . rename_i F1 qs h1;simp only[aa,ai]at e;obtain⟨rfl,rfl,_,rfl⟩:=e;rcases qwH h1 hp with⟨hc2,rec,r1,r2⟩|hall
         . exact .inl ⟨hc2,rec,r1,by simp only[dop,hw,hc.1,hc.2,if_true,r2]⟩
         . exact .inr fun recs=>by simp only[dop,hw,hc.1,hc.2,if_true,hall]
       . cases e
     . cases e
theorem xK {cx ops}:∀ {rest:List Oper} {F F':Fr} {ad ad':Advs} {is:List Info} {ps:List Prop},tdrun cx ops rest F ad=some (F',is,ad',ps)->(∀ p∈ps,p) ->
  ∃ recs:Orac,(∀ d,qcG cx.P (recs d))/\drun cx recs ops rest F=some (F',is)
 |[],F,F',ad,ad',is,ps,e,_=>by simp only[tdrun,aa,ai]at e;obtain⟨rfl,rfl,_⟩:=e;exact⟨fun _=>qey,fun _=>qcT _,rfl⟩
 |o::rest,F,F',ad,ad',is,ps,e,hp=>by
  simp only[tdrun]at e;split at e
  . cases e
  .
   rename_i hc;simp only[Bool.not_eq_true',Bool.not_eq_false]at hc;cases h1:tdop cx ops F o ad with
   |none=>simp[h1]at e
   |some y=>
    obtain⟨F1,i,ad1,qs⟩:=y;simp only[h1,qiv,qhK]at e;cases h2:tdrun cx ops rest F1 ad1 with
    |none=>simp[h2]at e
    |some z=>
     obtain⟨F2,is2,ad2,qs2⟩:=z;simp only[h2,aa,ai]at e;obtain⟨rfl,rfl,rfl,rfl⟩:=e;obtain⟨recs,k1,k2⟩:=xK h2 (fun p hm=>hp p (aS _ hm));rcases qgC h1 (fun p hm=>hp p (aL _ hm))with⟨ha,rec,r1,r2⟩|hall
     .
      refine⟨fun d=>if d=o.dst then rec else recs d,fun d=>?_,?_⟩
      . dsimp only;split
        . exact r1
        . exact k1 d
      . have hd:dop cx (fun d=>if d=o.dst then rec else recs d) ops F o=some (F1,i):=by rw[<- r2];simp only[dop,if_true]
        have hr:drun cx (fun d=>if d=o.dst then rec else recs d) ops rest F1=some (F2,is2):=by rw[<- k2];exact qb2 fun o' hm=>aF (qaO hc ha o' hm)
        simp only[drun,hd,hr]
     . exact⟨recs,k1,by simp only[drun,hall,k2]⟩
theorem qcO {cx ops F F' p q ad ad' ps}(e:qeJ cx ops F p q ad=some (F',ad',ps))(hp:∀ p∈ps,p):
  ∃ recs recs2 is is2 F2,(∀ d,qcG cx.P (recs d))/\(∀ d,qcG cx.P (recs2 d))/\qjY cx recs recs2 ops F p q is is2 F' F2/\vP p q 0 ops=true:=by
 unfold qeJ at e;cases h2:tdrun cx ops (xy ops (Ye p q ops.length)) F ad with
 |none=>simp[h2]at e
 |some y=>
  obtain⟨F2,is2,ad1,qs⟩:=y;simp only[h2]at e;cases h1:tdrun cx ops ops F ad1 with
  |none=>simp[h1]at e
  |some z=>obtain⟨F1,is,ad2,ps1⟩:=z;simp only[h1]at e;obtain⟨hc,e⟩:=ze e;rw[aC]at hc;simp only[aa,ai]at e;obtain⟨rfl,rfl,rfl⟩:=e;obtain⟨recs1,o1,k1⟩:=xK h1 (fun p hm=>hp p (aB _ (aS _ hm)));obtain⟨recs2,o2,k2⟩:=xK h2 (fun p hm=>hp p (aB _ (aL _ hm)));exact⟨recs1,recs2,is,is2,F2,o1,o2,⟨k1,k2,hp _ au,hc.2⟩,hc.1⟩
theorem QR {D cx ops F F' ad ad' ps}(e:tadraw cx ops.toList F ad=some (F',ad',ps))(hp:∀ p∈ps,p)(hmix:cx.P.follows .mixedOrders=true){G0 w0 G w a Q id}(h:RelF G w F a.tmps)(hg:zS G0 w0 G w)(hd:D a)(hD:∀ o∈ops,∀ a V,D a->D (a.put o.dst V))(hq:∀ a' w',Stands D G0 w0 F' a' w'->Q .normal a' w'):(Code.region id ops true).wp cx.P Q a w:=by
 have one:∀ {ad:Advs},(match tdrun cx ops.toList ops.toList F ad with
   |some (F',is,ad',ps)=>if vw 0 ops.toList&&vS (befL ops.toList []) is 0 is then some (F',ad',ps)else none
   |none=>none)=some (F',ad',ps)->(Code.region id ops true).wp cx.P Q a w:=by
  intro ad e;cases h1:tdrun cx ops.toList ops.toList F ad with
  |none=>simp[h1]at e
  |some y=>obtain⟨F1,is,ad1,qs⟩:=y;simp only[h1]at e;obtain⟨hc,e⟩:=ze e;simp only[aa,ai]at e;obtain⟨rfl,rfl,rfl⟩:=e;obtain⟨recs,k1,k2⟩:=xK h1 hp;exact qek (fun d=>(k1 d).1) (fun d=>(k1 d).2) hmix h hg hd (by simp only[adraw,k2,hc,if_true]) hD hq
 unfold tadraw at e;split at e
 . obtain⟨recs,recs2,is,is2,F2,o1,o2,k,hno⟩:=qcO e hp;exact qdL (fun d=>(o1 d).1) (fun d=>(o1 d).2) (fun d=>(o2 d).1) (fun d=>(o2 d).2) hmix h hg hd k hno hD hq
 . exact one e
theorem qgz {f args bx res bx'}(f1 a b r b')(e:vG f args bx res bx' f1 a b=some (r,b')):r=res:=by
 unfold vG at e;split at e
 . simp only[aa,ai]at e;exact e.1.symm
 . cases e
theorem qct {D cx ops F q nb ad v bx ps}(e:qel cx ops.toList F q nb ad=some (v,bx,ps))(hp:∀ p∈ps,p)(hmix:cx.P.follows .mixedOrders=true){G0 w0 G w a Q id}(h:RelF G w F a.tmps)(hg:zS G0 w0 G w)(hd:D a)(hD:∀ o∈ops,∀ a V,D a->D (a.put o.dst V))(hq:∀ a' w' Fp,Stands D G0 w0 Fp a' w'->zD Fp nb=some bx->Q (.panic [{ v,recovered:=false }]) a' w'):(Code.region id ops true).wp cx.P Q a w:=by
 unfold qel at e;split at e
 .
  rename_i F1 is dd vv bx1 tt ps1 h1;split at e
  .
   rename_i o ho;split at e
   .
    rename_i g args at' hop;split at e
    .
     rename_i f first caps hw hg'
     split at e
     .
      rename_i F2 qs v2 h2;simp only[qa1]at e;split at e
      . rename_i b hb;obtain⟨hc,e⟩:=ze e;simp only[aa,ai]at e;obtain⟨rfl,rfl,rfl⟩:=e;obtain⟨recs,k1,k2⟩:=xK h1 (fun p hm=>hp p (aL _ hm));obtain⟨args',bx0,hE,hcf⟩:=xV h2 (fun p hm=>hp p (aS _ hm));rw[aC,aC]at hc;obtain⟨⟨hcl,hdq⟩,hc⟩:=hc;rw[aC]at hcl;have hcall:Qa o=true:=by unfold Qa;rw[hop]
        refine qf8 (fun d=>(k1 d).1) (fun d=>(k1 d).2) (xP hE).1 (xP hE).2 (fun f1 a b r b'=>qgz f1 a b r b') hmix (F2:=F1.merge (F2.putK o.dst (.c (.imm []))) (qC F1 o)) h hg hd ho hcall (I:=zJ F1 _ (qC F1 o) (xW ops.toList o++slotsOf o) true) rfl hdq k2 ?_ hc hb hcl.2 hD hq;have hcf':=qgM hcf;obtain⟨dst,op,ty,pos,after,guard⟩:=o;simp only at hop;subst hop;have hm:∀ F,mvop cx F ⟨dst,.call { callee:=.value g,args:=args,argTypes:=at' },ty,pos,after,guard⟩=none:=fun F=>rfl;have hq2:∀ F,quiet cx F ⟨dst,.call { callee:=.value g,args:=args,argTypes:=at' },ty,pos,after,guard⟩=none:=by intro F;rfl
        have hl:∀ F,loud cx F ⟨dst,.call { callee:=.value g,args:=args,argTypes:=at' },ty,pos,after,guard⟩=none:=by intro F;rfl
        unfold dop;simp only[hw,hq2,hcl.1,if_true];unfold aop;simp only[hm];unfold aop0;simp only[hq2,hl,hg',hcf']
      . cases e
     . cases e
    . cases e
   . cases e
  . cases e
 . cases e
def YG (P:Program)(c:Code)(Q:Exit->Act->World->Prop)(a:Act)(w:World):Prop:=∀ (b:Frame) (k:List Item) (cs:List Frame),∃ e a' w',Q e a' w'/\Arrives P (lone (b.at a (.code c :: .inLoop c::k)) cs w) b k cs e a' w'
theorem YG.loop {P c Q a w}(h:YG P c Q a w):(Code.loop c).wp P Q a w:=by intro b k cs;obtain⟨e,a',w',hq,harr⟩:=h b k cs;exact⟨e,a',w',hq,.of_steps (.one step_loop) harr⟩
theorem YG.round {P c Q a w}(h:c.wp P (Exit.then (YG P c Q) Q) a w):YG P c Q a w:=by
 intro b k cs;obtain⟨e,a₁,w₁,hq,harr⟩:=h b (.inLoop c::k) cs;cases e with
 |normal=>obtain⟨e₂,a₂,w₂,hq₂,harr₂⟩:=hq b k cs;exact⟨e₂,a₂,w₂,hq₂,.of_steps (Steps.trans harr (.one step_inLoop)) harr₂⟩
 |exit id=>exact⟨_,a₁,w₁,hq,.pass (x:=.inLoop c) rfl (fun _ _=>.inl (by simp)) harr⟩
 |goto l=>exact⟨_,a₁,w₁,hq,.pass (x:=.inLoop c) rfl (fun _ _=>.inl (by simp)) harr⟩
 |ret=>exact⟨_,a₁,w₁,hq,.pass (x:=.inLoop c) rfl (fun _ _=>.inl (by simp)) harr⟩
 |panic ch=>exact⟨_,a₁,w₁,hq,.pass (x:=.inLoop c) rfl (fun _ _=>.inl (by simp)) harr⟩
 |outgrown=>exact⟨_,a₁,w₁,hq,.pass (x:=.inLoop c) rfl (fun _ _=>.inl (by simp)) harr⟩
def KQ (P:Program):List TItem->(Exit->Act->World->Prop)->Exit->Act->World->Prop
 |[],Q=>Q
 |.code c::K,Q=>Exit.then (c.wp P (KQ P K Q)) (KQ P K Q)
 |.inBlock id::K,Q=>Exit.inBlock id (KQ P K Q)
 |.inLoop b::K,Q=>Exit.then (YG P b (KQ P K Q)) (KQ P K Q)
def Fin (cx:Cx)(fn:Func)(K:List TItem)(F:Fr)(res:ARes)(bx:List (List Cell)):Prop:=∀ G0 w0 G w a,(∀ d,¬ G0.lv d)->RelF G w F a.tmps->zS G0 w0 G w->a.defers=[]->KQ cx.P K (bodyPost cx.P fn (Went G0 w0 res bx)) .normal a w
def TStop.ends (cx:Cx)(fn:Func)(s:TStop)(res:ARes)(bx:List (List Cell)):Prop:=match s with
 |.fin r b=>r=res/\b=bx
 |.at K F=>Fin cx fn K F res bx
theorem qd9 {P Q a w}(h:Q .ret a w):∀ K,KQ P K Q .ret a w
 |[]=>h
 |.code _::K=>qd9 h K
 |.inBlock _::K=>qd9 h K
 |.inLoop _::K=>qd9 h K
theorem Yu {P Q a w ch}(h:Q (.panic ch) a w):∀ K,KQ P K Q (.panic ch) a w
 |[]=>h
 |.code _::K=>Yu h K
 |.inBlock _::K=>Yu h K
 |.inLoop _::K=>Yu h K
theorem qbm {P Q a w id}:∀ {K K':List TItem},YX id K=some K'->KQ P K' Q .normal a w->KQ P K Q (.exit id) a w
 |[],K',e,_=>by simp[YX]at e
 |.code _::K,K',e,h=>qbm (K:=K) e h
 |.inLoop _::K,K',e,h=>qbm (K:=K) e h
 |.inBlock id'::K,K',e,h=>by
  simp only[YX]at e;show if id=id' then KQ P K Q .normal a w else KQ P K Q (.exit id) a w
  by_cases hid:id'=id
  . rw[aD hid]at e;rw[aD hid.symm];cases e;exact h
  . rw[aF hid]at e;rw[aF (fun e=>hid e.symm)];exact qbm e h
theorem XL {P fn nb F res bx}(e:tfin P fn nb F=some (.fin res bx)){G0 G w0 w}{a:Act}(hlv:∀ d,¬ G0.lv d)(h:RelF G w F a.tmps)(hg:zS G0 w0 G w)(hd:a.defers=[]):a.defers=[]/\∃ v,(results fn a.tmps).run P w=.ok v w/\Went G0 w0 res bx (.returned v) w:=by
 refine⟨hd,?_⟩;unfold tfin at e;cases h1:QS P F fn.results.toList with
 |none=>simp[h1]at e
 |some z=>
  obtain⟨vs,F2⟩:=z;simp only[h1]at e;cases h2:qjr vs with
  |none=>simp[h2]at e
  |some v=>
   cases h3:zD F2 nb with
   |none=>simp[h2,h3]at e
   |some bx2=>
    simp only[h2,h3,aa,TStop.fin.injEq]at e;obtain⟨rfl,rfl⟩:=e;obtain⟨im',xss,Us,b0,b1,b2,b3,b4,b5,b6⟩:=QE fn.results.toList vs G F F2 h h1;obtain⟨s1,s2⟩:=qii b4 h2;refine⟨_,qei b0,?_⟩;obtain⟨l1,l2⟩:=qdA (sl:=[v]) (ts1:=#[qbe Us.toArray]) b1 b5 h3 rfl (fun k v' hk=>by
     cases k with
     |zero=>simp only[aI,aa]at hk;subst hk;refine⟨rfl,_,rfl,s1,fun r o c hc=>?_⟩;obtain⟨xs,us,u,q1,q2,q3,q4⟩:=s2 r o c hc;exact⟨xs,us,u,q1,q2,q3,q4⟩
     |succ k=>simp at hk) (fun s hs=>by
      have nouse:∀ {xss:List (List (Option Pl))} {vs:List (Bool×List Cell)} {Us:List Value},XH { G with im:=im' } w F2 xss vs Us->some s∈xss.flatten ->
        ((∀ i,s.key.root≠.par i)/\s.key.path=[])/\∀ π,¬ Uses F2 (s.under π):=by
       intro xss
       induction xss with
       |nil=>intro vs Us _ hm;simp at hm
       |cons xs xss ih=>
        intro vs Us hh hm;cases vs with
        |nil=>exact hh.elim
        |cons y vs=>
         obtain⟨g,l⟩:=y;cases Us with
         |nil=>exact hh.elim
         |cons U Us=>
          obtain⟨⟨us,h1,_⟩,h2⟩:=hh;rw[List.flatten_cons,List.mem_append]at hm;rcases hm with hm|hm
          . exact h1.nouse hm
          . exact ih h2 hm
      exact nouse b4 hs)
    exact⟨_,((hg.trans b2.w).trans l2).full hlv,_,rfl,l1⟩
theorem Xc {F nb v bx}(h3:zD F nb=some bx){G0 G w0 w}{a:Act}(hlv:∀ d,¬ G0.lv d)(h:RelF G w F a.tmps)(hg:zS G0 w0 G w)(hd:a.defers=[]):a.defers=[]/\Went G0 w0 (.panic v) bx (.panicked [{ v,recovered:=false }]) w:=by refine⟨hd,?_⟩;obtain⟨l1,l2⟩:=qdA (xss:=[]) (sl:=[]) (ts1:=#[]) h (by unfold Nod;simp) h3 rfl (by simp) (by simp);exact⟨_,(hg.trans l2).full hlv,rfl,l1⟩
theorem qfx {P fn nb F s}(e:tfin P fn nb F=some s):∃ r b,s=.fin r b:=by
 unfold tfin at e;split at e
 .
  split at e
  . simp only[aa]at e;exact⟨_,_,e.symm⟩
  . cases e
 . cases e
theorem qoM {cx fn nb}(hmix:cx.P.follows .mixedOrders=true){res bx}:∀ {n:Nat} {K:List TItem} {F:Fr} {ad:Advs} {s:TStop} {ps:List Prop},
  mgo cx fn nb n K F ad=some (s,ps)->(∀ p∈ps,p)->s.ends cx fn res bx->Fin cx fn K F res bx
 |0,K,F,ad,s,ps,e,_,hs=>by
  simp only[mgo]at e;split at e
  . simp only[aa,ai]at e;obtain⟨rfl,_⟩:=e;exact hs
  . cases e
 |n+1,[],F,ad,s,ps,e,hp,hs=>by
  simp only[mgo]at e;split at e
  . split at e
    . rename_i s' h;simp only[aa,ai]at e;obtain⟨rfl,_⟩:=e;obtain⟨r,b,rfl⟩:=qfx h;obtain⟨rfl,rfl⟩:=hs;exact fun G0 w0 G w a hlv hr hg hd=>XL h hlv hr hg hd
    . cases e
  . cases e
 |n+1,.inLoop b::K,F,ad,s,ps,e,hp,hs=>by
  simp only[mgo]at e;split at e
  . have:=qoM hmix e hp hs;exact fun G0 w0 G w a hlv hr hg hd=>YG.round (this G0 w0 G w a hlv hr hg hd)
  . rw[qa1]at e;have:=qoM hmix e hp hs;intro G0 w0 G w a hlv hr hg hd;obtain⟨G',r1,g1⟩:=qax hr [] _;exact YG.round (this G0 w0 G' w a hlv r1 (hg.trans g1) hd)
 |n+1,.inBlock id::K,F,ad,s,ps,e,hp,hs=>by simp only[mgo]at e;have:=qoM hmix e hp hs;exact fun G0 w0 G w a hlv hr hg hd=>this G0 w0 G w a hlv hr hg hd
 |n+1,.code c::K,F,ad,s,ps,e,hp,hs=>by
  cases c with
  |skip=>simp only[mgo]at e;have:=qoM hmix e hp hs;exact fun G0 w0 G w a hlv hr hg hd=>wp_skip (this G0 w0 G w a hlv hr hg hd)
  |region id ops draw=>
   simp only[mgo]at e;cases draw with
   |true=>
    rw[aD rfl]at e;split at e
    . split at e
      . rename_i v bx2 qs h1;simp only[aa,ai]at e;obtain⟨rfl,rfl⟩:=e;obtain⟨rfl,rfl⟩:=hs;intro G0 w0 G w a hlv hr hg hd;refine qct h1 hp hmix hr hg hd (fun o _ a V=>QH a o.dst V) fun a' w' Fp hst hb=>?_;obtain⟨hd',G',hg',hr'⟩:=hst;exact Yu (Xc hb hlv hr' hg' hd') K
      . cases e
    .
     split at e
     . rename_i F1 ad1 qs h1;cases h2:mgo cx fn nb n K F1 ad1 with
       |none=>simp[h2,qf3]at e
       |some y=>obtain⟨s',qs2⟩:=y;simp only[h2,qf3,aa,ai]at e;obtain⟨rfl,rfl⟩:=e;have ih:=qoM hmix h2 (fun p hm=>hp p (aS _ hm)) hs;intro G0 w0 G w a hlv hr hg hd;refine QR h1 (fun p hm=>hp p (aL _ hm)) hmix hr hg hd (fun o _ a V=>QH a o.dst V) fun a' w' hst=>?_;obtain⟨hd',G',hg',hr'⟩:=hst;exact ih G0 w0 G' w' a' hlv hr' hg' hd'
     . cases e
   |false=>
    rw[aF (by simp)]at e;have reg:∀ {F1:Fr} {r:Option Value} {ad1:Advs} {qs:List Prop},taops cx ops.toList ops.toList F ad=some (F1,ad1,qs,r)->(∀ p∈qs,p)->∀ {Q:Exit->Act->World->Prop} {G0 w0 G w a},
      RelF G w F a.tmps->zS G0 w0 G w->a.defers=[]->(r=none->∀ a' w',Stands D0 G0 w0 F1 a' w'->Q .normal a' w')->(∀ v,r=some v->∀ a' w',Stands D0 G0 w0 F1 a' w'->Q (.panic [{ v,recovered:=false }]) a' w') ->
      (Code.region id ops false).wp cx.P Q a w:=by
     intro F1 r ad1 qs h1 hq Q G0 w0 G w a hr hg hd hn hpn;obtain⟨recs,k1,k2⟩:=zP h1 hq;refine wp_region ?_;have hrg:List.range ops.size=List.range' 0 ops.toList.length:=by rw[List.range_eq_range'];simp
     rw[hrg];exact qbV (fun d=>(k1 d).1) (fun d=>(k1 d).2) ops.toList 0 G w F a F1 r (fun k=>by simp) (fun o _ a V=>QH a o.dst V) hr hg hd k2 hn hpn
    split at e
    . rename_i F1 ad1 qs h1;cases h2:mgo cx fn nb n K F1 ad1 with
      |none=>simp[h2,qf3]at e
      |some y=>obtain⟨s',qs2⟩:=y;simp only[h2,qf3,aa,ai]at e;obtain⟨rfl,rfl⟩:=e;have ih:=qoM hmix h2 (fun p hm=>hp p (aS _ hm)) hs;intro G0 w0 G w a hlv hr hg hd;refine reg h1 (fun p hm=>hp p (aL _ hm)) hr hg hd (fun _ a' w' hst=>?_) (fun v hv=>by cases hv);obtain⟨hd',G',hg',hr'⟩:=hst;exact ih G0 w0 G' w' a' hlv hr' hg' hd'
    . rename_i F1 qs v h1;split at e
      . rename_i bx2 h3;simp only[aa,ai]at e;obtain⟨rfl,rfl⟩:=e;obtain⟨rfl,rfl⟩:=hs;intro G0 w0 G w a hlv hr hg hd;refine reg h1 hp hr hg hd (fun hn=>by cases hn) (fun v' hv a' w' hst=>?_);cases hv;obtain⟨hd',G',hg',hr'⟩:=hst;exact Yu (Xc h3 hlv hr' hg' hd') K
      . cases e
    . cases e
  |seq a b=>simp only[mgo]at e;have:=qoM hmix e hp hs;exact fun G0 w0 G w a hlv hr hg hd=>wp_seq (this G0 w0 G w a hlv hr hg hd)
  |cond c a b=>
   simp only[mgo]at e;split at e
   . rename_i hc;have:=qoM hmix e hp hs;exact fun G0 w0 G w a hlv hr hg hd=>wp_cond_true (yc (qx hr c) hc) (this G0 w0 G w a hlv hr hg hd)
   . rename_i hc;have:=qoM hmix e hp hs;exact fun G0 w0 G w a hlv hr hg hd=>wp_cond_false (yc (qx hr c) hc) (this G0 w0 G w a hlv hr hg hd)
   . cases e
  |block id b=>simp only[mgo]at e;have:=qoM hmix e hp hs;exact fun G0 w0 G w a hlv hr hg hd=>wp_block (Code.wp_mono (fun e a w q=>by cases e<;>exact q) (this G0 w0 G w a hlv hr hg hd))
  |loop b=>simp only[mgo]at e;have:=qoM hmix e hp hs;exact fun G0 w0 G w a hlv hr hg hd=>(this G0 w0 G w a hlv hr hg hd:YG cx.P b _ a w).loop
  |exit id=>
   simp only[mgo]at e;split at e
   . rename_i K' hk;have:=qoM hmix e hp hs;exact fun G0 w0 G w a hlv hr hg hd=>wp_exit (qbm hk (this G0 w0 G w a hlv hr hg hd))
   . cases e
  |ret=>
   simp only[mgo]at e;split at e
   . split at e
     . rename_i s' h;simp only[aa,ai]at e;obtain⟨rfl,_⟩:=e;obtain⟨r,b,rfl⟩:=qfx h;obtain⟨rfl,rfl⟩:=hs;exact fun G0 w0 G w a hlv hr hg hd=>wp_ret (qd9 (XL h hlv hr hg hd) K)
     . cases e
   . cases e
  |_=>simp[mgo]at e
def fr0 (fn:Func)(args:List AV)(bx:List (List Cell)):Fr:=⟨args++List.replicate (fn.ntmps-args.length) .undef,qd 0 bx⟩
theorem qV {P hand f fn body cx args bx bx' res}(hf:P.funcs[f]? = some fn)(hb:fn.body=some body)(hn:(fn.name == "runtime.NumGoroutine")=false)(hP:cx.P=P)(h:Fin cx fn [.code body] (fr0 fn args bx) res bx'):Ev P hand f args bx res bx':=by
 subst hP;refine⟨⟨fn,hf,by rw[hb];rfl,hn⟩,fun G w Vs hr=>?_⟩;have hlv:∀ d,¬ G.lv d:=fun d hd=>by obtain⟨l,hl⟩:=Option.isSome_iff_exists.1 (hr.live d hd);obtain⟨i,h1,_⟩:=za _ _ _ _ hl;cases h1
 have h0:=qbu hr fn.ntmps;exact calls_of_wp hf hb (h G w G w _ hlv h0 (Gain.refl G w).w rfl)
end
section
variable [Glob]
theorem YG.mono {P c Q Q'}(hm:∀ e a w,Q e a w->Q' e a w){a w}(h:YG P c Q a w):YG P c Q' a w:=by intro b k cs;obtain⟨e,a',w',hq,harr⟩:=h b k cs;exact⟨e,a',w',hm _ _ _ hq,harr⟩
theorem qcu {P Q Q'}(hm:∀ e a w,Q e a w->Q' e a w):∀ {K:List TItem} {e:Exit} {a:Act} {w:World},KQ P K Q e a w->KQ P K Q' e a w
 |[],e,a,w,h=>hm _ _ _ h
 |.code c::K,e,a,w,h=>by
  have hK:∀ e a w,KQ P K Q e a w->KQ P K Q' e a w:=fun _ _ _=>qcu hm;cases e with
  |normal=>exact Code.wp_mono hK h
  |_=>exact hK _ _ _ h
 |.inBlock id::K,e,a,w,h=>by
  have hK:∀ e a w,KQ P K Q e a w->KQ P K Q' e a w:=fun _ _ _=>qcu hm;cases e with
  |exit id'=>
   have h':if id'=id then KQ P K Q .normal a w else KQ P K Q (.exit id') a w:=h
   show if id'=id then KQ P K Q' .normal a w else KQ P K Q' (.exit id') a w
   split at h'
   . rename_i hi;rw[aD hi];exact hK _ _ _ h'
   . rename_i hi;rw[aF hi];exact hK _ _ _ h'
  |_=>exact hK _ _ _ h
 |.inLoop b::K,e,a,w,h=>by
  have hK:∀ e a w,KQ P K Q e a w->KQ P K Q' e a w:=fun _ _ _=>qcu hm;cases e with
  |normal=>exact YG.mono hK h
  |_=>exact hK _ _ _ h
def FinQ (D:Act->Prop)(cx:Cx)(Q:Gh->World->Exit->Act->World->Prop)(K:List TItem)(F:Fr):Prop:=∀ G0 w0 G w a,(∀ d,¬ G0.lv d)->RelF G w F a.tmps->zS G0 w0 G w->D a->KQ cx.P K (Q G0 w0) .normal a w
theorem Fin.q {cx fn K F res bx}(h:Fin cx fn K F res bx){Q}(hm:∀ G0 w0 e a w,bodyPost cx.P fn (Went G0 w0 res bx) e a w->Q G0 w0 e a w):FinQ D0 cx Q K F:=fun G0 w0 G w a hlv hr hg hd=>qcu (hm G0 w0) (h G0 w0 G w a hlv hr hg hd)
inductive DStop where
 |at (K:List TItem) (F:Fr)
 |ret (F:Fr)
 |pan (v:Value) (F:Fr)
def addD (ps:List Prop):Option (DStop×List Prop)->Option (DStop×List Prop)
 |some (s,qs)=>some (s,ps++qs)
 |none=>none
def dOk (t:Option Nat)(o:Oper):Bool:=match t with
 |none=>true
 |some k=>o.dst != some k
def mgoD (cx:Cx)(t:Option Nat):Nat->List TItem->Fr->Advs->Option (DStop×List Prop)
 |0,K,F,ad=>match ad with
  |[]=>some (.at K F,[])
  |_=>none
 |n+1,K,F,ad=>match K with
  |[]=>match ad with
   |[]=>some (.ret F,[])
   |_=>none
  |.inLoop b::K=>match qfB b with
   |[]=>mgoD cx t n (.code b :: .inLoop b::K) F ad
   |ls=>qdU (F.norm [] ls) fun F=>mgoD cx t n (.code b :: .inLoop b::K) F ad
  |.inBlock _::K=>mgoD cx t n K F ad
  |.code c::K=>match c with
   |.skip=>mgoD cx t n K F ad
   | .region _ ops draw=>if !ops.toList.all (dOk t)then none else if draw then(match tadraw cx ops.toList F ad with
     |some (F',ad',ps)=>addD ps (mgoD cx t n K F' ad')
     |none=>none)
    else match taops cx ops.toList ops.toList F ad with
     |some (F',ad',ps,none)=>addD ps (mgoD cx t n K F' ad')
     |some (F',[],ps,some v)=>some (.pan v F',ps)
     |_=>none
   |.seq a b=>mgoD cx t n (.code a :: .code b::K) F ad
   |.cond c a b=>match (F.ev c).con with
    |some (.bool true)=>mgoD cx t n (.code a::K) F ad
    |some (.bool false)=>mgoD cx t n (.code b::K) F ad
    |_=>none
   |.block id b=>mgoD cx t n (.code b :: .inBlock id::K) F ad
   |.loop b=>mgoD cx t n (.inLoop b::K) F ad
   |.exit id=>match YX id K with
    |some K'=>mgoD cx t n K' F ad
    |none=>none
   |.ret=>match ad with
    |[]=>some (.ret F,[])
    |_=>none
   |_=>none
def DStop.ends (D:Act->Prop)(cx:Cx)(Q:Gh->World->Exit->Act->World->Prop):DStop->Prop
 |.at K F=>FinQ D cx Q K F
 |.ret F=>∀ G0 w0 G w a,(∀ d,¬ G0.lv d)->RelF G w F a.tmps->zS G0 w0 G w->D a->Q G0 w0 .normal a w/\Q G0 w0 .ret a w
 |.pan v F=>∀ G0 w0 G w a,(∀ d,¬ G0.lv d)->RelF G w F a.tmps->zS G0 w0 G w->D a->Q G0 w0 (.panic [{ v,recovered:=false }]) a w
theorem qA {D cx t}(hmix:cx.P.follows .mixedOrders=true)(hD:∀ o,dOk t o=true->∀ a V,D a->D (a.put o.dst V)){Q}:
  ∀ {n:Nat} {K:List TItem} {F:Fr} {ad:Advs} {s:DStop} {ps:List Prop},mgoD cx t n K F ad=some (s,ps)->(∀ p∈ps,p)->s.ends D cx Q->FinQ D cx Q K F
 |0,K,F,ad,s,ps,e,_,hs=>by
  simp only[mgoD]at e;split at e
  . simp only[aa,ai]at e;obtain⟨rfl,_⟩:=e;exact hs
  . cases e
 |n+1,[],F,ad,s,ps,e,hp,hs=>by
  simp only[mgoD]at e;split at e
  . simp only[aa,ai]at e;obtain⟨rfl,_⟩:=e;exact fun G0 w0 G w a hlv hr hg hd=>(hs G0 w0 G w a hlv hr hg hd).1
  . cases e
 |n+1,.inLoop b::K,F,ad,s,ps,e,hp,hs=>by
  simp only[mgoD]at e;split at e
  . have:=qA hmix hD e hp hs;exact fun G0 w0 G w a hlv hr hg hd=>YG.round (this G0 w0 G w a hlv hr hg hd)
  . rw[qa1]at e;have:=qA hmix hD e hp hs;intro G0 w0 G w a hlv hr hg hd;obtain⟨G',r1,g1⟩:=qax hr [] _;exact YG.round (this G0 w0 G' w a hlv r1 (hg.trans g1) hd)
 |n+1,.inBlock id::K,F,ad,s,ps,e,hp,hs=>by simp only[mgoD]at e;have:=qA hmix hD e hp hs;exact fun G0 w0 G w a hlv hr hg hd=>this G0 w0 G w a hlv hr hg hd
 |n+1,.code c::K,F,ad,s,ps,e,hp,hs=>by
  cases c with
  |skip=>simp only[mgoD]at e;have:=qA hmix hD e hp hs;exact fun G0 w0 G w a hlv hr hg hd=>wp_skip (this G0 w0 G w a hlv hr hg hd)
  |region id ops draw=>
   simp only[mgoD]at e;by_cases hok:ops.toList.all (dOk t)=true
   case neg=>rw[aD (by simpa using hok)]at e;cases e
   rw[aF (by simp[hok])]at e;have hD':∀ o∈ops.toList,∀ a V,D a->D (a.put o.dst V):=fun o ho=>hD o ((List.all_eq_true.1 hok) o ho);cases draw with
   |true=>
    rw[aD rfl]at e;split at e
    . rename_i F1 ad1 qs h1;cases h2:mgoD cx t n K F1 ad1 with
      |none=>simp[h2,addD]at e
      |some y=>obtain⟨s',qs2⟩:=y;simp only[h2,addD,aa,ai]at e;obtain⟨rfl,rfl⟩:=e;have ih:=qA hmix hD h2 (fun p hm=>hp p (aS _ hm)) hs;intro G0 w0 G w a hlv hr hg hd;refine QR h1 (fun p hm=>hp p (aL _ hm)) hmix hr hg hd (fun o ho=>hD' o (Array.mem_toList_iff.2 ho)) fun a' w' hst=>?_;obtain⟨hd',G',hg',hr'⟩:=hst;exact ih G0 w0 G' w' a' hlv hr' hg' hd'
    . cases e
   |false=>
    rw[aF (by simp)]at e;have reg:∀ {F1:Fr} {r:Option Value} {ad1:Advs} {qs:List Prop},taops cx ops.toList ops.toList F ad=some (F1,ad1,qs,r)->(∀ p∈qs,p)->∀ {Q:Exit->Act->World->Prop} {G0 w0 G w a},
      RelF G w F a.tmps->zS G0 w0 G w->D a->(r=none->∀ a' w',Stands D G0 w0 F1 a' w'->Q .normal a' w')->(∀ v,r=some v->∀ a' w',Stands D G0 w0 F1 a' w'->Q (.panic [{ v,recovered:=false }]) a' w') ->
      (Code.region id ops false).wp cx.P Q a w:=by
     intro F1 r ad1 qs h1 hq Q G0 w0 G w a hr hg hd hn hpn;obtain⟨recs,k1,k2⟩:=zP h1 hq;refine wp_region ?_;have hrg:List.range ops.size=List.range' 0 ops.toList.length:=by rw[List.range_eq_range'];simp
     rw[hrg];exact qbV (fun d=>(k1 d).1) (fun d=>(k1 d).2) ops.toList 0 G w F a F1 r (fun k=>by simp) hD' hr hg hd k2 hn hpn
    split at e
    . rename_i F1 ad1 qs h1;cases h2:mgoD cx t n K F1 ad1 with
      |none=>simp[h2,addD]at e
      |some y=>obtain⟨s',qs2⟩:=y;simp only[h2,addD,aa,ai]at e;obtain⟨rfl,rfl⟩:=e;have ih:=qA hmix hD h2 (fun p hm=>hp p (aS _ hm)) hs;intro G0 w0 G w a hlv hr hg hd;refine reg h1 (fun p hm=>hp p (aL _ hm)) hr hg hd (fun _ a' w' hst=>?_) (fun v hv=>by cases hv);obtain⟨hd',G',hg',hr'⟩:=hst;exact ih G0 w0 G' w' a' hlv hr' hg' hd'
    . rename_i F1 qs v h1;simp only[aa,ai]at e;obtain⟨rfl,rfl⟩:=e;intro G0 w0 G w a hlv hr hg hd;refine reg h1 hp hr hg hd (fun hn=>by cases hn) (fun v' hv a' w' hst=>?_);cases hv;obtain⟨hd',G',hg',hr'⟩:=hst;exact Yu (hs G0 w0 G' w' a' hlv hr' hg' hd') K
    . cases e
  |seq a b=>simp only[mgoD]at e;have:=qA hmix hD e hp hs;exact fun G0 w0 G w a hlv hr hg hd=>wp_seq (this G0 w0 G w a hlv hr hg hd)
  |cond c a b=>
   simp only[mgoD]at e;split at e
   . rename_i hc;have:=qA hmix hD e hp hs;exact fun G0 w0 G w a hlv hr hg hd=>wp_cond_true (yc (qx hr c) hc) (this G0 w0 G w a hlv hr hg hd)
   . rename_i hc;have:=qA hmix hD e hp hs;exact fun G0 w0 G w a hlv hr hg hd=>wp_cond_false (yc (qx hr c) hc) (this G0 w0 G w a hlv hr hg hd)
   . cases e
  |block id b=>simp only[mgoD]at e;have:=qA hmix hD e hp hs;exact fun G0 w0 G w a hlv hr hg hd=>wp_block (Code.wp_mono (fun e a w q=>by cases e<;>exact q) (this G0 w0 G w a hlv hr hg hd))
  |loop b=>simp only[mgoD]at e;have:=qA hmix hD e hp hs;exact fun G0 w0 G w a hlv hr hg hd=>(this G0 w0 G w a hlv hr hg hd:YG cx.P b _ a w).loop
  |exit id=>
   simp only[mgoD]at e;split at e
   . rename_i K' hk;have:=qA hmix hD e hp hs;exact fun G0 w0 G w a hlv hr hg hd=>wp_exit (qbm hk (this G0 w0 G w a hlv hr hg hd))
   . cases e
  |ret=>
   simp only[mgoD]at e;split at e
   . simp only[aa,ai]at e;obtain⟨rfl,_⟩:=e;exact fun G0 w0 G w a hlv hr hg hd=>wp_ret (qd9 (hs G0 w0 G w a hlv hr hg hd).2 K)
   . cases e
  |_=>simp[mgoD]at e
theorem Zd {P fn R}:∀ e a w,bodyPost P fn R e a w->bodyPostD P fn R e a w:=by
 intro e a w h;cases e with
 |normal=>obtain⟨hd,v,hr,hR⟩:=h;show Leaves P fn a.tmps R a.defers .returning w;rw[hd];exact⟨v,hr,hR⟩
 |ret=>obtain⟨hd,v,hr,hR⟩:=h;show Leaves P fn a.tmps R a.defers .returning w;rw[hd];exact⟨v,hr,hR⟩
 |panic ch=>obtain⟨hd,hR⟩:=h;show Leaves P fn a.tmps R a.defers (.panicking ch) w;rw[hd];exact hR
 |outgrown=>exact h
 |exit id=>exact h
 |goto l=>exact h
def D1 (P:Program)(k f:Nat)(a:Act):Prop:=∃ fv cap dargs vs us,a.defers=[{ target:=.fn fv cap,args:=dargs }]/\a.tmps[k]? = some (.func (.func f) vs us)/\∀ w,(invoke (.fn fv cap) dargs).run P w=.ok (.enter f (vs++us)) w
theorem qmj {P k f}(o)(ho:dOk (some k) o=true)(a V)(h:D1 P k f a):D1 P k f (a.put o.dst V):=by
 obtain⟨fv,cap,dargs,vs,us,h1,h2,h3⟩:=h;refine⟨fv,cap,dargs,vs,us,(put_defers a o.dst V).trans h1,?_,h3⟩;simp only[dOk,bne_iff_ne,ne_eq]at ho;cases hd:o.dst with
 |none=>exact h2
 |some d=>show(a.tmps.setIfInBounds d V)[k]? = _;rw[aW,aF (fun e=>ho (by rw[hd,e]))];exact h2
def EvD (P:Program)(u uo:FrameMode)(f:Nat)(args:List AV)(bx:List (List Cell))(res:ARes)(bx':List (List Cell)):Prop:=∀ G w (Vs:Array Value),RelF G w ⟨args,qd 0 bx⟩ Vs->CallsD P f Vs u w fun e u' w'=>u'=uo/\Went G w res bx' e w'
def tdefer (cx:Cx)(u uo:FrameMode)(F:Fr)(k:Nat)(bx':List (List Cell)):Option (Fr×List Prop):=match (F.ev (.tmp k)).cell with
 |some (.clo f first caps)=>match Xw (EvD cx.P u uo) cx F none f (first.map .c++caps.map .c) (.ret .undef) bx' false with
  |some (F',ps,none)=>some (F',ps)
  |_=>none
 |_=>none
def cdef (cx:Cx)(rcl:Oracle)(F:Fr)(k:Nat):Option Fr:=match (F.ev (.tmp k)).cell with
 |some (.clo f first caps)=>match vZ cx rcl F none f (first.map .c++caps.map .c)with
  |some (F',none)=>some F'
  |_=>none
 |_=>none
def qy5 (P:Program)(u uo:FrameMode)(rcl:Oracle):Prop:=∀ f args bx res bx',rcl f args bx=some (res,bx')->EvD P u uo f args bx res bx'
theorem qyU {cx u uo F F' k rcl}(hcl:qy5 cx.P u uo rcl)(e:cdef cx rcl F k=some F'){G w}{a:Act}(h:RelF G w F a.tmps):
  ∃ f vs us,a.tmps.getD k Go.undef=.func (.func f) vs us/\CallsD cx.P f (vs++us) u w fun e u' w'=>u'=uo/\∃ G' V,Gain G w G' w'/\e=.returned V/\RelF G' w' F' a.tmps:=by
 unfold cdef at e;split at e
 .
  rename_i f first caps hc
  split at e
  .
   rename_i F1 hcall;simp only[aa]at e;subst e;obtain⟨_,hs⟩:=qp h hc (by simp);obtain⟨vs,us,e1,e2,e3⟩:=hs ⟨⟨.res,[]⟩,0,0⟩;refine⟨f,vs,us,e1,?_⟩;have key:=qaX (cx:=cx) (rec:=rcl) (C:=fun f Vs w R=>CallsD cx.P f Vs u w fun e u' w'=>u'=uo/\R e w')
    (fun f Vs w R R' h1 hm=>h1.mono fun e u' w' ⟨q1,q2⟩=>⟨q1,hm _ _ q2⟩)
    (fun f1 args1 bx1 res1 bx1' e'=>hcl f1 args1 bx1 res1 bx1' e')
    (a:=a) h (Vs:=(vs++us).toList) (by simp[xM e2,xM e3]) (fun j v V hv hV=>by
     have l1:vs.size=first.length:=by have:=xM e2;simp only[Array.length_toList]at this;omega
     rcases Nat.lt_or_ge j first.length with hj|hj
     . rw[aY (by simpa using hj),aH]at hv;rw[Array.toList_append,aY (by simp;omega)]at hV;cases hf:first[j]? with
       |none=>simp[hf]at hv
       |some c=>simp only[hf,av,aa]at hv;subst hv;exact Yd e2 j c V hf (by simpa using hV)
     . rw[aZ (by simpa using hj),aH]at hv;rw[Array.toList_append,aZ (by simp;omega)]at hV;simp only[List.length_map]at hv;cases hf:caps[j-first.length]? with
       |none=>simp[hf]at hv
       |some c=>simp only[hf,av,aa]at hv;subst hv;exact Yd e3 _ c V hf (by rw[<- hV];congr 1;simp;omega)) hcall
   have harr:((vs++us).toList).toArray=vs++us:=by simp
   rw[harr]at key;refine key.mono fun e u' w' hh=>?_;obtain⟨q1,G',q2,V,q3,q4⟩:=hh;exact⟨q1,G',V,q2,q3,q4⟩
  . cases e
 . cases e
theorem qxm {cx u uo F F' k bx' ps}(e:tdefer cx u uo F k bx'=some (F',ps))(hp:∀ p∈ps,p):∃ rcl,qy5 cx.P u uo rcl/\cdef cx rcl F k=some F':=by
 unfold tdefer at e;split at e
 .
  rename_i f first caps hc
  split at e
  . rename_i F1 qs h1;simp only[aa,ai]at e;obtain⟨rfl,rfl⟩:=e;obtain⟨args',bx,he,hcall⟩:=xV h1 hp;refine⟨vG f args' bx (.ret .undef) bx',fun f1 args1 bx1 res1 bx1' e'=>?_,by simp only[cdef,hc,hcall]⟩;unfold vG at e';split at e'
    . rename_i hh;obtain⟨rfl,rfl,rfl⟩:=hh;simp only[aa,ai]at e';obtain⟨rfl,rfl⟩:=e';exact he
    . cases e'
  . cases e
 . cases e
theorem qxh {cx fn nb u uo F F' k f rcl}(hcl:qy5 cx.P u uo rcl)(hu:u≠.run)(huo:settle uo=.returning)(e:cdef cx rcl F k=some F'){res bx}(hfin:tfin cx.P fn nb F'=some (.fin res bx)){G0 G w0 w a}(hlv:∀ d,¬ G0.lv d)(h:RelF G w F a.tmps)(hg:zS G0 w0 G w)(hd:D1 cx.P k f a):
  Leaves cx.P fn a.tmps (Went G0 w0 res bx) a.defers u w:=by
 obtain⟨fv,cap,dargs,vs,us,h1,h2,h3⟩:=hd;obtain⟨f',vs',us',g1,g2⟩:=qyU hcl e h;have:a.tmps.getD k Go.undef=.func (.func f) vs us:=by rw[aJ,h2];rfl
 rw[this]at g1;cases g1;rw[h1];refine leaves_cons hu (h3 w) (g2.mono fun e u' w' hh=>?_);obtain⟨rfl,G',V,q2,rfl,q4⟩:=hh;show Leaves cx.P fn a.tmps _ [] (settle u') w';rw[huo];obtain⟨_,v,r1,r2⟩:=XL (a:={ a with defers:=[] }) hfin hlv q4 (hg.trans q2.w) rfl;exact⟨v,r1,r2⟩
theorem qn5 {P}{k f:Nat}{a vs us}(hd:D0 a)(hV:a.tmps.getD k Go.undef=.func (.func f) vs us)(hf:∃ fn,P.funcs[f]? = some fn/\fn.body.isSome=true/\(fn.name == "runtime.NumGoroutine")=false):
  D1 P k f { a with defers:={ target:=.fn (.func f) us,args:=vs++#[] }::a.defers }:=by
 obtain⟨fn,h1,h2,h3⟩:=hf;refine⟨.func f,us,vs++#[],vs,us,by rw[hd],?_,fun w=>?_⟩
 .
  rw[aJ]at hV;cases hk:a.tmps[k]? with
  |none=>rw[hk]at hV;cases hV
  |some V=>rw[hk]at hV;exact congrArg some hV
 . have:=Yh (P:=P) h1 h2 h3 (vs++#[]++us) w;simp only[invoke];simpa using this
theorem qdV {cx Q}{k f id:Nat}{ops pre od K F F1 first caps argTypes recs}(k1:∀ d,qcG cx.P (recs d))(hops:ops.toList=pre++[od])(hod:od.op=.defer { callee:=.value (.tmp k),args:=#[],argTypes:=argTypes })(hdst:od.dst=none)(hgd:od.guard=none)(hf:∃ fn,cx.P.funcs[f]? = some fn/\fn.body.isSome=true/\(fn.name == "runtime.NumGoroutine")=false)(k2:aops cx recs ops.toList pre F=some (F1,none))(hc:(F1.ev (.tmp k)).cell=some (.clo f first caps))(h:FinQ (D1 cx.P k f) cx Q K F1):FinQ D0 cx Q (.code (.region id ops false)::K) F:=by
 intro G0 w0 G w a hlv hr hg hd;show(Code.region id ops false).wp cx.P (KQ cx.P K (Q G0 w0)) a w;refine wp_region ?_;have hsz:ops.size=pre.length+1:=by rw[<- Array.length_toList,hops];simp
 have hrg:List.range ops.size=List.range' 0 pre.length++[pre.length]:=by rw[hsz,List.range_succ,List.range_eq_range']
 rw[hrg];refine vN (D:=D0) (fun d=>(k1 d).1) (fun d=>(k1 d).2) pre 0 G w F a F1 none (fun j hj=>?_) (fun o _ a V=>QH a o.dst V) hr hg hd k2 (fun _ a' w' hst=>?_) (fun v hv=>by cases hv)
 . rw[Nat.zero_add,<- aQ,hops,aY hj]
 .
  obtain⟨hd',G',hg',hr'⟩:=hst;have ho:ops[pre.length]? = some od:=by rw[<- aQ,hops,aZ (Nat.le_refl _)];simp
  obtain⟨_,hs⟩:=qp hr' hc (by simp);obtain⟨vs,us,e1,e2,e3⟩:=hs ⟨⟨.res,[]⟩,0,0⟩;have run:(execOp a'.eval od).run cx.P w'=.ok (.defer { target:=.fn (.func f) us,args:=vs++#[] }) w':=by obtain⟨dst,op,ty,pos,after,guard⟩:=od;simp only at hod;subst hod;simp only[execOp,resolve,e1,Deferred.ofValue,pure_bind];simp[Sem.run]
  have hw:Region.wanted od (yielded ops a'.tmps)=true:=by simp[Region.wanted,hgd]
  simp only[wpOps,ho];rw[aD hw];left;unfold Oper.wp;rw[run];show KQ cx.P K (Q G0 w0) .normal (({ a' with defers:={ target:=.fn (.func f) us,args:=vs++#[] }::a'.defers }:Act).put od.dst Go.undef) w';rw[hdst];exact h G0 w0 G' w' _ hlv hr' hg' (qn5 hd' e1 hf)
theorem Xh {cx rec}(hrec:∀ d,qN cx.P (rec d))(hfn:∀ d,ZA cx.P (rec d)){ops G0 w0 Q cs}:
  ∀ (rest:List Oper) (i:Nat) (G:Gh) (w:World) (F:Fr) (a:Act) (F':Fr),(∀ k,rest[k]? = ops[i+k]?)->RelF G w F a.tmps->zS G0 w0 G w->D0 a->aops cx rec ops.toList rest F=some (F',none) ->
   (∀ a' w',Stands D0 G0 w0 F' a' w'->Q .normal a' cs w')->wpOpsS cx.P ops Q (List.range' i rest.length) a cs w
 |[],i,G,w,F,a,F',_,h,hg,hd,e,hn=>by simp only[aops,aa,ai]at e;obtain⟨rfl,_⟩:=e;exact hn a w ⟨hd,G,hg,h⟩
 |o::rest,i,G,w,F,a,F',hi,h,hg,hd,e,hn=>by
  have ho:ops[i]? = some o:=by have:=hi 0;simpa using this.symm
  have hi':∀ k,rest[k]? = ops[i+1+k]?:=fun k=>by have:=hi (k+1);rw[show i+(k+1)=i+1+k by omega]at this;simpa using this
  simp only[aops]at e;show wpOpsS cx.P ops Q (i::List.range' (i+1) rest.length) a cs w;simp only[wpOpsS,ho];cases hw:zi ops.toList F o with
  |none=>simp[hw]at e
  |some b=>
   have hb:=xh h hw;cases b with
   |true=>
    rw[aD hb];simp only[hw]at e;cases h1:aop cx (rec o.dst) F o with
    |none=>simp[h1]at e
    |some y=>
     obtain⟨F1,r1⟩:=y;simp only[h1]at e;cases r1 with
     |some v=>simp at e
     |none=>
      simp only at e;have key:=XI (hrec _) (hfn _) h h1 (next:=fun a' w'=>wpOpsS cx.P ops Q (List.range' (i+1) rest.length) a' cs w') (Q:=fun e a' w'=>Q e a' cs w')
       (fun _ V G' w' hr' hg'=>Xh hrec hfn rest (i+1) G' w' F1 _ F' hi' hr' (hg.trans hg'.w) (QH _ _ _ hd) e hn) (fun v hv=>by cases hv)
      unfold Oper.wp at key;generalize (execOp a.eval o).run cx.P w=r at key |-;split
      . exact absurd key (by simp[Oper.upon])
      . exact key
   |false=>rw[aF (by rw[hb];simp)];simp only[hw]at e;exact Xh hrec hfn rest (i+1) G w _ _ F' hi' (putO h (Xt G w)) hg (QH _ _ _ hd) e hn
theorem qml {P f fn id ops C cx args bx bx' res u uo val}{t:Nat}{o0 rest F1 recs}(hf:P.funcs[f]? = some fn)(hb:fn.body=some (.seq (.region id ops false) C))(hP:cx.P=P)(hops:ops.toList=o0::rest)(h0:∀ (a:Act) (w:World),(execOp a.eval o0).run P w=.ok .recover w)(hgd:o0.guard=none)(hd0:o0.dst=some t)(hval:oneC val=true)(hu:(u=.panicking [{ v:=val,recovered:=false }]/\uo=.panicking [{ v:=val,recovered:=true }])\/(u=.returning/\uo=.returning/\val=.nilIface))(k1:∀ d,qcG cx.P (recs d))(k2:aops cx recs ops.toList rest ((fr0 fn args bx).putS (some t) (.c (.val val)))=some (F1,none))(h:Fin cx fn [.code C] F1 res bx'):EvD P u uo f args bx res bx':=by
 subst hP;intro G w Vs hr;have hlv:∀ d,¬ G.lv d:=fun d hd=>by obtain⟨l,hl⟩:=Option.isSome_iff_exists.1 (hr.live d hd);obtain⟨i,h1,_⟩:=za _ _ _ _ hl;cases h1
 have h00:=qbu hr fn.ntmps;refine callsD_of_wpS hf hb fun c0 cs hc0=>wpS_seq (wpS_region ?_);have ho0:ops[0]? = some o0:=by rw[<- aQ,hops];rfl
 have hrg:List.range ops.size=0::List.range' 1 rest.length:=by
  have:ops.size=rest.length+1:=by rw[<- Array.length_toList,hops];simp
  rw[this,List.range_succ_eq_map,List.range'_eq_map_range];congr 1;apply List.map_congr_left;intro x _;omega
 rw[hrg];simp only[wpOpsS,ho0];rw[aD (by simp[Region.wanted,hgd])];rw[h0];have hput:=putV (d:=t) h00 (v:=.c (.val val)) (V:=val) (RelV.c (.inr ⟨⟨by intros;simp,by intros;simp⟩,fun p=>⟨rfl,hval⟩⟩));have go:∀ cs':List Frame,cs'={ c0 with mode:=uo }::cs->wpOpsS cx.P ops (Exit.thenS (C.wpS cx.P (bodyPostS cx.P fn c0 cs fun e u' w'=>u'=uo/\Went G w res bx' e w')) (bodyPostS cx.P fn c0 cs fun e u' w'=>u'=uo/\Went G w res bx' e w')) (List.range' 1 rest.length)
   ({ tmps:=(Vs++Array.replicate (fn.ntmps-Vs.size) undef).setIfInBounds t val,defers:=[] }:Act) cs' w:=by
  intro cs' hcs;refine Xh (fun d=>(k1 d).1) (fun d=>(k1 d).2) rest 1 G w _ _ F1 (fun k=>?_) hput (Gain.refl G w).w rfl k2 (fun a' w' hst=>?_)
  . rw[<- aQ,hops,Nat.add_comm 1 k];rfl
  .
   obtain⟨hd',G',hg',hr'⟩:=hst;show C.wpS cx.P _ a' cs' w';refine wpS_of_wp (Code.wp_mono (fun e a w2 hq=>?_) (h G w G' w' a' hlv hr' hg' hd'));cases e with
   |normal=>obtain⟨q1,v,q2,q3⟩:=hq;exact⟨q1,uo,hcs,v,q2,rfl,q3⟩
   |ret=>obtain⟨q1,v,q2,q3⟩:=hq;exact⟨q1,uo,hcs,v,q2,rfl,q3⟩
   |panic ch=>obtain⟨q1,q2⟩:=hq;exact⟨q1,uo,hcs,rfl,q2⟩
   |outgrown=>exact⟨uo,rfl,hq⟩
   |exit _=>exact hq
   |goto _=>exact hq
 rcases hu with⟨rfl,rfl⟩|⟨rfl,rfl,rfl⟩
 . have hrc:recoverD (c0::cs)=some (val,{ c0 with mode:=.panicking [{ v:=val,recovered:=true }] }::cs):=by simp[recoverD,hc0]
   simp only[hrc];have:=go _ rfl;rw[hd0];exact this
 .
  have hrc:recoverD (c0::cs)=none:=by simp[recoverD,hc0]
  simp only[hrc];have hcs:c0::cs={ c0 with mode:=.returning }::cs:=by rw[<- hc0]
  have:=go _ hcs;rw[hd0];exact this
def FinD (cx:Cx)(fn:Func)(D:Act->Prop)(K:List TItem)(F:Fr)(res:ARes)(bx:List (List Cell)):Prop:=FinQ D cx (fun G0 w0=>bodyPostD cx.P fn (Went G0 w0 res bx)) K F
theorem qjk {cx fn nb k f F F' rcl}(hcl:qy5 cx.P .returning .returning rcl)(e:cdef cx rcl F k=some F'){res bx}(hfin:tfin cx.P fn nb F'=some (.fin res bx)):(DStop.ret F).ends (D1 cx.P k f) cx (fun G0 w0=>bodyPostD cx.P fn (Went G0 w0 res bx)):=by intro G0 w0 G w a hlv hr hg hd;have:=qxh hcl (by simp) rfl e hfin hlv hr hg hd;exact⟨this,this⟩
theorem qjB {cx fn nb k f F F' v rcl}(hcl:qy5 cx.P (.panicking [{ v,recovered:=false }]) (.panicking [{ v,recovered:=true }]) rcl)(e:cdef cx rcl F k=some F'){res bx}(hfin:tfin cx.P fn nb F'=some (.fin res bx)):(DStop.pan v F).ends (D1 cx.P k f) cx (fun G0 w0=>bodyPostD cx.P fn (Went G0 w0 res bx)):=by intro G0 w0 G w a hlv hr hg hd;exact qxh hcl (by simp) rfl e hfin hlv hr hg hd
theorem qkI {P hand f fn body cx args bx bx' res}(hf:P.funcs[f]? = some fn)(hb:fn.body=some body)(hn:(fn.name == "runtime.NumGoroutine")=false)(hP:cx.P=P)(h:FinD cx fn D0 [.code body] (fr0 fn args bx) res bx'):Ev P hand f args bx res bx':=by
 subst hP;refine⟨⟨fn,hf,by rw[hb];rfl,hn⟩,fun G w Vs hr=>?_⟩;have hlv:∀ d,¬ G.lv d:=fun d hd=>by obtain⟨l,hl⟩:=Option.isSome_iff_exists.1 (hr.live d hd);obtain⟨i,h1,_⟩:=za _ _ _ _ hl;cases h1
 have h0:=qbu hr fn.ntmps;exact calls_of_wp_defers hf hb (h G w G w _ hlv h0 (Gain.refl G w).w rfl)
end
section
variable [Glob]
theorem qgY {G w w' args Vs}(h:RelF G w ⟨args,qd 0 []⟩ Vs)(hb:Go.RowKit.Below w.heap.size w w'){v V}(hv:∀ r o c,cellAt v.rows r o=some c->∃ x,c=.val x)(hr:YY G w ⟨.slot 0,[]⟩ v V):RelF G w' ⟨[v],qd 0 []⟩ #[V]:=by
 have hs:Same G w w':=⟨hb.size,fun b hi=>hb.block b (h.inv.imlt b hi),fun k x e=>hb.block x.b (h.inv.lt k x e)⟩
 have h0:RelF G w ⟨[v],qd 0 []⟩ #[V]:=by
  refine⟨h.inv,rfl,fun k v' e=>?_,fun r l e=>by simp[qd]at e,fun d hd=>by have:=h.live d hd;simp[qd]at this,fun k rows e hi=>?_⟩
  . cases k with
    |zero=>simp only[aI,aa]at e;subst e;exact⟨V,rfl,hr⟩
    |succ k=>simp at e
  .
   exfalso;by_cases hp:k.path=[]
   . rcases hi with hi|hi
     . exact hi hp
     . obtain⟨root,path⟩:=k;cases root<;>simp[Root.boxed]at hi<;>simp[Fr.rowsAt,Fr.rows,qd]at e
   .
    obtain⟨r,o,zz,rs,hg⟩:=Zg e hp;unfold Fr.get at hg;cases hx:Fr.rowsAt ⟨[v],qd 0 []⟩ ⟨k.root,[]⟩with
    |none=>simp[hx]at hg
    |some rows'=>
     simp only[hx,ae]at hg;have:∃ r o,cellAt v.rows r o=some (.own zz rs):=by
      obtain⟨root,path⟩:=k;cases root with
      |slot j=>
       cases j with
       |zero=>simp[Fr.rowsAt,Fr.rows,getR]at hx;subst hx;exact⟨_,_,hg⟩
       |succ j=>simp[Fr.rowsAt,Fr.rows]at hx
      |_=>simp[Fr.rowsAt,Fr.rows,qd]at hx
     obtain⟨r,o,hc⟩:=this;obtain⟨x,hx⟩:=hv r o _ hc;cases hx
 exact h0.same hs
theorem Qn {G w w' args Vs}(h:RelF G w ⟨args,qd 0 []⟩ Vs)(hb:Go.RowKit.Below w.heap.size w w'){v V}(hv:∀ r o c,cellAt v.rows r o=some c->∃ x,c=.val x)(hr:YY G w ⟨.slot 0,[]⟩ v V):Went G w (.ret v) [] (.returned V) w':=by exact⟨G,Gain.same hb.size hb.block h.inv ⟨hb.os,hb.output⟩,V,rfl,qgY h hb hv hr⟩
theorem qgW {G w k x}(hx:oneC x=true):YY G w k (.c (.val x)) x:=by
 refine⟨by simp[AV.c,QO],fun r o c e=>?_⟩
 match r,o,e with
 |0,0,e=>simp only[AV.c,cellAt,aI,ae,aa]at e;subst e;exact⟨x,rfl,.inr ⟨rfl,hx⟩⟩
 |0,o+1,e=>simp[AV.c,cellAt]at e
 |r+1,o,e=>simp[AV.c,cellAt]at e
theorem qjE {x}:∀ r o c,cellAt (AV.c (.val x)).rows r o=some c->∃ y,c=.val y:=by
 intro r o c e
 match r,o,e with
 |0,0,e=>simp only[AV.c,cellAt,aI,ae,aa]at e;exact⟨x,e.symm⟩
 |0,o+1,e=>simp[AV.c,cellAt]at e
 |r+1,o,e=>simp[AV.c,cellAt]at e
theorem qfA {G w w' args Vs}(h:RelF G w ⟨args,qd 0 []⟩ Vs)(hb:Go.RowKit.Below w.heap.size w w'){x}(hx:oneC x=true):Went G w (.ret (.c (.val x))) [] (.returned x) w':=Qn h hb qjE (qgW hx)
end
section
variable [Glob]
def rep {α:Type}(n:Nat)(x:α):List α:=List.replicate n x
def noHand:Nat->Nat->Bool:=fun f j=>(f==44&&j==0)
def AllP:List Prop->Prop
 |[]=>True
 |p::l=>p/\AllP l
theorem AllP.mem:∀ {l:List Prop},AllP l->∀ p∈l,p
 |[],_,p,hp=>by cases hp
 |q::l,⟨h1,h2⟩,p,hp=>by
  rcases List.mem_cons.1 hp with rfl|hp
  . exact h1
  . exact AllP.mem h2 p hp
def qlb {α:Type}(v:AV)(k:AV->α):α:=match v with|⟨t,rows⟩=>qjP t fun t=>XE (XE qfw) rows fun rows=>k ⟨t,rows⟩
theorem qjz {α}(v)(k:AV->α):qlb v k=k v:=by obtain⟨t,rows⟩:=v;simp only[qlb];have:∀ (k:List (List Cell)->α),XE (XE qfw) rows k=k rows:=vU (fun l k=>vU (fun c k=>qdx c k) l k) rows;cases t<;>exact this _
def qeB {α:Type}(ks ls:List Nat):List Bool->List AV->(List AV->α)->α
 |true::m,_::l,k=>qeB ks ls m l fun l=>k (.deadv::l)
 |false::m,v::l,k=>qlb (v.mapC (yV ks ls)) fun v=>qeB ks ls m l fun l=>k (v::l)
 |_,[],k=>k []
 |[],l,k=>k l
def qdk (ks:List Nat):Nat->Nat->List Bool
 |_,0=>[]
 |i,n+1=>ks.contains i::qdk ks (i+1) n
theorem qdC (ks):∀ (n i:Nat),(qdk ks i n).length=n
 |0,_=>rfl
 |n+1,i=>by simp[qdk,qdC ks n]
theorem qcy {α}(ks ls):∀ (s:List AV) (i:Nat) (k:List AV->α),qeB ks ls (qdk ks i s.length) s k=k (YS ks ls i s)
 |[],i,k=>rfl
 |v::s,i,k=>by
  show qeB ks ls (ks.contains i::qdk ks (i+1) s.length) (v::s) k=k (YS ks ls i (v::s));cases h:ks.contains i with
  |true=>simp only[qeB,YS,qcy ks ls s (i+1),h,if_true]
  |false=>simp only[qeB,YS,qcy ks ls s (i+1),h,qjz,aT,if_false]
def qhZ {α:Type}(ks ls:List Nat)(m:List Bool)(F:Fr)(k:Fr->α):α:=match F with
 |⟨s,b⟩=>if m.length=s.length then qeB ks ls m s fun s=>QA (qcZ ks ls b) fun b=>k ⟨s,b⟩else k (F.norm ks ls)
theorem qi6 {α}(ks ls n F)(k:Fr->α):qhZ ks ls (qdk ks 0 n) F k=k (F.norm ks ls):=by
 obtain⟨s,b⟩:=F;unfold qhZ;simp only[qdC];split
 . rename_i h;rw[h,qcy,Yv];rfl
 . rfl
def bm:Nat->Nat->List Bool
 |0,_=>[]
 |n+1,m=>(m % 2==1)::bm n (m / 2)
def zZ:Nat->List Bool->List Nat
 |_,[]=>[]
 |i,true::m=>i::zZ (i+1) m
 |i,false::m=>zZ (i+1) m
theorem qbf:∀ {m:List Bool} {i k:Nat},k∈zZ i m->i<=k
 |[],i,k,h=>by cases h
 |true::m,i,k,h=>by
  rcases List.mem_cons.1 h with rfl|h
  . exact Nat.le_refl _
  . have:=qbf h;omega
 |false::m,i,k,h=>by have:=qbf (m:=m) h;omega
theorem ZF:∀ (m:List Bool) (i:Nat) (pre:List Nat),(∀ k∈pre,k<i)->qdk (pre++zZ i m) i m.length=m
 |[],i,pre,_=>rfl
 |x::m,i,pre,h=>by
  have hp:pre.contains i=false:=by grind
  show(pre++zZ i (x::m)).contains i::qdk (pre++zZ i (x::m)) (i+1) m.length=x::m;cases x with
  |true=>
   have h1:(pre++zZ i (true::m)).contains i=true:=by simp[zZ]
   rw[h1];have:pre++zZ i (true::m)=(pre++[i])++zZ (i+1) m:=by simp[zZ]
   rw[this,ZF m (i+1) (pre++[i]) (fun k hk=>by grind)]
  |false=>
   have h1:(pre++zZ i (false::m)).contains i=false:=by
    cases hc:(pre++zZ i (false::m)).contains i with
    |false=>rfl
    |true=>
     have:i∈pre++zZ i (false::m):=by grind
     rcases List.mem_append.1 this with hk|hk
     . grind
     . have:=qbf (m:=m) (i:=i+1) hk;omega
   rw[h1];have:pre++zZ i (false::m)=pre++zZ (i+1) m:=by simp[zZ]
   rw[this,ZF m (i+1) pre (fun k hk=>by grind)]
theorem qbU {α}(m ls F)(k:Fr->α):qhZ (zZ 0 m) ls m F k=k (F.norm (zZ 0 m) ls):=by
 have h:=ZF m 0 [] (fun k hk=>by cases hk);rw[List.nil_append]at h;have:=qi6 (zZ 0 m) ls m.length F k
 grind
theorem Fin.norm {cx fn K F res bx ks ls}(h:Fin cx fn K (F.norm ks ls) res bx):Fin cx fn K F res bx:=by intro G0 w0 G w a hlv hr hg hd;obtain⟨G',r1,g1⟩:=qax hr ks ls;exact h G0 w0 G' w a hlv r1 (hg.trans g1) hd
def Fr.co (F:Fr)(p:Pl):Option Nat->Option Fr
 |some sz=>match F.get p with
  |some .nil=>match F.set p .dead with
   |some F1=>(F1.kill p).set p (.own sz [])
   |none=>none
  |_=>none
 |none=>match F.get p with
  |some .nil=>F.set p (.imm [])
  |some (.own _ rows)=>F.set p (.imm (qG rows))
  |_=>none
def Fr.cos (F:Fr):List (Pl×Option Nat)->Option Fr
 |[]=>some F
 |(p,s)::l=>match F.co p s with
  |some F'=>F'.cos l
  |none=>none
theorem Val.back {G G' w F F' ts p u}(hγ:G'.γ p.key=G.γ p.key)(ht:∀ k:Nat,(F'.slots[k]?).map AV.tag=(F.slots[k]?).map AV.tag)(h:Val G' w F' ts p u):Val G w F ts p u:=by
 rcases h with⟨hi,x,vs,T,e1,e2,e3⟩|⟨hn,k,v,V,e1,e2,e3,e4⟩
 . exact .inl ⟨hi,x,vs,T,by grind,e2,e3⟩
 .
  have h1:=ht k;rw[e2]at h1;cases hk:F.slots[k]? with
  |none=>grind
  |some v0=>simp only[hk,av,aa]at h1;exact .inr ⟨hn,k,v0,V,e1,hk,e3,by grind⟩
theorem qik (F:Fr)(f)(k:Nat):((F.mapC f).slots[k]?).map AV.tag=(F.slots[k]?).map AV.tag:=by simp only[Fr.mapC,aH,Option.map_map];rfl
theorem qfq {G w F F' ts}(h:RelF G w F ts){p s}(e:F.co p s=some F'):∃ G',RelF G' w F' ts/\Gain G w G' w:=by
 have val:∀ c,F.get p=some c->∀ u,Val G w F ts p u->(c=.dead/\¬ p.key.inHeap)\/Sh G w p c u:=by intro c hg u hu;obtain⟨u0,hu0,hs⟩:=h.val hg;rw[hu.unique hu0];exact hs
 cases s with
 |none=>
  simp only[Fr.co]at e;split at e
  . rename_i hg;refine⟨G,h.set (Fr.setTo e) (fun _=>rfl) (fun u hu=>.inr ?_) (Tree.flat (by grind)),Gain.refl G w⟩;rcases val _ hg u hu with⟨hx,_⟩|hx
    . cases hx
    . cases hx;exact .immE none 0
  . rename_i zz rows hg;obtain⟨a1,a2,_,_⟩:=h.freezeAt hg (Fr.setTo e)
    grind
  grind
 |some sz=>
  simp only[Fr.co]at e;split at e
  .
   rename_i hg;split at e
   .
    rename_i F1 hset;have st:=Fr.setTo hset;have r1:=h.empty st;have r2:=r1.mapC (qM p)
    let Y:Nat->Nat->Option (Option Pl):=fun r o=>if r=p.r/\o=p.o then some none else none
    have hY:∀ r o x,Y r o≠some (some x):=by grind
    have r3:RelF (G.mv p.key Y) w (F1.kill p) ts:=r2.mv p.key (Y:=Y) (fun r o r' o' x x' π π' e=>absurd e (hY r o x)) (fun r o π hr=>by
     have:r=p.r/\o=p.o:=by grind
     obtain⟨rfl,rfl⟩:=this;exact vH r1 st.new π) (fun r o x π e=>absurd e (hY r o x))
    have hsp:Zk p.key p.toKey=some (p.r,p.o,[]):=xz.2 rfl;have hγ:(G.mv p.key Y).γ p.toKey=none:=by simp[Gh.mv,hsp,Y]
    have hk:(G.mv p.key Y).γ p.key=G.γ p.key:=YR (fun r o π e=>by have:=congrArg (fun k=>k.path.length) e;simp[Pl.under]at this) (fun r o x π e=>absurd e (hY r o x));have st2:=Fr.setTo e;refine⟨_,r3.set st2 (fun _=>rfl) (fun u hu=>.inr ?_) (fun rest rows e=>?_),Gain.mv p.key Y⟩
    . have hu':Val G w F ts p u:=hu.back hk (fun k=>by rw[Fr.kill,qik,st.tags]);rcases val _ hg u hu' with⟨hx,_⟩|hx
      . cases hx
      . cases hx;exact .inl ⟨hγ,rfl,rfl⟩
    . cases rest with
      |nil=>simp only[subR,getR,aa]at e;subst e;exact .inl ⟨hγ,rfl,by simp[Pl.under]⟩
      |cons y rest=>obtain⟨a,b⟩:=y;simp[subR,getR,cellAt]at e
   grind
  grind
theorem Fin.cos {cx fn K res bx}:∀ {cs:List (Pl×Option Nat)} {F F':Fr},F.cos cs=some F'->Fin cx fn K F' res bx->Fin cx fn K F res bx
 |[],F,F',e,h=>by simp only[Fr.cos,aa]at e;subst e;exact h
 |(p,s)::l,F,F',e,h=>by
  simp only[Fr.cos]at e;split at e
  . rename_i F1 h1;have:=Fin.cos e h;intro G0 w0 G w a hlv hr hg hd;obtain⟨G',r1,g1⟩:=qfq hr h1;exact this G0 w0 G' w a hlv r1 (hg.trans g1.w) hd
  . cases e
def mcut (cx:Cx)(fn:Func)(nb n:Nat)(K:List TItem)(F:Fr)(ad:Advs)(m:List Bool)(ls:List Nat)(cs:List (Pl×Option Nat)):Option (TStop×List Prop):=match mgo cx fn nb n K F ad with
 |some (.at K F,ps)=>qhZ (zZ 0 m) ls m F fun F=>match F.cos cs with
  |some F=>some (.at K F,ps)
  |none=>none
 |_=>none
theorem zO {cx fn nb}(hmix:cx.P.follows .mixedOrders=true){res bx n K F ad ps}(e:mgo cx fn nb n K F ad=some (.fin res bx,ps))(hp:AllP ps):Fin cx fn K F res bx:=qoM hmix e hp.mem ⟨rfl,rfl⟩
theorem qhs {cx fn nb}(hmix:cx.P.follows .mixedOrders=true){res bx n K K' F F' ad ps m ls cs}(h:Fin cx fn K' F' res bx)(e:mcut cx fn nb n K F ad m ls cs=some (.at K' F',ps))(hp:AllP ps):Fin cx fn K F res bx:=by
 unfold mcut at e;split at e
 .
  rename_i K1 F1 qs h1;rw[qbU]at e;split at e
  . rename_i F2 h2;simp only[aa,ai,TStop.at.injEq]at e;obtain⟨⟨rfl,rfl⟩,rfl⟩:=e;exact qoM hmix h1 hp.mem (Fin.cos h2 h).norm
  grind
 grind
def kAt:Code->List Nat->List TItem->List TItem
 |c,2::_,K=>.code c::K
 |_,3::_,K=>K
 |.loop b,4::_,K=>.inLoop b::K
 |.seq a b,0::p,K=>kAt a p (.code b::K)
 |.seq _ b,1::p,K=>kAt b p K
 |.cond _ a _,0::p,K=>kAt a p K
 |.cond _ _ b,1::p,K=>kAt b p K
 |.block id b,0::p,K=>kAt b p (.inBlock id::K)
 |.loop b,0::p,K=>kAt b p (.inLoop b::K)
 |_,_,_=>[]
def itS {S R:Type}(step:Nat->(S->Option R)->S->Option R):Nat->S->Option R
 |0,_=>none
 |k+1,s=>step k (itS step k) s
theorem qF {S R step}{P:S->R->Prop}(h:∀ k rec,(∀ s r,rec s=some r->P s r)->∀ s r,step k rec s=some r->P s r):∀ k s r,itS step k s=some r->P s r
 |0,s,r,e=>by cases e
 |k+1,s,r,e=>h k (itS step k) (qF h k) s r e
abbrev Rs:=List (List Cell)
abbrev ic (n:Int):Cell:=.val (.int .i64 n)
abbrev bc (b:Bool):Cell:=.val (.bool b)
def strB (l:List Nat):ByteArray:=⟨(l.map UInt8.ofNat).toArray⟩
def gd {α:Type}(b:Bool)(x:Option α):Option α:=bif b then x else none
def ixR {α:Type}(rows:Rs)(n:Int)(k:List Cell->Option α):Option α:=bif decide (0<=n)then(rows[n.toNat]?).bind k else none
def optC {α β:Type}(o:Option α)(z:Option β)(k:α->Option β):Option β:=match o with
 |none=>z
 |some x=>k x
def altC {α β γ:Type}(v:α⊕β)(f:α->Option γ)(g:β->Option γ):Option γ:=match v with
 |.inl a=>f a
 |.inr b=>g b
theorem qa {α:Type}{b x y}{r:α}(h:(bif b then x else y)=some r):(b=true/\x=some r)\/(b=false/\y=some r):=by grind
theorem zo {α b x}{r:α}(h:gd b x=some r):b=true/\x=some r:=by
 cases b
 . cases h
 . exact⟨rfl,h⟩
theorem qh {α β:Type}{o}{k:α->Option β}{r}(h:o.bind k=some r):∃ v,o=some v/\k v=some r:=by
 cases o with
 |none=>cases h
 |some v=>grind
theorem qgU {α β o z}{k:α->Option β}{r}(h:optC o z k=some r):(∃ x,o=some x/\k x=some r)\/(o=none/\z=some r):=by
 cases o with
 |none=>exact .inr ⟨rfl,h⟩
 |some x=>exact .inl ⟨x,rfl,h⟩
theorem qf {α β γ v}{f:α->Option γ}{g:β->Option γ}{r}(h:altC v f g=some r):(∃ a,v=.inl a/\f a=some r)\/(∃ b,v=.inr b/\g b=some r):=by
 cases v with
 |inl a=>exact .inl ⟨a,rfl,h⟩
 |inr b=>exact .inr ⟨b,rfl,h⟩
def sxI {α:Type}(s:ByteArray)(n:Int)(k:Int->Option α):Option α:=bif decide (0<=n)then(Xp s n.toNat).bind k else none
theorem Xm {α s n k}{r:α}(h:sxI s n k=some r):∃ c,(0<=n/\Xp s n.toNat=some c)/\k c=some r:=by
 unfold sxI at h;obtain⟨h1,h2⟩|⟨_,h2⟩:=qa h
 . obtain⟨c,h3,h4⟩:=qh h2
   grind
 grind
theorem YJ {α rows n k}{r:α}(h:ixR rows n k=some r):
  ∃ row,(0<=n/\rows[n.toNat]? = some row)/\k row=some r:=by
 unfold ixR at h
 grind
theorem qot {rows:Rs}{n:Int}{row}(h:0<=n/\rows[n.toNat]? = some row):0<=n/\n<rows.length:=by grind
def slOk (l h:Int)(rows:Rs)(sz:Nat):Bool:=decide (0<=l/\l<=h/\h<=rows.length/\(rows.head?.all (·.length==sz))=true)
def apOk (bytes sz:Nat)(rows more:Rs):Bool:=(rows.length+more.length)*bytes<=140737488355328&&rows.length+more.length<=lim&&0<sz&&true&&more.head?.all (·.length==sz)&&true
def tup2 {α0 α1 γ:Type}(v:α0×α1)(k:α0->α1->Option γ):Option γ:=k v.1 v.2
theorem QD {α0 α1 γ v}{k:α0->α1->Option γ}{r}(h:tup2 v k=some r):∃ a0 a1,v=(a0,a1)/\k a0 a1=some r:=⟨v.1,v.2,rfl,h⟩
def tup3 {α0 α1 α2 γ:Type}(v:α0×α1×α2)(k:α0->α1->α2->Option γ):Option γ:=k v.1 v.2.1 v.2.2
theorem qCL {α0 α1 α2 γ v}{k:α0->α1->α2->Option γ}{r}(h:tup3 v k=some r):∃ a0 a1 a2,v=(a0,a1,a2)/\k a0 a1 a2=some r:=⟨v.1,v.2.1,v.2.2,rfl,h⟩
def tup4 {α0 α1 α2 α3 γ:Type}(v:α0×α1×α2×α3)(k:α0->α1->α2->α3->Option γ):Option γ:=k v.1 v.2.1 v.2.2.1 v.2.2.2
def tup5 {α0 α1 α2 α3 α4 γ:Type}(v:α0×α1×α2×α3×α4)(k:α0->α1->α2->α3->α4->Option γ):Option γ:=k v.1 v.2.1 v.2.2.1 v.2.2.2.1 v.2.2.2.2
theorem qk6 {α0 α1 α2 α3 α4 γ v}{k:α0->α1->α2->α3->α4->Option γ}{r}(h:tup5 v k=some r):∃ a0 a1 a2 a3 a4,v=(a0,a1,a2,a3,a4)/\k a0 a1 a2 a3 a4=some r:=⟨v.1,v.2.1,v.2.2.1,v.2.2.2.1,v.2.2.2.2,rfl,h⟩
def tup6 {α0 α1 α2 α3 α4 α5 γ:Type}(v:α0×α1×α2×α3×α4×α5)(k:α0->α1->α2->α3->α4->α5->Option γ):Option γ:=k v.1 v.2.1 v.2.2.1 v.2.2.2.1 v.2.2.2.2.1 v.2.2.2.2.2
theorem qk3 {α0 α1 α2 α3 α4 α5 γ v}{k:α0->α1->α2->α3->α4->α5->Option γ}{r}(h:tup6 v k=some r):∃ a0 a1 a2 a3 a4 a5,v=(a0,a1,a2,a3,a4,a5)/\k a0 a1 a2 a3 a4 a5=some r:=⟨v.1,v.2.1,v.2.2.1,v.2.2.2.1,v.2.2.2.2.1,v.2.2.2.2.2,rfl,h⟩
def tup7 {α0 α1 α2 α3 α4 α5 α6 γ:Type}(v:α0×α1×α2×α3×α4×α5×α6)(k:α0->α1->α2->α3->α4->α5->α6->Option γ):Option γ:=k v.1 v.2.1 v.2.2.1 v.2.2.2.1 v.2.2.2.2.1 v.2.2.2.2.2.1 v.2.2.2.2.2.2
def tup8 {α0 α1 α2 α3 α4 α5 α6 α7 γ:Type}(v:α0×α1×α2×α3×α4×α5×α6×α7)(k:α0->α1->α2->α3->α4->α5->α6->α7->Option γ):Option γ:=k v.1 v.2.1 v.2.2.1 v.2.2.2.1 v.2.2.2.2.1 v.2.2.2.2.2.1 v.2.2.2.2.2.2.1 v.2.2.2.2.2.2.2
theorem qCM {α0 α1 α2 α3 α4 α5 α6 α7 γ v}{k:α0->α1->α2->α3->α4->α5->α6->α7->Option γ}{r}(h:tup8 v k=some r):∃ a0 a1 a2 a3 a4 a5 a6 a7,v=(a0,a1,a2,a3,a4,a5,a6,a7)/\k a0 a1 a2 a3 a4 a5 a6 a7=some r:=⟨v.1,v.2.1,v.2.2.1,v.2.2.2.1,v.2.2.2.2.1,v.2.2.2.2.2.1,v.2.2.2.2.2.2.1,v.2.2.2.2.2.2.2,rfl,h⟩
def tup9 {α0 α1 α2 α3 α4 α5 α6 α7 α8 γ:Type}(v:α0×α1×α2×α3×α4×α5×α6×α7×α8)(k:α0->α1->α2->α3->α4->α5->α6->α7->α8->Option γ):Option γ:=k v.1 v.2.1 v.2.2.1 v.2.2.2.1 v.2.2.2.2.1 v.2.2.2.2.2.1 v.2.2.2.2.2.2.1 v.2.2.2.2.2.2.2.1 v.2.2.2.2.2.2.2.2
def ql {α0 α1 α2 α3 α4 α5 α6 α7 α8 α9 γ:Type}(v:α0×α1×α2×α3×α4×α5×α6×α7×α8×α9)(k:α0->α1->α2->α3->α4->α5->α6->α7->α8->α9->Option γ):Option γ:=k v.1 v.2.1 v.2.2.1 v.2.2.2.1 v.2.2.2.2.1 v.2.2.2.2.2.1 v.2.2.2.2.2.2.1 v.2.2.2.2.2.2.2.1 v.2.2.2.2.2.2.2.2.1 v.2.2.2.2.2.2.2.2.2
theorem qjf {α0 α1 α2 α3 α4 α5 α6 α7 α8 α9 γ v}{k:α0->α1->α2->α3->α4->α5->α6->α7->α8->α9->Option γ}{r}(h:ql v k=some r):∃ a0 a1 a2 a3 a4 a5 a6 a7 a8 a9,v=(a0,a1,a2,a3,a4,a5,a6,a7,a8,a9)/\k a0 a1 a2 a3 a4 a5 a6 a7 a8 a9=some r:=⟨v.1,v.2.1,v.2.2.1,v.2.2.2.1,v.2.2.2.2.1,v.2.2.2.2.2.1,v.2.2.2.2.2.2.1,v.2.2.2.2.2.2.2.1,v.2.2.2.2.2.2.2.2.1,v.2.2.2.2.2.2.2.2.2,rfl,h⟩
def qoG {α0 α1 α2 α3 α4 α5 α6 α7 α8 α9 α10 γ:Type}(v:α0×α1×α2×α3×α4×α5×α6×α7×α8×α9×α10)(k:α0->α1->α2->α3->α4->α5->α6->α7->α8->α9->α10->Option γ):Option γ:=k v.1 v.2.1 v.2.2.1 v.2.2.2.1 v.2.2.2.2.1 v.2.2.2.2.2.1 v.2.2.2.2.2.2.1 v.2.2.2.2.2.2.2.1 v.2.2.2.2.2.2.2.2.1 v.2.2.2.2.2.2.2.2.2.1 v.2.2.2.2.2.2.2.2.2.2
def zu {α0 α1 α2 α3 α4 α5 α6 α7 α8 α9 α10 α11 γ:Type}(v:α0×α1×α2×α3×α4×α5×α6×α7×α8×α9×α10×α11)(k:α0->α1->α2->α3->α4->α5->α6->α7->α8->α9->α10->α11->Option γ):Option γ:=k v.1 v.2.1 v.2.2.1 v.2.2.2.1 v.2.2.2.2.1 v.2.2.2.2.2.1 v.2.2.2.2.2.2.1 v.2.2.2.2.2.2.2.1 v.2.2.2.2.2.2.2.2.1 v.2.2.2.2.2.2.2.2.2.1 v.2.2.2.2.2.2.2.2.2.2.1 v.2.2.2.2.2.2.2.2.2.2.2
def qnE {α0 α1 α2 α3 α4 α5 α6 α7 α8 α9 α10 α11 α12 α13 α14 α15 α16 α17 α18 α19 γ:Type}(v:α0×α1×α2×α3×α4×α5×α6×α7×α8×α9×α10×α11×α12×α13×α14×α15×α16×α17×α18×α19)(k:α0->α1->α2->α3->α4->α5->α6->α7->α8->α9->α10->α11->α12->α13->α14->α15->α16->α17->α18->α19->Option γ):Option γ:=k v.1 v.2.1 v.2.2.1 v.2.2.2.1 v.2.2.2.2.1 v.2.2.2.2.2.1 v.2.2.2.2.2.2.1 v.2.2.2.2.2.2.2.1 v.2.2.2.2.2.2.2.2.1 v.2.2.2.2.2.2.2.2.2.1 v.2.2.2.2.2.2.2.2.2.2.1 v.2.2.2.2.2.2.2.2.2.2.2.1 v.2.2.2.2.2.2.2.2.2.2.2.2.1 v.2.2.2.2.2.2.2.2.2.2.2.2.2.1 v.2.2.2.2.2.2.2.2.2.2.2.2.2.2.1 v.2.2.2.2.2.2.2.2.2.2.2.2.2.2.2.1 v.2.2.2.2.2.2.2.2.2.2.2.2.2.2.2.2.1 v.2.2.2.2.2.2.2.2.2.2.2.2.2.2.2.2.2.1 v.2.2.2.2.2.2.2.2.2.2.2.2.2.2.2.2.2.2.1 v.2.2.2.2.2.2.2.2.2.2.2.2.2.2.2.2.2.2.2
def qnj {α0 α1 α2 α3 α4 α5 α6 α7 α8 α9 α10 α11 α12 α13 α14 α15 α16 α17 α18 α19 α20 γ:Type}(v:α0×α1×α2×α3×α4×α5×α6×α7×α8×α9×α10×α11×α12×α13×α14×α15×α16×α17×α18×α19×α20)(k:α0->α1->α2->α3->α4->α5->α6->α7->α8->α9->α10->α11->α12->α13->α14->α15->α16->α17->α18->α19->α20->Option γ):Option γ:=k v.1 v.2.1 v.2.2.1 v.2.2.2.1 v.2.2.2.2.1 v.2.2.2.2.2.1 v.2.2.2.2.2.2.1 v.2.2.2.2.2.2.2.1 v.2.2.2.2.2.2.2.2.1 v.2.2.2.2.2.2.2.2.2.1 v.2.2.2.2.2.2.2.2.2.2.1 v.2.2.2.2.2.2.2.2.2.2.2.1 v.2.2.2.2.2.2.2.2.2.2.2.2.1 v.2.2.2.2.2.2.2.2.2.2.2.2.2.1 v.2.2.2.2.2.2.2.2.2.2.2.2.2.2.1 v.2.2.2.2.2.2.2.2.2.2.2.2.2.2.2.1 v.2.2.2.2.2.2.2.2.2.2.2.2.2.2.2.2.1 v.2.2.2.2.2.2.2.2.2.2.2.2.2.2.2.2.2.1 v.2.2.2.2.2.2.2.2.2.2.2.2.2.2.2.2.2.2.1 v.2.2.2.2.2.2.2.2.2.2.2.2.2.2.2.2.2.2.2.1 v.2.2.2.2.2.2.2.2.2.2.2.2.2.2.2.2.2.2.2.2
theorem t2 {α0 α1 γ v}{k:α0->α1->Option γ}{r}(h:tup2 v k=some r):k v.1 v.2=some r:=h
theorem b2 {α0 α1 γ o}{k:α0->α1->Option γ}{r}(h:(o.bind fun v=>tup2 v k)=some r):∃ v,o=some v/\k v.1 v.2=some r:=qh h
theorem t3 {α0 α1 α2 γ v}{k:α0->α1->α2->Option γ}{r}(h:tup3 v k=some r):k v.1 v.2.1 v.2.2=some r:=h
theorem b3 {α0 α1 α2 γ o}{k:α0->α1->α2->Option γ}{r}(h:(o.bind fun v=>tup3 v k)=some r):∃ v,o=some v/\k v.1 v.2.1 v.2.2=some r:=qh h
theorem t4 {α0 α1 α2 α3 γ v}{k:α0->α1->α2->α3->Option γ}{r}(h:tup4 v k=some r):k v.1 v.2.1 v.2.2.1 v.2.2.2=some r:=h
theorem b4 {α0 α1 α2 α3 γ o}{k:α0->α1->α2->α3->Option γ}{r}(h:(o.bind fun v=>tup4 v k)=some r):∃ v,o=some v/\k v.1 v.2.1 v.2.2.1 v.2.2.2=some r:=qh h
theorem t5 {α0 α1 α2 α3 α4 γ v}{k:α0->α1->α2->α3->α4->Option γ}{r}(h:tup5 v k=some r):k v.1 v.2.1 v.2.2.1 v.2.2.2.1 v.2.2.2.2=some r:=h
theorem b5 {α0 α1 α2 α3 α4 γ o}{k:α0->α1->α2->α3->α4->Option γ}{r}(h:(o.bind fun v=>tup5 v k)=some r):∃ v,o=some v/\k v.1 v.2.1 v.2.2.1 v.2.2.2.1 v.2.2.2.2=some r:=qh h
theorem b6 {α0 α1 α2 α3 α4 α5 γ o}{k:α0->α1->α2->α3->α4->α5->Option γ}{r}(h:(o.bind fun v=>tup6 v k)=some r):∃ v,o=some v/\k v.1 v.2.1 v.2.2.1 v.2.2.2.1 v.2.2.2.2.1 v.2.2.2.2.2=some r:=qh h
theorem b8 {α0 α1 α2 α3 α4 α5 α6 α7 γ o}{k:α0->α1->α2->α3->α4->α5->α6->α7->Option γ}{r}(h:(o.bind fun v=>tup8 v k)=some r):∃ v,o=some v/\k v.1 v.2.1 v.2.2.1 v.2.2.2.1 v.2.2.2.2.1 v.2.2.2.2.2.1 v.2.2.2.2.2.2.1 v.2.2.2.2.2.2.2=some r:=qh h
theorem t9 {α0 α1 α2 α3 α4 α5 α6 α7 α8 γ v}{k:α0->α1->α2->α3->α4->α5->α6->α7->α8->Option γ}{r}(h:tup9 v k=some r):k v.1 v.2.1 v.2.2.1 v.2.2.2.1 v.2.2.2.2.1 v.2.2.2.2.2.1 v.2.2.2.2.2.2.1 v.2.2.2.2.2.2.2.1 v.2.2.2.2.2.2.2.2=some r:=h
theorem b9 {α0 α1 α2 α3 α4 α5 α6 α7 α8 γ o}{k:α0->α1->α2->α3->α4->α5->α6->α7->α8->Option γ}{r}(h:(o.bind fun v=>tup9 v k)=some r):∃ v,o=some v/\k v.1 v.2.1 v.2.2.1 v.2.2.2.1 v.2.2.2.2.1 v.2.2.2.2.2.1 v.2.2.2.2.2.2.1 v.2.2.2.2.2.2.2.1 v.2.2.2.2.2.2.2.2=some r:=qh h
theorem b10 {α0 α1 α2 α3 α4 α5 α6 α7 α8 α9 γ o}{k:α0->α1->α2->α3->α4->α5->α6->α7->α8->α9->Option γ}{r}(h:(o.bind fun v=>ql v k)=some r):∃ v,o=some v/\k v.1 v.2.1 v.2.2.1 v.2.2.2.1 v.2.2.2.2.1 v.2.2.2.2.2.1 v.2.2.2.2.2.2.1 v.2.2.2.2.2.2.2.1 v.2.2.2.2.2.2.2.2.1 v.2.2.2.2.2.2.2.2.2=some r:=qh h
theorem t20 {α0 α1 α2 α3 α4 α5 α6 α7 α8 α9 α10 α11 α12 α13 α14 α15 α16 α17 α18 α19 γ v}{k:α0->α1->α2->α3->α4->α5->α6->α7->α8->α9->α10->α11->α12->α13->α14->α15->α16->α17->α18->α19->Option γ}{r}(h:qnE v k=some r):k v.1 v.2.1 v.2.2.1 v.2.2.2.1 v.2.2.2.2.1 v.2.2.2.2.2.1 v.2.2.2.2.2.2.1 v.2.2.2.2.2.2.2.1 v.2.2.2.2.2.2.2.2.1 v.2.2.2.2.2.2.2.2.2.1 v.2.2.2.2.2.2.2.2.2.2.1 v.2.2.2.2.2.2.2.2.2.2.2.1 v.2.2.2.2.2.2.2.2.2.2.2.2.1 v.2.2.2.2.2.2.2.2.2.2.2.2.2.1 v.2.2.2.2.2.2.2.2.2.2.2.2.2.2.1 v.2.2.2.2.2.2.2.2.2.2.2.2.2.2.2.1 v.2.2.2.2.2.2.2.2.2.2.2.2.2.2.2.2.1 v.2.2.2.2.2.2.2.2.2.2.2.2.2.2.2.2.2.1 v.2.2.2.2.2.2.2.2.2.2.2.2.2.2.2.2.2.2.1 v.2.2.2.2.2.2.2.2.2.2.2.2.2.2.2.2.2.2.2=some r:=h
theorem t21 {α0 α1 α2 α3 α4 α5 α6 α7 α8 α9 α10 α11 α12 α13 α14 α15 α16 α17 α18 α19 α20 γ v}{k:α0->α1->α2->α3->α4->α5->α6->α7->α8->α9->α10->α11->α12->α13->α14->α15->α16->α17->α18->α19->α20->Option γ}{r}(h:qnj v k=some r):k v.1 v.2.1 v.2.2.1 v.2.2.2.1 v.2.2.2.2.1 v.2.2.2.2.2.1 v.2.2.2.2.2.2.1 v.2.2.2.2.2.2.2.1 v.2.2.2.2.2.2.2.2.1 v.2.2.2.2.2.2.2.2.2.1 v.2.2.2.2.2.2.2.2.2.2.1 v.2.2.2.2.2.2.2.2.2.2.2.1 v.2.2.2.2.2.2.2.2.2.2.2.2.1 v.2.2.2.2.2.2.2.2.2.2.2.2.2.1 v.2.2.2.2.2.2.2.2.2.2.2.2.2.2.1 v.2.2.2.2.2.2.2.2.2.2.2.2.2.2.2.1 v.2.2.2.2.2.2.2.2.2.2.2.2.2.2.2.2.1 v.2.2.2.2.2.2.2.2.2.2.2.2.2.2.2.2.2.1 v.2.2.2.2.2.2.2.2.2.2.2.2.2.2.2.2.2.2.1 v.2.2.2.2.2.2.2.2.2.2.2.2.2.2.2.2.2.2.2.1 v.2.2.2.2.2.2.2.2.2.2.2.2.2.2.2.2.2.2.2.2=some r:=h
end
section
variable [Glob]
def EvX {α:Type}(P:Program)(f:Nat)(args:List AV)(res:α->AV):Prop:=
 (∃ fn,P.funcs[f]? = some fn/\fn.body.isSome=true/\(fn.name == "runtime.NumGoroutine")=false) /\
  ∀ w (Vs:Array Value),(∃ G,RelF G w ⟨args,qd 0 []⟩ Vs)->Calls P f Vs w fun e w'=>∃ x,∀ G,RelF G w ⟨args,qd 0 []⟩ Vs->Went G w (.ret (res x)) [] e w'
def isX (f:Nat)(args:List AV)(v:AV)(f':Nat)(args':List AV)(bx:List (List Cell))(r:ARes)(bx':List (List Cell)):Prop:=f'=f/\args'=args/\bx=[]/\r=.ret v/\bx'=[]
theorem qi5 {cx α f args res}(hev:EvX cx.P f args res){F}{F2:α->Fr}{d ars argTypes ty pos after guard}{ps:α->List Prop}{thaw}(x0:α)(e:∀ x,Xw (isX f args (res x)) cx F d f (ars.toList.map F.ev) (.ret (res x)) [] thaw=some (F2 x,ps x,none))(hp:∀ x,∀ p∈ps x,p){G w a}(h:RelF G w F a.tmps){next Q}(hnext:∀ x V G' w',RelF G' w' (F2 x) (a.put d V).tmps->Gain G w G' w'->next (a.put d V) w'):(⟨d,.call { callee:=.value (.func f),args:=ars,argTypes:=argTypes },ty,pos,after,guard⟩:Oper).wp cx.P a w next Q:=by
 unfold Oper.wp;obtain⟨⟨fn,h1,h2,h3⟩,hcl⟩:=hev;have run:(execOp a.eval ⟨d,.call { callee:=.value (.func f),args:=ars,argTypes:=argTypes },ty,pos,after,guard⟩).run cx.P w=.ok (.enter f (#[]++ars.map a.eval++#[])) w:=by have:=Yh (P:=cx.P) h1 h2 h3 (#[]++ars.map a.eval++#[]) w;have e1:a.eval (.func f)=.func (.func f) #[] #[]:=rfl;simp only[execOp,resolve,e1,Deferred.ofValue,invoke,pure_bind];omega
 rw[run,Oper.upon_enter];have hVs:(#[]++ars.map a.eval++#[])=(ars.toList.map a.eval).toArray:=by grind
 rw[hVs];have key:∀ (C:Nat->Array Value->World->(Ending->World->Prop)->Prop),(∀ f Vs w R R',C f Vs w R->(∀ e w',R e w'->R' e w')->C f Vs w R') ->
   ∀ x,(∀ G w (Vs:Array Value),RelF G w ⟨args,qd 0 []⟩ Vs->C f Vs w (Went G w (.ret (res x)) []))->C f (ars.toList.map a.eval).toArray w (Back G w a d (F2 x) none):=by
  intro C hmono x hC;obtain⟨args',bx,he,hcall⟩:=xV (e x) (hp x);obtain⟨_,rfl,rfl,_,_⟩:=he;exact qaX (cx:=cx) (rec:=vG f args' [] (.ret (res x)) []) (C:=C) hmono (fun f1 args1 bx1 res1 bx1' e'=>by
   unfold vG at e'
   grind) (a:=a) h (Vs:=ars.toList.map a.eval) (by simp) (fun j v V hv hV=>by
    rw[aH]at hv hV;cases hj:ars.toList[j]? with
    |none=>grind
    |some y=>simp only[hj,av,aa]at hv hV;subst hv;subst hV;exact qx h y) hcall
 have hG:=key (fun _ Vs w _=>∃ G,RelF G w ⟨args,qd 0 []⟩ Vs) (fun _ _ _ _ _ h _=>h) x0 (fun G w Vs h=>⟨G,h⟩);refine Calls.mono (hcl w _ hG) fun en w' hb=>?_;obtain⟨x,hx⟩:=hb;have hB:=key (fun _ Vs w0 R=>∀ e w',(∀ G,RelF G w0 ⟨args,qd 0 []⟩ Vs->Went G w0 (.ret (res x)) [] e w')->R e w') (fun _ _ _ _ _ h hm e w' hh=>hm _ _ (h e w' hh)) x (fun G w Vs h e w' hh=>hh G h) en w' hx;obtain⟨G',hg,V,rfl,hr⟩:=hB
 grind
theorem errX {cx Q α f args res}(hev:EvX cx.P f args res){id ops pre post d ars argTypes ty pos after K F F1}{F2 F3:α->Fr}{ad1}{ad2:α->Advs}{ps1}{ps ps2:α->List Prop}{thaw}(x0:α)(hops:ops.toList=pre++⟨d,.call { callee:=.value (.func f),args:=ars,argTypes:=argTypes },ty,pos,after,none⟩::post)(e1:taops cx ops.toList pre F ad1=some (F1,[],ps1,none))(hp1:AllP ps1)(e2:∀ x,Xw (isX f args (res x)) cx F1 d f (ars.toList.map F1.ev) (.ret (res x)) [] thaw=some (F2 x,ps x,none))(hp:∀ x,AllP (ps x))(e3:∀ x,taops cx ops.toList post (F2 x) (ad2 x)=some (F3 x,[],ps2 x,none))(hp2:∀ x,AllP (ps2 x)){D}(hD:∀ o∈ops.toList,∀ a V,D a->D (a.put o.dst V))(h:∀ x,FinQ D cx Q K (F3 x)):FinQ D cx Q (.code (.region id ops false)::K) F:=by
 intro G0 w0 G w a hlv hr hg hd;show(Code.region id ops false).wp cx.P (KQ cx.P K (Q G0 w0)) a w;refine wp_region ?_;have hsz:ops.size=pre.length+(1+post.length):=by rw[<- Array.length_toList,hops];grind
 have hrg:List.range ops.size=List.range' 0 pre.length++(pre.length::List.range' (pre.length+1) post.length):=by rw[hsz,List.range_eq_range',<- List.range'_append (s:=0) (m:=pre.length) (n:=1+post.length) (step:=1)];congr 1;rw[Nat.add_comm 1 post.length,List.range'_succ];simp
 rw[hrg];obtain⟨recs,k1,k2⟩:=zP e1 hp1.mem;refine vN (D:=D) (fun d=>(k1 d).1) (fun d=>(k1 d).2) pre 0 G w F a F1 none (fun j hj=>?_) (fun o ho a V=>hD o (by grind) a V) hr hg hd k2 (fun _ a' w' hst=>?_) (fun v hv=>by cases hv)
 . rw[Nat.zero_add,<- aQ,hops,aY hj]
 .
  obtain⟨hd',G',hg',hr'⟩:=hst;have ho:ops[pre.length]? = some ⟨d,.call { callee:=.value (.func f),args:=ars,argTypes:=argTypes },ty,pos,after,none⟩:=by rw[<- aQ,hops,aZ (Nat.le_refl _)];simp
  simp only[wpOps,ho];rw[aD (by simp[Region.wanted])];left;refine qi5 hev x0 e2 (fun x=>(hp x).mem) hr' fun x V G2 w2 hr2 hg2=>?_;obtain⟨recs2,j1,j2⟩:=zP (e3 x) (hp2 x).mem;have hd2:D (a'.put d V):=hD _ (by rw[hops];exact aS _ au) a' V hd';have:=vN (more:=[]) (D:=D) (Q:=KQ cx.P K (Q G0 w0)) (fun d=>(j1 d).1) (fun d=>(j1 d).2) post (pre.length+1) G2 w2 (F2 x) (a'.put d V) (F3 x) none (fun j hj=>by
   rw[<- aQ,hops,aZ (by omega)]
   grind) (fun o ho a V=>hD o (by grind) a V) hr2 (hg'.trans hg2.w) hd2 j2 (fun _ a3 w3 hst=>by obtain⟨hd3,G3,hg3,hr3⟩:=hst;exact h x G0 w0 G3 w3 a3 hlv hr3 hg3 hd3) (fun v hv=>by cases hv)
  grind
def qjD (cx:Cx)(f:Nat)(args:List AV)(v:AV)(thaw:Bool)(F:Fr)(j:Nat)(ad1 ad2:Advs):List TItem->Option (List TItem×Fr×List Prop)
 |.code (.region _ ops false)::K=>match ops.toList[j]? with
  | some ⟨d,.call { callee:=.value (.func f'),args:=ars,.. },_,_,_,none⟩=>if f'=f then
    match taops cx ops.toList (ops.toList.take j) F ad1 with
    |some (F1,[],ps1,none)=>match Xw (isX f args v) cx F1 d f (ars.toList.map F1.ev) (.ret v) [] thaw with
     |some (F2,ps,none)=>match taops cx ops.toList (ops.toList.drop (j+1)) F2 ad2 with
      |some (F3,[],ps2,none)=>some (K,F3,ps1++(ps++ps2))
      |_=>none
     |_=>none
    |_=>none
   else none
  |_=>none
 |_=>none
theorem AllP.of_mem:∀ {l:List Prop},(∀ p∈l,p)->AllP l
 |[],_=>trivial
 |_::_,h=>⟨h _ au,AllP.of_mem fun p hp=>h p (aB _ hp)⟩
theorem qd8 {cx f args v thaw F j ad1 ad2 K0 K1 F3 ps}(e:qjD cx f args v thaw F j ad1 ad2 K0=some (K1,F3,ps)):
  ∃ id ops d ars argTypes ty pos after F1 F2 ps1 q ps2,K0=.code (.region id ops false)::K1/\ops.toList[j]? = some ⟨d,.call { callee:=.value (.func f),args:=ars,argTypes:=argTypes },ty,pos,after,none⟩ /\
   taops cx ops.toList (ops.toList.take j) F ad1=some (F1,[],ps1,none)/\Xw (isX f args v) cx F1 d f (ars.toList.map F1.ev) (.ret v) [] thaw=some (F2,q,none) /\
   taops cx ops.toList (ops.toList.drop (j+1)) F2 ad2=some (F3,[],ps2,none)/\ps=ps1++(q++ps2):=by
 unfold qjD at e;split at e
 .
  split at e
  .
   rename_i h1;split at e
   .
    rename_i hf;subst hf;split at e
    .
     rename_i h2;split at e
     . rename_i h3;split at e
       . rename_i h4;simp only[aa,ai]at e;obtain⟨rfl,rfl,rfl⟩:=e
         grind
       grind
     grind
    grind
   grind
  grind
 grind
theorem errK {cx Q α f args res}(hev:EvX cx.P f args res){K0 K1 F}{F3:α->Fr}{j ad1}{ad2:α->Advs}{ps:α->List Prop}{thaw}(x0:α)(e:∀ x,qjD cx f args (res x) thaw F j ad1 (ad2 x) K0=some (K1,F3 x,ps x))(hp:∀ x,AllP (ps x))(h:∀ x,FinQ D0 cx Q K1 (F3 x)):FinQ D0 cx Q K0 F:=by
 obtain⟨id,ops,d,ars,argTypes,ty,pos,after,F1,F20,ps1,q0,ps20,rfl,h1,h2,_,_,hps⟩:=qd8 (e x0);have hx:∀ x,∃ F2 q ps2,Xw (isX f args (res x)) cx F1 d f (ars.toList.map F1.ev) (.ret (res x)) [] thaw=some (F2,q,none)/\AllP q/\taops cx ops.toList (ops.toList.drop (j+1)) F2 (ad2 x)=some (F3 x,[],ps2,none)/\AllP ps2:=by intro x;obtain⟨id',ops',d',ars',argTypes',ty',pos',after',F1',F2,ps1',q,ps2,hK,g1,g2,g3,g4,g5⟩:=qd8 (e x);cases hK;rw[h1]at g1;cases g1;rw[h2]at g2;cases g2;have hm:=(hp x).mem;rw[g5]at hm;exact⟨F2,q,ps2,g3,AllP.of_mem fun p h=>hm p (aS _ (aL _ h)),g4,AllP.of_mem fun p h=>hm p (aS _ (aS _ h))⟩
 have hj:j<ops.toList.length:=(az.1 h1).1;have hget:=(az.1 h1).2;have hops:ops.toList=ops.toList.take j++⟨d,.call { callee:=.value (.func f),args:=ars,argTypes:=argTypes },ty,pos,after,none⟩::ops.toList.drop (j+1):=by rw[<- hget,<- List.drop_eq_getElem_cons hj,List.take_append_drop]
 have hm:=(hp x0).mem;rw[hps]at hm;exact errX hev (F2:=fun x=>(hx x).choose) (ps:=fun x=>(hx x).choose_spec.choose) (ps2:=fun x=>(hx x).choose_spec.choose_spec.choose) (F3:=F3) (ad2:=ad2) x0 hops h2
  (AllP.of_mem fun p h=>hm p (aL _ h)) (fun x=>(hx x).choose_spec.choose_spec.choose_spec.1) (fun x=>(hx x).choose_spec.choose_spec.choose_spec.2.1) (fun x=>(hx x).choose_spec.choose_spec.choose_spec.2.2.1)
  (fun x=>(hx x).choose_spec.choose_spec.choose_spec.2.2.2) (fun o _ a V=>QH a o.dst V) h
theorem qjh {cx fn r bx α f args res}(hev:EvX cx.P f args res){K0 K1 F}{F3:α->Fr}{j ad1}{ad2:α->Advs}{ps:α->List Prop}{thaw}(x0:α)(h:∀ x,Fin cx fn K1 (F3 x) r bx)(e:∀ x,qjD cx f args (res x) thaw F j ad1 (ad2 x) K0=some (K1,F3 x,ps x))(hp:∀ x,AllP (ps x)):Fin cx fn K0 F r bx:=errK (Q:=fun G0 w0=>bodyPost cx.P fn (Went G0 w0 r bx)) hev x0 e hp h
end
section
variable [Glob]
theorem FinQ.norm {D cx Q K F ks ls}(h:FinQ D cx Q K (F.norm ks ls)):FinQ D cx Q K F:=by intro G0 w0 G w a hlv hr hg hd;obtain⟨G',r1,g1⟩:=qax hr ks ls;exact h G0 w0 G' w a hlv r1 (hg.trans g1) hd
theorem FinQ.cos {D cx Q K}:∀ {cs:List (Pl×Option Nat)} {F F':Fr},F.cos cs=some F'->FinQ D cx Q K F'->FinQ D cx Q K F
 |[],F,F',e,h=>by simp only[Fr.cos,aa]at e;subst e;exact h
 |(p,s)::l,F,F',e,h=>by
  simp only[Fr.cos]at e;split at e
  . rename_i F1 h1;have:=FinQ.cos e h;intro G0 w0 G w a hlv hr hg hd;obtain⟨G',r1,g1⟩:=qfq hr h1;exact this G0 w0 G' w a hlv r1 (hg.trans g1.w) hd
  . cases e
def DOf (P:Program):Option Nat->Nat->Act->Prop
 |none,_=>D0
 |some k,f=>D1 P k f
theorem qaL {P t f}:∀ o:Oper,dOk t o=true->∀ (a:Act) V,DOf P t f a->DOf P t f (a.put o.dst V):=by
 intro o ho a V h;cases t with
 |none=>exact QH a o.dst V h
 |some k=>exact qmj o ho a V h
def qmP (cx:Cx)(t:Option Nat)(n:Nat)(K:List TItem)(F:Fr)(ad:Advs)(m:List Bool)(ls:List Nat)(cs:List (Pl×Option Nat)):Option (DStop×List Prop):=match mgoD cx t n K F ad with
 |some (.at K F,ps)=>qhZ (zZ 0 m) ls m F fun F=>match F.cos cs with
  |some F=>some (.at K F,ps)
  |none=>none
 |_=>none
theorem Ya {cx fn}(hmix:cx.P.follows .mixedOrders=true){t f res bx n K K' F F' ad ps m ls cs}(h:FinD cx fn (DOf cx.P t f) K' F' res bx)(e:qmP cx t n K F ad m ls cs=some (.at K' F',ps))(hp:AllP ps):FinD cx fn (DOf cx.P t f) K F res bx:=by
 unfold qmP at e;split at e
 .
  rename_i K1 F1 qs h1;rw[qbU]at e;split at e
  . rename_i F2 h2;simp only[aa,ai,DStop.at.injEq]at e;obtain⟨⟨rfl,rfl⟩,rfl⟩:=e;exact qA hmix qaL h1 hp.mem (FinQ.cos h2 h).norm
  grind
 grind
def qnc (cx:Cx)(fn:Func)(nb:Nat)(t:Option Nat)(n:Nat)(K:List TItem)(F:Fr)(ad:Advs)(bx':List (List Cell)):Option (ARes×List (List Cell)×List Prop):=match mgoD cx t n K F ad with
 |some (.ret F1,ps)=>match t with
  |some k=>match tdefer cx .returning .returning F1 k bx' with
   |some (F2,qs)=>match tfin cx.P fn nb F2 with
    |some (.fin r b)=>some (r,b,ps++qs)
    |_=>none
   |none=>none
  |none=>match tfin cx.P fn nb F1 with
   |some (.fin r b)=>some (r,b,ps)
   |_=>none
 |some (.pan v F1,ps)=>match t with
  |some k=>match tdefer cx (.panicking [{ v,recovered:=false }]) (.panicking [{ v,recovered:=true }]) F1 k bx' with
   |some (F2,qs)=>match tfin cx.P fn nb F2 with
    |some (.fin r b)=>some (r,b,ps++qs)
    |_=>none
   |none=>none
  |none=>match zD F1 nb with
   |some b=>some (.panic v,b,ps)
   |none=>none
 |_=>none
theorem Yz {cx fn nb}(hmix:cx.P.follows .mixedOrders=true){t f res bx bx' n K F ad ps}(e:qnc cx fn nb t n K F ad bx'=some (res,bx,ps))(hp:AllP ps):FinD cx fn (DOf cx.P t f) K F res bx:=by
 unfold qnc at e;split at e
 .
  rename_i F1 qs h1;cases t with
  |none=>
   simp only at e;split at e
   . rename_i r b hfin;simp only[aa,ai]at e;obtain⟨rfl,rfl,rfl⟩:=e;refine qA hmix (qaL (f:=f)) h1 hp.mem fun G0 w0 G w a hlv hr hg hd=>?_;have:=XL hfin hlv hr hg hd;exact⟨Zd .normal a w this,Zd .ret a w this⟩
   . cases e
  |some k=>
   simp only at e;split at e
   . rename_i F2 qs2 h2;split at e
     . rename_i r b hfin;simp only[aa,ai]at e;obtain⟨rfl,rfl,rfl⟩:=e;obtain⟨rcl,c1,c2⟩:=qxm h2 (fun p h=>hp.mem p (aS _ h));exact qA hmix (qaL (f:=f)) h1 (fun p h=>hp.mem p (aL _ h)) (qjk (f:=f) c1 c2 hfin)
     . cases e
   . cases e
 .
  rename_i v F1 qs h1;cases t with
  |none=>
   simp only at e;split at e
   . rename_i b hb;simp only[aa,ai]at e;obtain⟨rfl,rfl,rfl⟩:=e;refine qA hmix (qaL (f:=f)) h1 hp.mem fun G0 w0 G w a hlv hr hg hd=>?_;exact Zd (.panic [{ v,recovered:=false }]) a w (Xc hb hlv hr hg hd)
   . cases e
  |some k=>
   simp only at e;split at e
   . rename_i F2 qs2 h2;split at e
     . rename_i r b hfin;simp only[aa,ai]at e;obtain⟨rfl,rfl,rfl⟩:=e;obtain⟨rcl,c1,c2⟩:=qxm h2 (fun p h=>hp.mem p (aS _ h));exact qA hmix (qaL (f:=f)) h1 (fun p h=>hp.mem p (aL _ h)) (qjB (f:=f) c1 c2 hfin)
     . cases e
   . cases e
 . cases e
def qiJ (cx:Cx)(k f:Nat)(F:Fr)(ad:Advs):List TItem->Option (List TItem×Fr×List Prop)
 |.code (.region _ ops false)::K=>match ops.toList.getLast? with
  | some ⟨none,.defer { callee:=.value (.tmp k'),args:=ars,.. },_,_,_,none⟩=>if k'=k then match ars.toList with
    |[]=>match taops cx ops.toList ops.toList.dropLast F ad with
     |some (F1,[],ps,none)=>match (F1.ev (.tmp k)).cell with
      |some (.clo f' _ _)=>if f'=f then some (K,F1,ps)else none
      |_=>none
     |_=>none
    |_=>none
   else none
  |_=>none
 |_=>none
theorem qg9 {cx Q k f K0 K1 F F1 ad ps}(hf:∃ fn,cx.P.funcs[f]? = some fn/\fn.body.isSome=true/\(fn.name == "runtime.NumGoroutine")=false)(h:FinQ (D1 cx.P k f) cx Q K1 F1)(e:qiJ cx k f F ad K0=some (K1,F1,ps))(hp:AllP ps):FinQ D0 cx Q K0 F:=by
 unfold qiJ at e;split at e
 .
  rename_i id ops K;split at e
  .
   rename_i k' ars ats ty pos after hl;split at e
   .
    rename_i hk;subst hk;split at e
    .
     rename_i ha;split at e
     .
      rename_i F2 qs h2;split at e
      . rename_i f' first caps hc
        split at e
        . rename_i hff;subst hff;simp only[aa,ai]at e;obtain⟨rfl,rfl,rfl⟩:=e;have has:ars = #[]:=Array.toList_eq_nil_iff.1 ha;subst has;have hne:ops.toList≠[]:=fun h=>by rw[h]at hl;cases hl
          have hops:ops.toList=ops.toList.dropLast++[⟨none,.defer { callee:=.value (.tmp k'),args:=#[],argTypes:=ats },ty,pos,after,none⟩]:=by rw[List.getLast?_eq_some_getLast hne]at hl;rw[<- aR hl];exact(List.dropLast_concat_getLast hne).symm
          obtain⟨recs,k1,k2⟩:=zP h2 hp.mem;exact qdV k1 hops rfl rfl rfl hf k2 hc h
        . cases e
      . cases e
     . cases e
    . cases e
   . cases e
  . cases e
 . cases e
def mclo (cx:Cx)(fn:Func)(nb n:Nat)(val:Value)(args:List AV)(bx:List (List Cell))(ad1 ad2:Advs):Code->Option (ARes×List (List Cell)×List Prop)
 |.seq (.region _ ops false) C=>match ops.toList with
  |⟨some t,.call { callee:=.builtin .recover,args:=_,argTypes:=_ },_,_,_,none⟩::rest=>match taops cx ops.toList rest ((fr0 fn args bx).putS (some t) (.c (.val val))) ad1 with
   |some (F1,[],ps,none)=>match mgo cx fn nb n [.code C] F1 ad2 with
    |some (.fin r b,qs)=>some (r,b,ps++qs)
    |_=>none
   |_=>none
  |_=>none
 |_=>none
theorem qcj {P f fn body cx nb n args bx bx' res u uo val ad1 ad2 ps}(hf:P.funcs[f]? = some fn)(hb:fn.body=some body)(hP:cx.P=P)(hmix:cx.P.follows .mixedOrders=true)(hval:oneC val=true)(hu:(u=.panicking [{ v:=val,recovered:=false }]/\uo=.panicking [{ v:=val,recovered:=true }])\/(u=.returning/\uo=.returning/\val=.nilIface))(e:mclo cx fn nb n val args bx ad1 ad2 body=some (res,bx',ps))(hp:AllP ps):EvD P u uo f args bx res bx':=by
 unfold mclo at e;split at e
 .
  split at e
  .
   rename_i id ops C t ars ats ty pos after rest hops;split at e
   . rename_i F1 qs h1;split at e
     . rename_i r b qs2 h2;simp only[aa,ai]at e;obtain⟨rfl,rfl,rfl⟩:=e;obtain⟨recs,k1,k2⟩:=zP h1 (fun p h=>hp.mem p (aL _ h));exact qml hf hb hP hops (fun a w=>rfl) rfl rfl hval hu k1 k2 (zO hmix h2 (AllP.of_mem fun p h=>hp.mem p (aS _ h)))
     . cases e
   . cases e
  . cases e
 . cases e
end
end
end Ab
end Go.Proofs.YtgfbbmjoflehlaaGreatDoor
