/-
  The interpreter of the model's code over values, and its soundness: part 4 of 5. No claim stands here.
-/
import Derived.Test.YtnnhdcidgfjfpaaGreatDoorLibCq
set_option linter.all false
namespace Go.Proofs.YtnnhdcidgfjfpaaGreatDoor
namespace Ab
noncomputable section
section
variable [Glob]
def qa4 (o:Oper):Bool:=match o.op with
 |.call { callee:=.value _,.. }=>false
 |_=>true
theorem qgq {cx c r2 ops F o}(h:qa4 o=true):dop cx c ops F o=dop cx r2 ops F o:=by
 have f:∀ (F:Fr) (a b:Oracle),aop cx a F o=aop cx b F o:=by
  intro F a b;unfold aop;split
  . rfl
  unfold aop0;split
  . rfl
  .
   split
   . rfl
   . split
     . rfl
     . rename_i d;rw[qa4,d]at h;cases h
     . rfl
 unfold dop
 grind
section
variable {D:Act->Prop} {cx:Cx} {rec:Orac} {ops:Array Oper} {F':Fr} {G0:Gh} {w0:World} {Q:Exit->Act->World->Prop}
end
def QT (l:List (Nat×Info))(i:Nat):Info:=((l.find? λx=>x.1==i).map (·.2)).getD ⟨[],[],[],false,0,0⟩
end
section
variable [Glob]
section
variable {D:Act->Prop} {cx:Cx} {recs:Orac} {rec2:Oracle} {ops:Array Oper} {F':Fr} {G0:Gh} {w0:World} {Q:Exit->Act->World->Prop}
end
end
section
variable [Glob]
section
variable {cx:Cx} {rec:Oracle}
end
theorem qbu {G w args q Vs}(h:RelF G w ⟨args,q⟩ Vs)(n):
  RelF G w ⟨args++List.replicate (n-args.length) .undef,q⟩ (Vs++Array.replicate (n-Vs.size) Go.undef):=by
 have d:args.length=Vs.size:=h.size;have slot:∀ k v,(args++List.replicate (n-args.length) AV.undef)[k]? = some v->args[k]? = some v\/(args.length<=k/\v=.undef/\(Vs++Array.replicate (n-Vs.size) Go.undef)[k]? = some Go.undef):=by
  intro k v e;by_cases t:k<args.length
  . rw[aX t]at e;exact .inl e
  . rw[aY (by omega)]at e;rw[List.getElem?_replicate]at e;split at e
    . rename_i u;refine .inr ⟨by omega,(aQ e).symm,?_⟩;rw[Array.getElem?_append_right (by omega),Array.getElem?_replicate,aD (by omega)]
    . cases e
 refine⟨h.inv,by simp[d],λk v e=>?_,h.boxes,h.live,λk rows e hi=>?_⟩
 .
  rcases slot k v e with f|⟨t,rfl,m⟩
  . obtain⟨V,m,x⟩:=h.slots k v f;refine⟨V,?_,x⟩;have:k<Vs.size:=by rw[<- d];exact(az.1 f).1
    rw[Array.getElem?_append_left this];exact m
  . exact⟨_,m,⟨#[],rfl,rfl,rfl,by intro i g n h;simp at h⟩,by intro r o c h;simp[AV.undef,cellAt]at h⟩
 .
  refine h.cont k rows ?_ hi;obtain⟨r,π⟩:=k;cases r with
  |slot j=>
   have p:π≠[]:=by
    rcases hi with hi|hi
    . exact hi
    . simp[Root.boxed]at hi
   simp only[Fr.rowsAt,Fr.rows]at e |-;cases l:(args++List.replicate (n-args.length) AV.undef)[j]? with
   |none=>simp[l]at e
   |some v=>
    rcases slot j v l with f|⟨_,rfl,_⟩
    . rw[l]at e;rw[f];exact e
    . rw[l]at e;simp only[av,ae,AV.undef]at e;cases π with
      |nil=>exact absurd rfl p
      |cons y π=>obtain⟨a,b⟩:=y;simp[getR,cellAt]at e
  |_=>exact e
end
section
variable [Glob]
def qnG (cx:Cx)(F:Fr)(o:Oper)(c a b:Operand):Option AV:=match (F.ev c).con with
 |some (.bool t)=>some (if t then F.ev a else F.ev b)
 |_=>none
def qm1 (cx:Cx)(F:Fr)(o:Oper)(op:BinOp)(t:TypeId)(x y:Operand):Option AV:=match op,(F.ev x).con,(F.ev y).con with
 |.eql,some (.agg xs),some (.agg a)=>if qL cx.P t then(qaK cx.P xs a (match cx.P.underlying t with|some (.struct fs)=>fs.toList|_=>[])).map .bool else none
 |.neq,some (.agg xs),some (.agg a)=>if qL cx.P t then(qaK cx.P xs a (match cx.P.underlying t with|some (.struct fs)=>fs.toList|_=>[])).map λb=>.bool (!b)else none
 |_,_,_=>yg cx F o
def qnr (cx:Cx)(F:Fr)(o:Oper)(t:TypeId)(a:Operand):Option AV:=match (F.ev a).cell,qQ cx.P t,zW cx.P t with
 |some c,some n,some g=>(F.loadL n c).bind (mkAV g)
 |_,_,_=>none
def qh5 (cx:Cx)(F:Fr)(o:Oper)(x:Operand):Option AV:=match (F.ev x).cell with
 |some (.ptr p)=>if p.isM then none else some (.c (.ptr p))
 |some (.cptr row o)=>some (.c (.cptr row o))
 |_=>none
def qgI (cx:Cx)(F:Fr)(o:Oper)(s:TypeId)(x:Operand)(f:Nat):Option AV:=match cx.P.underlying s,(F.ev x).cell with
 |some (.struct fields),some c=>match fields[f]? with
  |some a=>match qQ cx.P a.type with
   |some (_+1)=>(ZE a.offset c).map .c
   |_=>none
  |none=>none
 |_,_=>none
def qgB (cx:Cx)(F:Fr)(o:Oper)(t:TypeId)(x i:Operand):Option AV:=match cx.P.underlying t,(F.ev x).cell,asInt (F.ev i)with
 |some (.slice a),some (.imm rows),some n=>match rows[n.toNat]?,qQ cx.P a with
  |some row,some sz=>if 0<=n&&row.length==sz then some (.c (.cptr row 0))else none
  |_,_=>none
 |some (.slice a),some (.ref p),some n=>match F.get p,qQ cx.P a with
  |some (.own b rows),some sz=>if 0<=n&&n<rows.length&&b==sz then some (.c (.ptr ⟨p.toKey,n.toNat,0⟩))else none
  |_,_=>none
 |some (.array len a),some c,some n=>match qQ cx.P a with
  |some sz=>if 0<=n/\n<len then(ZE (n.toNat*sz) c).map .c else none
  |none=>none
 |_,_,_=>none
def qmw (cx:Cx)(F:Fr)(o:Oper)(s:TypeId)(x:Operand)(f:Nat):Option AV:=match cx.P.underlying s,F.ev x with
 |some (.struct fields),⟨.agg,[l]⟩=>match fields[f]? with
  |some a=>match qQ cx.P a.type,zW cx.P a.type with
   |some n,some g=>if a.offset+n<=l.length then mkAV g ((l.drop a.offset).take n)else none
   |_,_=>none
  |none=>none
 |_,_=>none
def qiR (cx:Cx)(F:Fr)(o:Oper)(x:Operand)(i:Nat):Option AV:=match F.ev x with
 |⟨.tup a,rows⟩=>match a[i]?,rows[i]? with
  |some g,some l=>mkAV g l
  |_,_=>none
 |_=>none
def qLen (cx:Cx)(F:Fr)(o:Oper)(args:Array Operand)(argTypes:Array TypeId):Option AV:=match args[0]?,argTypes[0]? with
 |some x,some t=>match cx.P.underlying t,(F.ev x).cell with
  |some (.slice _),some c=>(F.look c).map λrows=>.int rows.length
  |_,_=>yg cx F o
 |_,_=>none
def qhW (cx:Cx)(F:Fr)(o:Oper)(f:Nat)(first b:Array Operand):Option AV:=
 let fs:=first.toList.map λx=>(F.ev x).cell
 let cs:=b.toList.map λx=>(F.ev x).cell
 let a:Option Cell->Bool:=λc=>match c with
  |some (.ptr p)=>p.key.path.isEmpty&&p.r==0
  |some (.val _)=>true
  |_=>false
 if fs.all a&&cs.all a then some (.c (.clo f (fs.map (·.getD .dead)) (cs.map (·.getD .dead))))else none
def xquiet (cx:Cx)(F:Fr)(o:Oper):Option AV:=match o.op with
 |.move x=>some (F.ev x)
 |.pick c a b=>qnG cx F o c a b
 |.binOp op t x y _=>qm1 cx F o op t x y
 |.unOp ..=>yg cx F o
 |.convert s t x=>XU cx F o s t x
 |.makeInterface ..=>yg cx F o
 |.typeAssert x _ t ok=>qbz cx F x t ok
 |.load t a=>qnr cx F o t a
 |.nilCheck x=>qh5 cx F o x
 |.fieldAddr s x f=>qgI cx F o s x f
 |.indexAddr t x i=>qgB cx F o t x i
 |.index ..=>yg cx F o
 |.field s x f=>qmw cx F o s x f
 |.extract x i=>qiR cx F o x i
 |.call { callee:=.builtin .len,args,argTypes }=>qLen cx F o args argTypes
 |.call { callee:=.builtin .max,.. }|.call { callee:=.builtin .min,.. }=>yg cx F o
 |.makeFunc (.func f) first d=>qhW cx F o f first d
 |_=>none
def qlj (cx:Cx)(F:Fr)(o:Oper)(x:Operand):Option Fr:=match (F.ev x).cell,o.dst with
 |some (.ref p),some d=>
  if p.key.root=.slot d then(if p=⟨⟨.slot d,[]⟩,0,0⟩then match F.slots[d]? with
    |some ⟨.one,[[c]]⟩=>if qy c then some F else none
    |_=>none
   else none)
  else if cx.temp p.key.root then match takeC cx F (.ref p)with
   |some (c,F')=>some (F'.putS (some d) (.c c))
   |none=>none
  else some (F.putS (some d) (.c (.ref p)))
 |some c,some d=>some (F.putS (some d) (.c c))
 |none,some d=>(Qb cx F (F.ev x)).map λ(v,F')=>F'.putS (some d) v
 |_,none=>none
def qlG (cx:Cx)(F:Fr)(o:Oper)(t:TypeId)(a x:Operand):Option Fr:=match o.dst,(F.ev a).cell,qQ cx.P t,Qb cx F (F.ev x)with
 |none,some (.ptr p),some n,some (v,F')=>match v.cells with
  |some l=>if l.length=n&&(p.key.heap && !p.isM)&&(p.key.path.isEmpty||l.all qw)then F'.setL p 0 l else none
  |none=>none
 |_,_,_,_=>none
def qmS (cx:Cx)(F:Fr)(o:Oper)(t:TypeId)(a:Array (Nat×Operand)):Option Fr:=match XP cx.P t,placeOf cx.P t,ym cx F (a.toList.map λ(i,x)=>(i,F.ev x))with
 |some l,some b,some (c,F')=>(qbn b l c).map λd=>F'.putS o.dst (.ag d)
 |_,_,_=>none
def qew (cx:Cx)(F:Fr)(o:Oper)(t:TypeId)(len:Nat)(b:Array (Nat×Operand)):Option Fr:=match cx.P.underlying t with
 |some (.slice a)=>match qQ cx.P a,XP cx.P a,ym cx F (b.toList.map λ(i,x)=>(i,F.ev x))with
  | some sz,some c,some (d,F')=>if len*sz<=16777216&&0<sz then
    match qbn (λi=>some (i*sz,sz)) (List.replicate len c).flatten d with
    |some l=>if l.all qw then some (F'.putS o.dst (.c (.own sz (chunk sz len l))))else none
    |none=>none
   else none
  |_,_,_=>none
 |_=>none
def qmF (cx:Cx)(F:Fr)(o:Oper)(t:TypeId)(x:Operand)(b c:Option Operand):Option Fr:=match cx.P.underlying t with
 |some (.slice a)=>match frzC F (((F.ev x).cell).getD .dead),qQ cx.P a with
  |some (rows,F'),some sz=>
   let l:=match b with|some y=>asInt (F.ev y)|none=>some 0
   let h:=match c with|some y=>asInt (F.ev y)|none=>some (rows.length:Int)
   match l,h with
   |some l,some h=>if 0<=l/\l<=h/\h<=rows.length/\(rows.head?.all (·.length==sz))then some (F'.putS o.dst (.c (.imm ((rows.take h.toNat).drop l.toNat))))else none
   |_,_=>none
  |_,_=>none
 |_=>(yg cx F o).map (F.putS o.dst)
def qk2 (cx:Cx)(F:Fr)(o:Oper)(args:Array Operand)(argTypes:Array TypeId):Option Fr:=match args.toList,argTypes.toList,o.dst with
 |[s,x],[t,t1],some d=>match cx.P.underlying t,srcU (cx.P.underlying t1),(F.ev s).cell,(F.ev x).cell with
  |some (.slice a),some (.slice _),some .nil,some b=>match cx.P.info? a with
   |some i=>Yo cx F d a i [] none b
   |none=>none
  |some (.slice a),some (.slice _),some (.ref p),some b=>match F.get p,cx.P.info? a,F.set p .dead with
   |some (.own c rows),some i,some f=>if c=i.size then Yo cx (f.kill p) d a i rows (some p) b else none
   |_,_,_=>none
  |_,_,_,_=>none
 |_,_,_=>none
def qjs (cx:Cx)(F:Fr)(o:Oper)(s t:TypeId)(x:Operand):Option Fr:=match cx.P.underlying s,cx.P.underlying t,(F.ev x).con with
 |some .string,some (.slice e),some (.string b)=>match cx.P.underlying e with
  |some (.int .u8)=>some (F.putS o.dst (.c (.imm (yH b))))
  |_=>none
 |_,_,_=>none
def xloud (cx:Cx)(F:Fr)(o:Oper):Option Fr:=match o.op with
 |.assign x=>qlj cx F o x
 |.alloc t=>match XP cx.P t with
  |some l=>qaN F o.dst l
  |none=>none
 |.box _ x=>match Qb cx F (F.ev x)with
  |some (v,F')=>v.cells.bind (qaN F' o.dst)
  |none=>none
 |.store t a x=>qlG cx F o t a x
 |.build t b=>qmS cx F o t b
 |.buildSlice t len b=>qew cx F o t len b
 |.convert s t x=>qjs cx F o s t x
 |.slice t x c d none=>qmF cx F o t x c d
 |.call { callee:=.builtin .append,args,argTypes }=>qk2 cx F o args argTypes
 |_=>none
theorem XZ (cx F)(o):xquiet cx F o=quiet cx F o:=by
 obtain⟨dst,op,ty,pos,after,guard⟩:=o;cases op with
 |call c=>
  obtain⟨callee,args,argTypes⟩:=c;cases callee with
  |builtin b=>cases b<;>rfl
  |_=>rfl
 |makeFunc f a b=>cases f<;>rfl
 |_=>rfl
theorem qjC (cx F)(o):xloud cx F o=loud cx F o:=by
 obtain⟨dst,op,ty,pos,after,guard⟩:=o;cases op with
 |call c=>
  obtain⟨callee,args,argTypes⟩:=c;cases callee with
  |builtin b=>cases b<;>rfl
  |_=>rfl
 |makeMap t r=>cases r<;>rfl
 |slice t x d f a=>cases a<;>rfl
 |_=>rfl
def qmR (F:Fr)(x:Operand):Option (Fr×Option Value):=match (F.ev x).con with
 |some (.iface t v)=>some (F,some (.iface t v))
 |_=>none
def qnq (cx:Cx)(rec:Oracle)(F:Fr)(o:Oper)(g:Operand)(args:Array Operand):Option (Fr×Option Value):=match (F.ev g).cell with
 |some (.clo f first a)=>vZ cx rec F o.dst f (first.map .c++args.toList.map F.ev++a.map .c)
 |_=>none
def qfW (cx:Cx)(rec:Oracle)(F:Fr)(o:Oper):Option (Fr×Option Value):=match o.op with
 |.panic x=>qmR F x
 |.call { callee:=.value g,args,.. }=>qnq cx rec F o g args
 |_=>match xloud cx F o with
  |some F'=>some (F',none)
  |none=>none
theorem qg2 (cx rec F o)(h:quiet cx F o=none):qfW cx rec F o=aop0 cx rec F o:=by
 obtain⟨dst,op,ty,pos,after,guard⟩:=o;unfold aop0;rw[h];simp only;rw[<- qjC];cases op with
 |call c=>
  obtain⟨callee,args,argTypes⟩:=c;cases callee with
  |value g=>rfl
  |builtin b=>simp only[qfW];split<;>simp_all
  |_=>rfl
 |panic x=>rfl
 |_=>simp only[qfW];split<;>simp_all
def qlq (cx:Cx)(rec:Oracle)(F:Fr)(o:Oper):Option (Fr×Option Value):=match xquiet cx F o with
 |some v=>some (F.putS o.dst v,none)
 |none=>qfW cx rec F o
theorem qiO (cx rec F)(o):qlq cx rec F o=aop0 cx rec F o:=by
 unfold qlq;rw[XZ];cases h:quiet cx F o with
 |none=>exact qg2 cx rec F o h
 |some v=>unfold aop0;rw[h]
def xaop (cx:Cx)(rec:Oracle)(F:Fr)(o:Oper):Option (Fr×Option Value):=match mvop cx F o with
 |some F'=>some (F',none)
 |none=>qlq cx rec F o
theorem qhC (cx rec F)(o):xaop cx rec F o=aop cx rec F o:=by unfold xaop aop;rw[qiO];rfl
end
section
variable [Glob]
def Xp (s:ByteArray)(n:Nat):Option Int:=(s[n]?).map λb=>(b.toNat:Int)
theorem qj {α β P}(s)(f:α->Sem β):qo P (s >>= f)=(qo P s).bind λa=>qo P (f a):=by
 show qo P (Sem.bind s f)=_
 induction s with
 |pure a=>rfl
 |program k b=>exact b P
 |mark m k b=>exact b
 |_=>rfl
theorem yo {P t u}(h:P.underlying t=some u):qo P (underlying t)=some u:=by unfold underlying;rw[qj];show(qo P (match P.underlying t with|some d=>pure d|none=>_))=_;rw[h];rfl
theorem xB {v n}(e:asInt v=some n):∃ k,v.con=some (.int k n):=by
 unfold asInt at e;split at e
 . rename_i k m h;simp only[aa]at e;subst e;exact⟨k,h⟩
 . cases e
theorem qhh {cx F dst t x i ty pos after g s n b}(d:cx.P.underlying t=some .string)(a:(F.ev x).con=some (.string s))(f:asInt (F.ev i)=some n)(h:0<=n)(j:s[n.toNat]? = some b):
  yg cx F ⟨dst,.index t x i,ty,pos,after,g⟩=some (.c (.val (.int .u8 (b.toNat:Int)))):=by
 obtain⟨k,c⟩:=xB f;unfold yg;rw[aD (by simp[Op.operands,a,c])];have:qo cx.P (execOp (λx=>((F.ev x).con).getD Go.undef) ⟨dst,.index t x i,ty,pos,after,g⟩)=some (.value (.int .u8 (b.toNat:Int))):=by simp only[execOp,a,c,Option.getD_some,Instr.index,qj,yo d,ae,asIntOf];rw[show qo cx.P (pure (k,n):Sem (IntKind×Int))=some (k,n)from rfl,ae];simp only[aD h,j];rfl
 rw[this];rfl
theorem qcI {P t g}(h:zW P t=some g):qo P (isAgg t)=some g:=by
 unfold zW at h;cases a:P.underlying t with
 |none=>simp[a]at h
 |some u=>unfold isAgg;rw[qj,yo a,ae];rw[a]at h;cases u<;>simp only[aa]at h<;>subst h<;>rfl
theorem qbE {P t n}(h:qQ P t=some n):qo P (sizeOf t)=some n:=by unfold qQ at h;rw[aG]at h;obtain⟨i,a,rfl⟩:=h;unfold sizeOf typeInfo;rw[qj,qj];show((qo P (match P.info? t with|some i=>pure i|none=>_)).bind _)=_;rw[a];rfl
theorem qlm {cx F dst t a}{len:Nat}{x i ty pos after g cs n v}(f:cx.P.underlying t=some (.array len a))(h:qQ cx.P a=some 1)(j:zW cx.P a=some false)(c:(F.ev x).con=some (.agg cs))(l:asInt (F.ev i)=some n)(m:0<=n)(o:n<len)(p:cs.toList[n.toNat]? = some v):
  yg cx F ⟨dst,.index t x i,ty,pos,after,g⟩=some (yR v):=by
 obtain⟨k,d⟩:=xB l;unfold yg;rw[aD (by simp[Op.operands,c,d])];have b:cs[n.toNat]? = some v:=by rw[<- p,aP]
 have:qo cx.P (execOp (λx=>((F.ev x).con).getD Go.undef) ⟨dst,.index t x i,ty,pos,after,g⟩)=some (.value v):=by simp only[execOp,c,d,Option.getD_some,Instr.index,qj,yo f,ae,asIntOf];rw[show qo cx.P (pure (k,n):Sem (IntKind×Int))=some (k,n)from rfl,ae];simp only[aD (show 0<=n/\n<(len:Int)from⟨m,o⟩),qj,qbE h,ae,part,qcI j,Nat.mul_one];simp only[aS,if_false,b];rfl
 rw[this]
theorem qkS {cx F dst t x y u ty pos after g s r}(a:(F.ev x).con=some (.string s))(b:(F.ev y).con=some (.string r))(h:s.size+r.size<=1000000000):
  yg cx F ⟨dst,.binOp .add t x y u,ty,pos,after,g⟩=some (.c (.val (.string (s++r)))):=by
 unfold yg;rw[aD (by simp[Op.operands,a,b])];have c:¬ ((s.size+r.size:Nat):Int)>IntKind.i64.max:=by
  have:IntKind.i64.max=9223372036854775807:=by decide
  rw[this];omega
 have:qo cx.P (execOp (λx=>((F.ev x).con).getD Go.undef) ⟨dst,.binOp .add t x y u,ty,pos,after,g⟩)=some (.value (.string (s++r))):=by simp only[execOp,a,b,Option.getD_some,qj];rw[show qo cx.P (eqGuard .add t x y (.string s) (.string r))=some ()from rfl,ae];rw[show binOp .add t (.string s) (.string r)=Op.stringOp .add s r from rfl];unfold Op.stringOp;simp only[aF c];rfl
 rw[this];rfl
theorem qgh {P t s c d}{l h:Int}(g:P.underlying t=some .string)(b:match c with|some v=>∃ k,v=.int k l|none=>l=0)(f:match d with|some v=>∃ k,v=.int k h|none=>h=s.size)(o:0<=l/\l<=h/\h<=s.size):qo P (Instr.sliceAt t (.string s) c d none)=some (.string (s.extract l.toNat h.toNat)):=by
 obtain⟨i,u,j⟩:=o;have a:∀ (k:IntKind) (n:Int) (y:Nat) (code:BoundsCode),0<=n->n<=y->qo P (Instr.sliceBound (.int k n) y code)=some n.toNat:=λk n y code p q=>by unfold Instr.sliceBound;rw[qj,show qo P (asIntOf (.int k n))=some (k,n)from rfl,ae];simp only[aD (show 0<=n/\n<=(y:Int)from⟨p,q⟩)];rfl
 have r:qo P (Instr.sliceBounds false s.size s.size c d none)=some (l.toNat,h.toNat,s.size):=by
  unfold Instr.sliceBounds;cases d with
  |none=>
   simp only at f;subst f;cases c with
   |none=>simp only at b;subst b;rfl
   |some v=>obtain⟨k,rfl⟩:=b;show qo P (Instr.sliceBound (.int k l) s.size _ >>= λl=>pure (l,s.size,s.size))=_;rw[qj,a k l s.size _ i (by omega)];rfl
  |some v=>
   obtain⟨k,rfl⟩:=f;cases c with
   |none=>simp only at b;subst b;show qo P (Instr.sliceBound (.int k h) s.size _ >>= λh=>pure (0,h,s.size))=_;rw[qj,a k h s.size _ (by omega) j];rfl
   |some w=>obtain⟨m,rfl⟩:=b;show qo P (Instr.sliceBound (.int k h) s.size _ >>= λh=>Instr.sliceBound (.int m l) h _ >>= λl=>pure (l,h,s.size))=_;rw[qj,a k h s.size _ (by omega) j,ae,qj,a m l h.toNat _ i (by omega)];rfl
 unfold Instr.sliceAt;rw[qj,yo g,ae];unfold Instr.slice;simp only;rw[qj,yo g,ae];simp only[Option.isSome_none,aS,if_false];refine Eq.trans (qj _ _) ?_;rw[r];rfl
theorem qhf {cx F dst t x b a ty pos after g s}{l h:Int}(p:cx.P.underlying t=some .string)(d:(F.ev x).con=some (.string s))(m:(match b with|some y=>asInt (F.ev y)|none=>some 0)=some l)(j:(match a with|some y=>asInt (F.ev y)|none=>some (s.size:Int))=some h)(q:0<=l/\l<=h/\h<=s.size):
  yg cx F ⟨dst,.slice t x b a none,ty,pos,after,g⟩=some (.c (.val (.string (s.extract l.toNat h.toNat)))):=by
 unfold yg;have n:match b.map (λy=>((F.ev y).con).getD Go.undef)with|some v=>∃ k,v=.int k l|none=>l=0:=by
  cases b with
  |none=>simpa using m.symm
  |some y=>obtain⟨k,c⟩:=xB m;exact⟨k,by show((F.ev y).con).getD Go.undef=_;rw[c];rfl⟩
 have o:match a.map (λy=>((F.ev y).con).getD Go.undef)with|some v=>∃ k,v=.int k h|none=>h=s.size:=by
  cases a with
  |none=>simpa using j.symm
  |some y=>obtain⟨k,c⟩:=xB j;exact⟨k,by show((F.ev y).con).getD Go.undef=_;rw[c];rfl⟩
 have f:((Op.slice t x b a none).operands.toList.all λx=>(F.ev x).con.isSome)=true:=by
  cases b with
  |none=>cases a with
   |none=>simp[Op.operands,d]
   |some y=>obtain⟨k,c⟩:=xB j;simp[Op.operands,d,c]
  |some z=>
   obtain⟨k1,i⟩:=xB m;cases a with
   |none=>simp[Op.operands,d,i]
   |some y=>obtain⟨k,c⟩:=xB j;simp[Op.operands,d,c,i]
 rw[aD f];have:qo cx.P (execOp (λx=>((F.ev x).con).getD Go.undef) ⟨dst,.slice t x b a none,ty,pos,after,g⟩)=some (.value (.string (s.extract l.toNat h.toNat))):=by simp only[execOp,d,Option.getD_some,qj,Option.map_none];rw[qgh p n o q];rfl
 rw[this];rfl
theorem qhd {cx F dst op t x y u ty pos after g k a b v}(c:(op=.quo/\v=.int k (k.wrap (a.tdiv b)))\/(op=.rem/\v=.int k (a.tmod b)))(d:(F.ev x).con=some (.int k a))(f:(F.ev y).con=some (.int k b))(h:b≠0):
  yg cx F ⟨dst,.binOp op t x y u,ty,pos,after,g⟩=some (.c (.val v)):=by
 unfold yg;rw[aD (by simp[Op.operands,d,f])];have:qo cx.P (execOp (λx=>((F.ev x).con).getD Go.undef) ⟨dst,.binOp op t x y u,ty,pos,after,g⟩)=some (.value v):=by
  rcases c with⟨rfl,rfl⟩|⟨rfl,rfl⟩
  . simp only[execOp,d,f,Option.getD_some,qj];rw[show qo cx.P (eqGuard .quo t x y (Value.int k a) (Value.int k b))=some ()from rfl,ae];rw[show Go.binOp .quo t (Value.int k a) (Value.int k b)=(if k≠k then stuck "BinOp: operands of different kinds" else Op.intDiv .quo k a b)from rfl,aF (by simp)]
    unfold Op.intDiv;simp only[aF h];rfl
  . simp only[execOp,d,f,Option.getD_some,qj];rw[show qo cx.P (eqGuard .rem t x y (Value.int k a) (Value.int k b))=some ()from rfl,ae];rw[show Go.binOp .rem t (Value.int k a) (Value.int k b)=(if k≠k then stuck "BinOp: operands of different kinds" else Op.intDiv .rem k a b)from rfl,aF (by simp)]
    unfold Op.intDiv;simp only[aF h];rfl
 rw[this];cases c<;>(rename_i h;obtain⟨_,rfl⟩:=h;rfl)
theorem qkx {cx F dst op t x y u ty pos after g k c a b v}(d:(op=.shl/\v=.int k (k.wrap (a*2 ^ (min b.toNat k.bits))))\/(op=.shr/\v=.int k (a.fdiv (2 ^ (min b.toNat k.bits)))))(f:(F.ev x).con=some (.int k a))(i:(F.ev y).con=some (.int c b))(h:0<=b):
  yg cx F ⟨dst,.binOp op t x y u,ty,pos,after,g⟩=some (.c (.val v)):=by
 unfold yg;rw[aD (by simp[Op.operands,f,i])];have j:¬ b<0:=by omega
 have:qo cx.P (execOp (λx=>((F.ev x).con).getD Go.undef) ⟨dst,.binOp op t x y u,ty,pos,after,g⟩)=some (.value v):=by
  rcases d with⟨rfl,rfl⟩|⟨rfl,rfl⟩
  . simp only[execOp,f,i,Option.getD_some,qj];rw[show qo cx.P (eqGuard .shl t x y (Value.int k a) (Value.int c b))=some ()from rfl,ae];rw[show Go.binOp .shl t (Value.int k a) (Value.int c b)=Op.shift .shl k a c b from rfl];unfold Op.shift;simp only[aF j];rfl
  . simp only[execOp,f,i,Option.getD_some,qj];rw[show qo cx.P (eqGuard .shr t x y (Value.int k a) (Value.int c b))=some ()from rfl,ae];rw[show Go.binOp .shr t (Value.int k a) (Value.int c b)=Op.shift .shr k a c b from rfl];unfold Op.shift;simp only[aF j];rfl
 rw[this];cases d<;>(rename_i h;obtain⟨_,rfl⟩:=h;rfl)
end
section
variable [Glob]
def WL {α:Type}(P:Program)(m:Sem α):Prop:=∀ w r w',m.run P w=.ok r w'->w'=w/\∀ a,m.run P a=.ok r a
def NE {α:Type}(P:Program)(m:Sem α):Prop:=∀ w r w',m.run P w≠.ok r w'
theorem NE.wl {α P}{m:Sem α}(h:NE P m):WL P m:=λw r w' e=>absurd e (h w r w')
theorem WL.pure {α P}(a):WL P (Pure.pure a:Sem α):=λw r w' e=>by have b:Result.ok a w=.ok r w':=e;simp only[Result.ok.injEq]at b;obtain⟨rfl,rfl⟩:=b;exact⟨rfl,λ_=>rfl⟩
theorem WL.bind {α β P m}{f:α->Sem β}(h:WL P m)(d:∀ a,WL P (f a)):WL P (m >>= f):=λw r w' e=>by
 rw[aK]at e;cases b:m.run P w with
 |ok a w1=>rw[b,ay]at e;obtain⟨rfl,k1⟩:=h w a w1 b;obtain⟨rfl,g⟩:=d a w1 r w' e;exact⟨rfl,λc=>by rw[aK,k1 c,ay,g c]⟩
 |halt x w1=>rw[b]at e;cases e
theorem NE.bind {α β P m}{f:α->Sem β}(c:∀ a,NE P (f a)):NE P (m >>= f):=λw r w' e=>by
 rw[aK]at e;cases b:m.run P w with
 |ok a w1=>rw[b,ay]at e;exact c a w1 r w' e
 |halt x w1=>rw[b]at e;cases e
theorem NE.stuck {α P}(s):NE P (Go.stuck s:Sem α):=λw r w' e=>by cases e
theorem NE.halt {α P}(s):NE P (Sem.halt s:Sem α):=λw r w' e=>by cases e
theorem WL.prog {α P}{f:Program->Sem α}(h:WL P (f P)):WL P (program >>= f):=λw r w' e=>by rw[aK]at e;have a:∀ w,program.run P w=.ok P w:=λw=>rfl;rw[a,ay]at e;obtain⟨rfl,k⟩:=h w r w' e;exact⟨rfl,λb=>by rw[aK,a,ay,k b]⟩
theorem WL.underlying {P}(t):WL P (Go.underlying t):=by
 unfold Go.underlying;refine .prog ?_;split
 . exact .pure _
 . exact(NE.halt _).wl
theorem WL.sizeOf {P}(t):WL P (Go.sizeOf t):=by
 unfold Go.sizeOf Go.typeInfo;refine .bind (.prog ?_) λ_=>.pure _;split
 . exact .pure _
 . exact(NE.halt _).wl
theorem NE.bounds {α P}(k x y)(c):NE P (boundsPanic k x y c:Sem α):=by
 have a:∀ e:RuntimeError,(∃ x y s c,e=.bounds x y s c)->NE P (runtimePanic e:Sem α):=by
  rintro _ ⟨x,y,s,c,rfl⟩
  unfold runtimePanic;exact .bind λ_=>.halt _
 unfold boundsPanic;dsimp only;split<;>exact .bind λ_=>a _ ⟨_,_,_,_,rfl⟩
theorem WL.indexAt {P}(t)(x i):WL P (Instr.indexAt t x i):=by
 unfold Instr.indexAt
 repeat' first
  |exact WL.pure _
  |exact WL.underlying _
  |exact WL.sizeOf _
  |exact(NE.halt _).wl
  |exact(NE.bounds _ _ _ _).wl
  |refine WL.bind ?_ (λ_=>?_)
  |(unfold asIntOf)
  |(unfold Instr.sureAddr)
  |split
  |dsimp only
def qyY (P:Program)(op:Op):Bool:=match op with
 |.indexAddr _ _ _=>true
 |.call { callee:=.builtin .len,args:=_,argTypes }=>match argTypes[0]? with
  |some t=>match P.underlying t with
   |some (.slice _)=>true
   |_=>false
  |none=>false
 |_=>false
theorem qCO {P ev o}(h:qyY P o.op=true):WL P (execOp ev o):=by
 obtain⟨dst,op,ty,pos,after,guard⟩:=o;unfold qyY at h;split at h
 . rename_i t x i e;change op=_ at e;subst e;exact .bind (.indexAt _ _ _) λ_=>.pure _
 .
  rename_i args argTypes e;change op=_ at e;subst e;simp only[execOp,resolve,pure_bind,invoke,builtin];refine .bind ?_ λ_=>.pure _;split at h
  .
   rename_i t c;split at h
   .
    rename_i d a;unfold Builtin.len_;rw[c];split
    . rename_i f x' e;simp only[ai,aa]at e;obtain⟨rfl,g⟩:=e;intro w r w' e;rw[aK,run_underlying a,ay]at e;cases x'<;>first
       |(cases e;done)
       |(have b:Result.ok _ w=Result.ok r w':=e;simp only[Result.ok.injEq]at b;obtain⟨rfl,rfl⟩:=b;exact⟨rfl,λj=>by rw[aK,run_underlying a,ay];rfl⟩)
    . exact(NE.halt _).wl
   . cases h
  . cases h
 . cases h
theorem qzU {α:Type}(xs:Array α){i j}(h:i≠j)(f g):(xs.modify i f).modify j g=(xs.modify j g).modify i f:=by apply Array.ext_getElem?;intro k;simp only[Array.getElem?_modify];by_cases a:i=k<;>by_cases b:j=k<;>simp[a,b];omega
theorem qzr {w:World}{a b2 b c d f}(h:a≠b2):(w.setCell ⟨a,b,none⟩ d).setCell ⟨b2,c,none⟩ f=(w.setCell ⟨b2,c,none⟩ f).setCell ⟨a,b,none⟩ d:=by unfold World.setCell;dsimp only;rw[qzU _ h]
theorem qwx {a b2 b c}(h:a≠b2):∀ (us:List Value) (o:Nat) (w:World),(w.setCell ⟨a,b,none⟩ c).setCells b2 o us=(w.setCells b2 o us).setCell ⟨a,b,none⟩ c
 |[],_,_=>rfl
 |u::us,o,w=>by rw[World.setCells,World.setCells,qzr h,qwx h us]
theorem qw4 {c b2}(h:c≠b2){d a}:∀ (b:List Value) (f:Nat) (w:World),(w.setCells c f b).setCells b2 d a=(w.setCells b2 d a).setCells c f b
 |[],_,_=>rfl
 |u::us,o,w=>by rw[World.setCells,World.setCells,qw4 h us,qwx h]
theorem qwa {a b}(h:a≠b):∀ (us:List Value) (o:Nat) (w:World),(w.setCells a o us).heap[b]? = w.heap[b]?
 |[],_,_=>rfl
 |u::us,o,w=>by rw[World.setCells,qwa h us];unfold World.setCell;simp only[Array.getElem?_modify,aF h]
theorem qyA {P b a T}:∀ (us:List Value) (j:Nat) (w:World) (vs:Array Value),w.heap[b]? = some (.cells vs T (0,0))->a+j+us.length<=vs.size->(∀ u∈us,oneC u=true) ->
  (storeCells ⟨b,a,none⟩ us j).run P w=.ok () (w.setCells b (a+j) us)
 |[],j,w,vs,h,_,_=>rfl
 |u::us,j,w,vs,h,f,d=>by
  simp only[List.length_cons]at f;have c:a+j<vs.size:=by omega
  rw[storeCells,aK,zb,qbI h (Array.getElem?_eq_getElem c) (d u au),ay,World.setCells];exact qyA us (j+1) _ _ (by rw[heap_setCell h,aD rfl]) (by simp;omega) λx g=>d x (aB _ g)
def Sto (P:Program)(ev:Operand->Value)(o:Oper)(w:World)(b a:Nat)(us:List Value):Prop:=∃ t y x vs T,o.op=.store t y x/\ev y=.pointer (some ⟨b,a,none⟩)/\us=(ev x).cells.toList/\qQ P t=some us.length/\w.heap[b]? = some (.cells vs T (0,0))/\a+us.length<=vs.size/\∀ u∈us,oneC u=true
theorem Sto.run {P ev o w b a us}(h:Sto P ev o w b a us):(execOp ev o).run P w=.ok .skip (w.setCells b a us):=by obtain⟨dst,op,ty,pos,after,guard⟩:=o;obtain⟨t,y,x,vs,T,c,d,rfl,f,g,j,i⟩:=h;change op=_ at c;subst c;have:=qyA (P:=P) _ 0 w vs g (by omega) i;simp only[execOp,Instr.storeAt,Instr.sureAddr,storeVar,d,aK,aT,ay,qK f,Array.length_toList,ne_eq,not_true_eq_false,if_false,this,Nat.add_zero]
theorem Sto.other {P ev o w b a us d f c}(g:d≠b):Sto P ev o (w.setCells d f c) b a us↔Sto P ev o w b a us:=by unfold Sto;rw[qwa g]
theorem Sto.eval {P ev a o w b c us}(h:Sto P ev o w b c us)(e:∀ x∈o.op.operands,a x=ev x):Sto P a o w b c us:=by obtain⟨t,y,x,vs,T,d,f,g,i⟩:=h;rw[d]at e;exact⟨t,y,x,vs,T,d,by rw[e y (by simp[Op.operands])];exact f,by rw[e x (by simp[Op.operands])];exact g,i⟩
theorem qBd {G w F ts}(h:RelF G w F ts){q}(j:q.key.inHeap){y}(g:G.γ q.key=some y)(b:y.isMap=false){c}(a:F.get q=some c):
  ∃ vs T,w.heap[y.b]? = some (.cells vs T (0,0))/\q.r*y.sz+q.o<vs.size:=by
 unfold Fr.get at a;cases d:F.rowsAt q.key with
 |none=>simp[d]at a
 |some rows=>
  simp only[d,ae]at a;obtain⟨z,vs,T,i,m,n,k,o,p,r,t,l⟩:=(h.cont _ _ d j).of_hd g b;rw[g]at i;cases i;obtain⟨u,f,_⟩:=l _ _ _ a;refine⟨vs,T,k,?_⟩;rcases Nat.lt_or_ge (q.r*y.sz+q.o) vs.size with h|h
  . exact h
  . simp[Array.getElem?_eq_none h]at f
theorem qC8 {P:Program}{ts p}(A:p.key.inHeap){y}(a:y.isMap=false)(l us xs){G w F F'}(h:RelF G w F ts)(B:G.γ p.key=some y)(C:qvg G w F xs l us)(hd:Dis xs)(J:p.key.path≠[]->l.all qw=true)(e:F.setL p 0 l=some F')(E:l≠[]):
  ∃ G' vs T,w.heap[y.b]? = some (.cells vs T (0,0))/\p.r*y.sz+p.o+us.length<=vs.size/\(∀ u∈us,oneC u=true)/\RelF G' (w.setCells y.b (p.r*y.sz+p.o) us) F' ts/\Gain G w G' (w.setCells y.b (p.r*y.sz+p.o) us):=by
 obtain⟨vs,T,b⟩:∃ vs T,w.heap[y.b]? = some (.cells vs T (0,0)):=by
  cases l with
  |nil=>exact absurd rfl E
  |cons c l=>
   simp only[Fr.setL]at e;cases H:(if qy c=true then F.kill { p with o:=p.o+0 }else F).set { p with o:=p.o+0 } c with
   |none=>rw[H]at e;cases e
   |some R=>
    have K:RelF G w (if qy c=true then F.kill { p with o:=p.o+0 }else F) ts:=by
     split
     . exact h.mapC (qM _)
     . exact h
    obtain⟨S,k⟩:=(Fr.setTo H).old;obtain⟨vs,T,L,_⟩:=qBd (q:={ p with o:=p.o+0 }) K A B a k;exact⟨vs,T,L⟩
 obtain⟨G',w',run,r,g⟩:=qgp (P:=P) A a l us xs 0 G w F F' h B C hd J e;have key:∀ (us:List Value) (j:Nat) (w w':World) (vs:Array Value),w.heap[y.b]? = some (.cells vs T (0,0))->(storeCells ⟨y.b,p.r*y.sz+p.o,none⟩ us j).run P w=.ok () w' ->
   w'=w.setCells y.b (p.r*y.sz+p.o+j) us/\(us≠[]->p.r*y.sz+p.o+j+us.length<=vs.size)/\∀ u∈us,oneC u=true:=by
  intro us
  induction us with
  |nil=>intro j w w' vs _ e;have I:Result.ok () w=.ok () w':=e;simp only[Result.ok.injEq,true_and]at I;exact⟨I.symm,λh=>absurd rfl h,by simp⟩
  |cons u us M=>
   intro j w w' vs d e;rw[storeCells,aK,zb]at e;have N:w.cell? ⟨y.b,p.r*y.sz+p.o+j,none⟩=vs[p.r*y.sz+p.o+j]?:=by unfold World.cell?;simp[d]
   have U:w.frozen? ⟨y.b,p.r*y.sz+p.o+j,none⟩=false:=by unfold World.frozen?;simp[d]
   have m:oneC u=true:=by
    cases u<;>first
     |rfl
     |(simp only[Go.store,Sem.run]at e;cases e)
   by_cases n:p.r*y.sz+p.o+j<vs.size
   .
    rw[qbI d (Array.getElem?_eq_getElem n) m,ay]at e;obtain⟨k1,i,t⟩:=M (j+1) _ w' (vs.setIfInBounds (p.r*y.sz+p.o+j) u) (by rw[heap_setCell d,aD rfl]) e;refine⟨by rw[k1,World.setCells];rfl,λ_=>?_,?_⟩
    . cases us with
      |nil=>simp;omega
      |cons x xs=>have:=i (by simp);simp at this |-;omega
    . intro x v;rcases List.mem_cons.1 v with rfl|v
      . exact m
      . exact t x v
   .
    exfalso;have O:w.cell? ⟨y.b,p.r*y.sz+p.o+j,none⟩=none:=by rw[N];exact Array.getElem?_eq_none (by omega)
    have f:w.farStore P ⟨y.b,p.r*y.sz+p.o+j,none⟩ u false=.error (w.noCell ⟨y.b,p.r*y.sz+p.o+j,none⟩ "store: no such cell"):=by unfold World.farStore;simp[d]
    have:(Go.store ⟨y.b,p.r*y.sz+p.o+j,none⟩ u).run P w=.halt (w.noCell ⟨y.b,p.r*y.sz+p.o+j,none⟩ "store: no such cell") w:=by
     cases u<;>first
      |(simp[oneC]at m;done)
      |(simp only[Go.store,Sem.run,O];rw[show(Mode.plain==Mode.atomic)=false from rfl,f])
    rw[this]at e;cases e
 obtain⟨k1,i,t⟩:=key us 0 w w' vs b run;have z:us≠[]:=by
  rintro rfl
  cases l with
  |nil=>exact E rfl
  |cons c l=>cases xs<;>exact C.elim
 rw[Nat.add_zero]at k1 i;subst k1;exact⟨G',vs,T,b,i z,t,r,g⟩
theorem qCv {cx G w F F'}{a:Act}{o t y x}(q:o.op=.store t y x)(C:qQ cx.P t≠some 0)(h:RelF G w F a.tmps)(e:loud cx F o=some F'):
  ∃ b d us G',Sto cx.P a.eval o w b d us/\RelF G' (w.setCells b d us) F' a.tmps/\Gain G w G' (w.setCells b d us):=by
 obtain⟨dst,op,ty,pos,after,guard⟩:=o;change op=_ at q;subst q;unfold loud at e;simp only at e;split at e
 .
  rename_i p n v W E r H;split at e
  .
   rename_i l I;split at e
   .
    rename_i c;simp only[aC,aW,Bool.or_eq_true,List.isEmpty_iff]at c;obtain⟨⟨f,g,j⟩,i⟩:=c;obtain⟨_,J⟩:=qp h E (by simp);obtain⟨_,u,K,L,z⟩:=J ⟨⟨.res,[]⟩,0,0⟩;have k:u.isMap=false:=by
     cases M:u.isMap with
     |false=>rfl
     |true=>rw[L M]at j;cases j
    rw[Hd.adr_of k]at z;obtain⟨im',xs,X,us,N,O,A,R,B,S,_⟩:=Xb h (qx h x) H;rw[I]at B;cases B;have m:us.length=n:=by rw[<- f,<- A.len.2]
    obtain⟨G',vs,T,U,b2,b3,b4,b5⟩:=qC8 (P:=cx.P) (qcn.1 g) k l us xs N K A R (λV=>i.resolve_left V) e (by rintro rfl;rw[List.length_nil]at f;exact C (by rw[r,f]));refine⟨_,_,us,G',⟨t,y,x,vs,T,rfl,z,by rw[S],by rw[r,m],U,b2,b3⟩,b4,O.trans b5⟩
   . cases e
  . cases e
 . cases e
theorem qBB {cx rec ops G w F F'}{a:Act}{o I t y x}(g:o.op=.store t y x)(hd:o.dst=none)(m:o.guard=none)(n:qQ cx.P t≠some 0)(h:RelF G w F a.tmps)(e:dop cx rec ops F o=some (F',I)):
  ∃ b c us G',Sto cx.P a.eval o w b c us/\RelF G' (w.setCells b c us) F' a.tmps/\Gain G w G' (w.setCells b c us):=by
 have k:∀ F,quiet cx F o=none:=by intro F;obtain⟨dst,op,ty,pos,after,guard⟩:=o;change op=_ at g;subst g;rfl
 unfold dop at e;rw[show zi ops F o=some true by unfold zi;rw[m]]at e;simp only[qB9 (k F)]at e;split at e
 .
  rename_i i;split at e
  .
   rename_i z d;simp only[aa,ai]at e;obtain⟨rfl,_⟩:=e;have p:∀ F,mvop cx F o=none:=by
    intro F;unfold mvop;split
    . rfl
    . split
      . rename_i l _;rw[g]at l;cases l
      . rfl
   unfold aop at d;simp only[p]at d;unfold aop0 at d;simp only[k]at d;cases j:loud cx (F.part (qC F o) (readsOf o)) o with
   |none=>simp only[j,g]at d;cases d
   |some A=>
    simp only[j,aa,ai,and_true]at d;subst d;obtain⟨b,c,us,B,q,r,u⟩:=qCv g n (qfo h (qC F o) (readsOf o)) j;have f:∀ V,(a.put o.dst V).tmps=a.tmps:=λV=>by rw[hd];rfl
    obtain⟨G',k1,v⟩:=qdS (cx:=cx) (V:=Go.undef) h i (by rw[f];exact r) u;rw[f]at k1;exact⟨b,c,us,G',q,k1,v⟩
  . cases e
 . cases e
theorem qFT {p:Nat->Prop}(h:∃ i,p i):∃ i,p i/\∀ j,j<i->¬ p j:=by
 obtain⟨i,d⟩:=h
 induction i using Nat.strongRecOn with
 |_ i f=>
  by_cases c:∃ j,j<i/\p j
  . obtain⟨j,a,b⟩:=c;exact f j a b
  . exact⟨i,d,λj a b=>c ⟨j,a,b⟩⟩
def qBw (fs:List Nat):Nat->List Oper->Nat->Nat
 |_,[],S=>S
 |i,o::rest,S=>qBw fs (i+1) rest (if fs.contains i&&o.after.toList.all (λe=>!Region.binds .any e||S.testBit e.on)then S ||| 2 ^ i else S)
theorem qxJ {fs}{all:List Oper}{L Bad:Nat->Prop}(b:∀ (k:Nat) o,all[k]? = some o->∀ e∈o.after,Region.binds .any e=true->e.on<k)(j:∀ z o,z∈fs->all[z]? = some o->(∀ e∈o.after,Region.binds .any e=true->L e.on)->L z\/Bad z):
  ∀ (rest:List Oper) (i S:Nat),(∀ k,rest[k]? = all[i+k]?)->(∀ y,S.testBit y=true->L y\/∃ z,z<=y/\Bad z)->∀ y,(qBw fs i rest S).testBit y=true->L y\/∃ z,z<=y/\Bad z
 |[],_,_,_,h=>h
 |o::rest,i,S,l,h=>by
  have m:all[i]? = some o:=by have:=l 0;simpa using this.symm
  refine qxJ b j rest (i+1) _ (λk=>by have:=l (k+1);rw[show i+(k+1)=i+1+k by omega]at this;simpa using this) λy a=>?_;split at a
  .
   rename_i f;simp only[aC,List.contains_eq_mem,aW,List.all_eq_true,Bool.or_eq_true,Bool.not_eq_true']at f;rw[Nat.testBit_or,Bool.or_eq_true,Nat.testBit_two_pow]at a;rcases a with a|a
   . exact h y a
   .
    have g:i=y:=by simpa using a
    subst g;by_cases n:∀ e∈o.after,Region.binds .any e=true->L e.on
    . rcases j i o f.1 m n with h'|h'
      . exact .inl h'
      . exact .inr ⟨i,Nat.le_refl i,h'⟩
    . obtain⟨e,c⟩:=Classical.not_forall.1 n;obtain⟨p,c⟩:=Classical.not_forall.1 c;obtain⟨d,c⟩:=Classical.not_forall.1 c;have q:=(f.2 e (by simpa using p)).resolve_left (by rw[d];simp);rcases h e.on q with h'|⟨z,t,r⟩
      . exact absurd h' c
      . have:=b i o m e p d;exact .inr ⟨z,by omega,r⟩
  . exact h y a
theorem qyf {o}(h:o.guard=none)(y):Region.wanted o y=true:=by unfold Region.wanted;rw[h]
theorem qBA {cx rec ops G w F F'}{a:Act}{o I}(f:qyY cx.P o.op=true)(g:o.guard=none)(i:I.cl=false)(h:RelF G w F a.tmps)(e:dop cx rec ops F o=some (F',I)):∃ V,(∀ w,(execOp a.eval o).run cx.P w=.ok (.value V) w)/\RelF G w F' (a.put o.dst V).tmps:=by
 unfold dop at e;rw[show zi ops F o=some true by unfold zi;rw[g]]at e;simp only at e;cases b:qD cx F o with
 |some v=>simp only[b,aa,ai]at e;obtain⟨rfl,_⟩:=e;obtain⟨V,j,c⟩:=qaS h (qz2 b);have:=putO (d:=o.dst) h c;rw[qdb c.noOwn]at this;exact⟨V,(qCO f w _ w j).2,this⟩
 |none=>
  simp only[b]at e;split at e
  . split at e
    . simp only[aa,ai]at e;obtain⟨_,rfl⟩:=e;cases i
    . cases e
  . cases e
theorem qBe {G w F}{a:Act}(h:RelF G w F a.tmps){x y d f}(j:(F.ev x).cell=some (.ptr d))(k:(F.ev y).cell=some (.ptr f))(l:d.key≠f.key){g m b2 n}(p:a.eval x=.pointer (some ⟨g,m,none⟩))(r:a.eval y=.pointer (some ⟨b2,n,none⟩)):g≠b2:=by
 have one:∀ {x:Operand} {q:Pl} {b o:Nat},(F.ev x).cell=some (.ptr q)->a.eval x=.pointer (some ⟨b,o,none⟩)->∃ y,G.γ q.key=some y/\y.b=b:=by
  intro x q b o t e;obtain⟨_,u⟩:=qp h t (by simp);obtain⟨_,v,z,i,c⟩:=u ⟨⟨.res,[]⟩,0,0⟩;refine⟨v,z,?_⟩;rw[e]at c;unfold Hd.adr at c;split at c
  . rename_i A;unfold Hd.val at c;rw[A]at c;cases c
  . simp only[Value.pointer.injEq,aa,Addr.mk.injEq]at c;exact c.1.symm
 obtain⟨H,k1,B⟩:=one j p;obtain⟨I,C,E⟩:=one k r;intro i;exact l (h.inv.inj _ _ _ _ k1 C (by rw[B,E,i]))
section
variable {D:Act->Prop} {cx:Cx} {rec:Orac} {ops:Array Oper} {info:Nat->Info} {Fs Ff:Fr} {Is:Info} {G0:Gh} {w0:World} {Q:Exit->Act->World->Prop} {fs:List Nat} {s e:Nat} {os oe:Oper}
def CF (fs:List Nat)(ops:List Oper)(b a:Nat):Prop:=∃ c,c.testBit b=false/\(∀ y,c.testBit y=true->∀ S,Down ops S->S b->S y)/\(qBw fs 0 ops c).testBit a=true
theorem qva (a)(i):i∈Region.ready .any ops a↔a.getD i true=false/\∃ o,ops[i]? = some o/\∀ e∈o.after,Region.binds .any e=true->a.getD e.on false=true:=mem_ready
theorem qA0 (hrec:∀ d,qN cx.P (rec d))(hfn:∀ d,ZA cx.P (rec d))(hn:NoSl Ff)(W:∀ (k:Nat) o,ops[k]? = some o->∀ e∈o.after,Region.binds .any e=true->e.on<k)(hs:ops[s]? = some os)(hsz:ops.size=s+1)(he:e<s)(hoe:ops[e]? = some oe)(hfs:∀ i∈fs,i<s/\∃ o,ops[i]? = some o/\qyY cx.P o.op=true/\o.guard=none/\(info i).cl=false)(hap:∀ i∈fs,∀ oi,ops[i]? = some oi->∀ j X,ops[j]? = some X->j≠i->(∀ e∈X.after,Region.binds .any e=true->e.on≠i)->(∀ e∈oi.after,Region.binds .any e=true->e.on≠j)->oi.apart ops X=true)(hsel:∀ (j:Nat) (o:Oper) cs b,ops[j]? = some o->o.op≠.select cs b)(hchk:∀ a b:Nat,a<b->b<s->(∀ S,Down ops.toList S->S b->S a)\/vY (info a) (info b)=true\/CF fs ops.toList b a)(hchs:∀ a,a<s->a≠e->CF fs ops.toList s a){t1 t2 y1 y2 x1 x2}(hs1:os.op=.store t1 y1 x1)(hs2:os.dst=none)(hs3:os.guard=none)(hs4:qQ cx.P t1≠some 0)(he1:oe.op=.store t2 y2 x2)(he2:oe.dst=none)(he3:oe.guard=none)(he4:qQ cx.P t2≠some 0){q1 q2}(hk1:(Fs.ev y2).cell=some (.ptr q1))(hk2:(Fs.ev y1).cell=some (.ptr q2))(hk:q1.key≠q2.key)(hlast:dop cx rec ops.toList Fs os=some (Ff,Is))(hD:∀ o∈ops,∀ a V,D a->D (a.put o.dst V))(hq:∀ a' w',Stands D G0 w0 Ff a' w'->Q .normal a' w')(hQ:∀ c a w,¬ Q (.panic c) a w):
  ∀ (n:Nat) (f:Array Bool) (c:List Nat) (F:Fr) (a:Act) (w:World) (G:Gh),c.length=n->(∀ i,i∈c↔i<s/\f.getD i true=false)->f.getD s true=false->f.size=ops.size ->
   c.Pairwise (· < ·)->Down ops.toList (λi=>i<ops.size/\f.getD i true=true)->RunL cx rec ops.toList info c F Fs->RelF G w F a.tmps->zS G0 w0 G w->D a ->
   wpAny cx.P .any ops Q (n+1) f a w:=by
 have evF:∀ {F:Fr} (x:Operand),AtEq F Fs->F.ev x=Fs.ev x:=λx h=>by refine qcX λt ht=>?_;have:=qjJ h.1 (λk=>h.2 (.slot k));rw[this]
 have putn:∀ (a:Act) (o:Oper) V,o.dst=none->a.put o.dst V=a:=λa o V h=>by rw[h];rfl
 have O:∀ {f:Array Bool} {x:Nat},f.size=ops.size->x<ops.size->f.getD x false=f.getD x true:=λh1 h2=>by rw[aJ,aJ,Array.getElem?_eq_getElem (by omega)];rfl
 have r:∀ {f:Array Bool} {i x:Nat},i<f.size->(f.setIfInBounds i true).getD x true=if i=x then true else f.getD x true:=λhi=>by
  rename_i i x;by_cases C:i=x
  . subst C;rw[aJ,aV,aD rfl,aD hi,aD rfl];rfl
  . rw[aF C,aJ,aV,aF C,<- aJ]
 -- the end
 have fin:∀ {F:Fr} {a:Act} {w:World} {G:Gh},AtEq F Fs->RelF G w F a.tmps->zS G0 w0 G w->D a->∃ b J us,Sto cx.P a.eval os w b J us/\Q .normal a (w.setCells b J us):=by intro F a w G hat h hg hd;obtain⟨Ff',k1,k2⟩:=qiV hlast hat.symm;obtain⟨b,J,us,G',s1,r1,g1⟩:=qBB hs1 hs2 hs3 hs4 h k1;exact⟨b,J,us,s1,hq a _ ⟨hd,G',hg.trans g1.w,qcz r1 k2 hn⟩⟩
 have wps:∀ {i:Nat} {o:Oper} {a:Act} {w:World} {b J:Nat} {us:List Value} {K:Act->World->Prop},ops[i]? = some o->o.guard=none->o.dst=none->Sto cx.P a.eval o w b J us->K a (w.setCells b J us)->wpOp cx.P ops Q i K a w:=by intro i o a w b J us K v hg hd hst hK;unfold wpOp;simp only[v,qyf hg,if_true];left;unfold Oper.wp;rw[hst.run];show K (a.put o.dst Go.undef) _;rw[putn _ _ _ hd];exact hK
 have rnil:∀ {f:Array Bool},(∀ i,i<ops.size->f.getD i true=true)->Region.ready .any ops f=[]:=by intro f hl;rw[List.eq_nil_iff_forall_not_mem];intro i hi;obtain⟨h1,o,v,_⟩:=(qva f i).1 hi;have:=hl i (Array.getElem?_eq_some_iff.1 v).1;rw[this]at h1;cases h1
 intro n
 induction n with
 |zero=>
  intro f c F a w G hl hm hsl u hp hdn hr h hg hd;have hc:c=[]:=List.length_eq_zero_iff.1 hl;subst hc;obtain⟨b,J,us,s1,q⟩:=fin hr h hg hd;have E:∀ i,i<s->f.getD i true=true:=λi hi=>by have:=hm i;simp only[List.not_mem_nil,false_iff,not_and,Bool.not_eq_false]at this;exact this hi
  refine⟨λP=>?_,λi hi=>?_⟩
  . exfalso;have:s∈Region.ready .any ops f:=(qva _ _).2 ⟨hsl,os,hs,λA g N=>by have:=W s os hs A g N;rw[O u (by omega)];exact E _ this⟩;rw[P]at this;simp at this
  .
   obtain⟨h1,o,v,_⟩:=(qva _ _).1 hi;have M:=(Array.getElem?_eq_some_iff.1 v).1;have B:i=s:=by
    by_cases C:i<s
    . rw[E i C]at h1;cases h1
    . omega
   subst B;refine wps hs hs3 hs2 s1 ⟨rnil λi hi=>?_,q⟩;rw[r (by omega)];split
   . rfl
   . exact E i (by omega)
 |succ n ih=>
  intro f c F a w G hl hm hsl u hp hdn hr h hg hd;have cs:∀ {x:Nat},x∈c->x<s:=λC=>((hm _).1 C).1
  -- all that is ahead of what may come up,and has not come up,is a first one that may come up
  have ahead:∀ {b y:Nat},b∈Region.ready .any ops f->CF fs ops.toList b y->y<s->f.getD y true=false->∃ z,z<=y/\z∈fs/\z∈Region.ready .any ops f:=by
   intro b y N hcf hys H;obtain⟨S0,k0,k1,k2⟩:=hcf;obtain⟨hb1,ob,hob,hb2⟩:=(qva _ _).1 N;have hob':ops.toList[b]? = some ob:=by rw[aP];exact hob
   have:=qxJ (L:=λi=>i<ops.size/\f.getD i true=true) (Bad:=λz=>z∈fs/\z∈Region.ready .any ops f) (all:=ops.toList) (fs:=fs)
    (λk o v=>W k o (by rw[<- aP];exact v)) (λz o hz v hL=>by
     have M:z<ops.size:=by have:=(az.1 v).1;simpa using this
     cases C:f.getD z true with
     |true=>exact .inl ⟨M,rfl⟩
     |false=>exact .inr ⟨hz,(qva _ _).2 ⟨C,o,by rw[<- aP];exact v,λA g hbd=>by obtain⟨l1,l2⟩:=hL A g hbd;rw[O u l1];exact l2⟩⟩) ops.toList 0 S0 (λk=>by rw[Nat.zero_add]) (λy H=>by
     have:=k1 y H (λk=>k=b\/(k<ops.size/\f.getD k true=true)) (λj X hj R A g hbd=>by
      rcases R with rfl|R
      . rw[hob']at hj;cases hj;have M:=W _ ob hob A g hbd;have hlb:=(Array.getElem?_eq_some_iff.1 hob).1;exact .inr ⟨by omega,by rw[<- O u (by omega)];exact hb2 A g hbd⟩
      . exact .inr (hdn j X hj R A g hbd)) (.inl rfl)
     rcases this with rfl|h'
     . rw[k0]at H;cases H
     . exact .inl h') y k2
   rcases this with⟨_,h'⟩|⟨z,h1,h2,h3⟩
   . rw[h']at H;cases H
   . exact⟨z,h1,h2,h3⟩
  have gl:∀ {x:Nat},x<ops.size->f.getD x false=f.getD x true:=λC=>O u C
  -- what is left when one has come up
  have step:∀ {i:Nat} {oi:Oper} {pre p:List Nat},c=pre++i::p->ops[i]? = some oi->i∈Region.ready .any ops f->i<s ->
    (pre++p).length=n/\(∀ x,x∈pre++p↔x<s/\(f.setIfInBounds i true).getD x true=false)/\(f.setIfInBounds i true).getD s true=false/\(f.setIfInBounds i true).size=ops.size /\
    (pre++p).Pairwise (· < ·)/\Down ops.toList (λk=>k<ops.size/\(f.setIfInBounds i true).getD k true=true):=by
   intro i oi pre p I hoi hri B;subst I;have M:∀ y∈pre,y<i:=λy H=>(List.pairwise_append.1 hp).2.2 y H i au;have Y:i<f.size:=by omega
   refine⟨by simp at hl |-;omega,λx=>?_,?_,by simp[u],?_,?_⟩
   .
    have C:=hm x;simp only[List.mem_append,List.mem_cons]at C |-;rw[r Y];by_cases hxi:i=x
    . subst hxi;rw[aD rfl];simp only[Bool.true_eq_false,and_false,iff_false,not_or];refine⟨λH=>?_,λH=>?_⟩
      . have:=M i H;omega
      . have:=(List.pairwise_cons.1 (List.pairwise_append.1 hp).2.1).1 i H;omega
    .
     rw[aF hxi,<- C];constructor
     . rintro (h'|h')
       . exact .inl h'
       . exact .inr (.inr h')
     . rintro (h'|h'|h')
       . exact .inl h'
       . exact absurd h'.symm hxi
       . exact .inr h'
   . rw[r Y,aF (by omega)];exact hsl
   . rw[List.pairwise_append]at hp |-;refine⟨hp.1,(List.pairwise_cons.1 hp.2.1).2,λx C y H=>hp.2.2 x C y (aB _ H)⟩
   .
    intro j X hj R A g N;have hj':ops[j]? = some X:=by rw[<- aP];exact hj
    have hlt':=W j X hj' A g N;have hjs:=R.1;refine⟨by omega,?_⟩;rw[r Y];split
    . rfl
    . have hS2:=R.2;rw[r Y]at hS2;by_cases hji:i=j
      . subst hji;rw[hoi]at hj';cases hj';obtain⟨_,o2,ho2,h2⟩:=(qva _ _).1 hri;rw[hoi]at ho2;cases ho2;rw[<- gl (by omega)];exact h2 A g N
      . rw[aF hji]at hS2;exact(hdn j X hj ⟨R.1,hS2⟩ A g N).2
  -- those ahead lie apart
  have dis:∀ {i:Nat} {pre p:List Nat},c=pre++i::p->i∈Region.ready .any ops f->i<s->(∀ z,z<i->z∈fs->z∉Region.ready .any ops f)->∀ y∈pre,vY (info y) (info i)=true:=by
   intro i pre p I hri B hno y H;subst I;have M:∀ y∈pre,y<i:=λy H=>(List.pairwise_append.1 hp).2.2 y H i au;have U:=(hm y).1 (aL _ H);obtain⟨h2,o,v,h3⟩:=(qva _ _).1 hri;rcases hchk y i (M y H) B with R|R|R
   .
    exfalso;have:=R (λk=>k=i\/(k<ops.size/\f.getD k true=true)) (λj X hj R A g N=>by
     rcases R with rfl|R
     . have hoj:X=o:=by
        have:ops.toList[j]? = some o:=by rw[aP];exact v
        rw[this]at hj;exact(aQ hj).symm
       subst hoj;have C:=h3 A g N;have hxl:A.on<ops.size:=by have:=W j X v A g N;omega
       exact .inr ⟨hxl,by rw[<- gl hxl];exact C⟩
     . exact .inr (hdn j X hj R A g N)) (.inl rfl)
    rcases this with h'|h'
    . have:=M y H;omega
    . rw[h'.2]at U;simp at U
   . exact R
   . exfalso;obtain⟨z,z1,z2,z3⟩:=ahead hri R U.1 U.2;have:=M y H;exact hno z (by omega) z2 z3
  by_cases hex:∃ i,i∈fs/\i∈Region.ready .any ops f
  .
   obtain⟨i,⟨hif,hir⟩,hmin⟩:=qFT hex;obtain⟨B,o,v,N,hg0,hcl⟩:=hfs i hif;have h2:=((qva _ _).1 hir).1;have hic:i∈c:=(hm i).2 ⟨B,h2⟩;obtain⟨pre,p,I⟩:=List.append_of_mem hic;obtain⟨o',F1,k1,k2,k3⟩:=RunL.front (I▸hr) (dis I hir B λz hz hzf hzr=>hmin z hz ⟨hzf,hzr⟩);have ho':o'=o:=by rw[aP,v]at k1;exact(aQ k1).symm
   subst ho';obtain⟨V,hV,hrel⟩:=qBA N hg0 hcl h k2;obtain⟨s1,s2,s3,s4,s5,s6⟩:=step I v hir B;exact wpAny_first v hsel (λc a w hq'=>absurd hq' (hQ c _ w)) (n+1) f a w (λj X hj hne hun hw=>hap i hif o' v j X hj hne hw λA g N heq=>by
    obtain⟨_,o2,ho2,h2'⟩:=(qva _ _).1 hir;rw[v]at ho2;cases ho2;have:=h2' A g N;rw[heq,gl (Array.getElem?_eq_some_iff.1 hj).1,hun]at this;cases this) hir (.inl ⟨qyf hg0 _,hV⟩)
    (ih _ (pre++p) F1 _ w G s1 s2 s3 s4 s5 s6 k3 hrel hg (hD _ (Array.mem_of_getElem? v) _ _ hd))
  .
   have hno:∀ z,z∈fs->z∉Region.ready .any ops f:=λz h1 h2=>hex ⟨z,h1,h2⟩;refine⟨λP=>?_,λi hi=>?_⟩
   .
    exfalso;cases c with
    |nil=>simp at hl
    |cons m c=>
     have hmm:=(hm m).1 au;have hml:m<ops.size:=by omega
     have:m∈Region.ready .any ops f:=(qva _ _).2 ⟨hmm.2,_,Array.getElem?_eq_getElem hml,λA g N=>by
      have M:=W m _ (Array.getElem?_eq_getElem hml) A g N;have hnot:A.on∉m::c:=by
       intro hmem;rcases List.mem_cons.1 hmem with h'|h'
       . omega
       . have:=(List.pairwise_cons.1 hp).1 _ h';omega
      have C:=mt (hm A.on).2 hnot;simp only[not_and,Bool.not_eq_false]at C;rw[gl (by omega)];exact C (by omega)⟩
     rw[P]at this;simp at this
   .
    obtain⟨h2,o,v,h3⟩:=(qva _ _).1 hi;have hlto:=(Array.getElem?_eq_some_iff.1 v).1;by_cases B:i<s
    . have hic:i∈c:=(hm i).2 ⟨B,h2⟩;obtain⟨pre,p,I⟩:=List.append_of_mem hic;obtain⟨o',F1,k1,k2,k3⟩:=RunL.front (I▸hr) (dis I hi B λz _ hzf=>hno z hzf);have ho':o'=o:=by rw[aP,v]at k1;exact(aQ k1).symm
      subst ho';obtain⟨s1,s2,s3,s4,s5,s6⟩:=step I v hi B;unfold wpOp;simp only[v];have key:=vF (Q:=Q) hrec hfn h k2 (K:=wpAny cx.P .any ops Q (n+1) (f.setIfInBounds i true)) (λV G' w' r' g'=>ih _ (pre++p) F1 _ w' G' s1 s2 s3 s4 s5 s6 k3 r' (hg.trans g'.w) (hD _ (Array.mem_of_getElem? v) _ _ hd));split
      . rename_i hw;rw[aD hw]at key;exact .inl key
      . rename_i hw;rw[aF hw]at key;exact key
    .
     -- the last one,ahead of the other store
     obtain rfl:i=s:=by omega
     have hce:∀ y∈c,y=e:=λy H=>by
      have U:=(hm y).1 H;by_cases hye:y=e
      . exact hye
      . obtain⟨z,_,z2,z3⟩:=ahead hi (hchs y U.1 hye) U.1 U.2;exact absurd z3 (hno z z2)
     have hc:c=[e]:=by
      match c,hl,hp with
      |[x],_,_=>rw[hce x au]
      |x::y::l,_,hp=>have h1:=hce x au;have h2:=hce y (by simp);have:=(List.pairwise_cons.1 hp).1 y (by simp);omega
     subst hc;have hn0:n=0:=by simpa using hl.symm
     subst hn0;obtain⟨o',F1,k1,k2,k3⟩:=hr;have ho':o'=oe:=by rw[aP,hoe]at k1;exact(aQ k1).symm
     subst ho';have hat:AtEq F1 Fs:=k3;obtain⟨be,ofe,ue,G1,se,r1,g1⟩:=qBB he1 he2 he3 he4 h k2;obtain⟨b,J,us,ss,q⟩:=fin hat r1 (hg.trans g1.w) hd;have hbb:be≠b:=by obtain⟨t,y,x,vs,T,j1,j2,_⟩:=se;rw[he1]at j1;cases j1;obtain⟨t',y',x',vs',T',l1,l2,_⟩:=ss;rw[hs1]at l1;cases l1;exact qBe r1 (by rw[evF _ hat];exact hk1) (by rw[evF _ hat];exact hk2) hk j2 l2
     have E:∀ x,x<i->x≠e->f.getD x true=true:=λx C hne=>by have:=mt (hm x).2 (by simpa using hne);simp only[not_and,Bool.not_eq_false]at this;exact this C
     have hile:f.getD e true=false:=((hm e).1 au).2;have Z:i<f.size:=by omega
     have hesz:e<(f.setIfInBounds i true).size:=by simp;omega
     refine wps hs hs3 hs2 ((Sto.other hbb).1 ss) ?_;have her:e∈Region.ready .any ops (f.setIfInBounds i true):=(qva _ _).2 ⟨by rw[r Z,aF (by omega)];exact hile,o',hoe,λA g N=>by
      have:=W e o' hoe A g N;have h9:(f.setIfInBounds i true).getD A.on true=true:=by
       rw[r Z];split
       . rfl
       . exact E _ (by omega) (by omega)
      rw[O (by simp[u]) (by omega)];exact h9⟩
     refine⟨λP=>?_,λk hk'=>?_⟩
     . rw[P]at her;simp at her
     .
      obtain⟨m1,ok,hok,_⟩:=(qva _ _).1 hk';have hkl:=(Array.getElem?_eq_some_iff.1 hok).1;have hke:k=e:=by
       rw[r Z]at m1;split at m1
       . cases m1
       . by_cases hke:k=e
         . exact hke
         . rw[E k (by omega) hke]at m1;cases m1
      subst hke;refine wps hoe he3 he2 ((Sto.other (Ne.symm hbb)).2 se) ⟨rnil λx C=>?_,?_⟩
      . rw[r hesz];split
        . rfl
        . rw[r Z];split
          . rfl
          . exact E x (by omega) (by omega)
      . rw[qw4 (Ne.symm hbb)];exact q
end
def bef1 (a:List Nat)(b:Nat):Nat:=(a[b]?).getD 0
def qzP (P:Program)(ops:List Oper)(s:Nat)(is:List Info)(i:Nat):Bool:=decide (i<s)&&match ops[i]? with
 |some o=>qyY P o.op&&o.guard.isNone && !((is[i]?).getD ⟨[],[],[],true,0,0⟩).cl&&(List.range ops.length).all λj=>j==i||match ops[j]? with
  |some a=>a.after.toList.any (λe=>Region.binds .any e&&e.on==i)||o.after.toList.any (λe=>Region.binds .any e&&e.on==j)||o.apart ops.toArray a
  |none=>true
 |none=>false
def rowOk (c:List Nat)(cl b:Nat)(is:List Info)(d:Info):Bool:=(List.range b).all λa=>(bef1 c b).testBit a||vY ((is[a]?).getD ⟨[],[],[],true,0,0⟩) d||cl.testBit a
def qE3 (ops:List Oper)(a fs:List Nat)(s:Nat)(is:List Info):Bool:=(List.range s).all λb=>!(bef1 a b).testBit b&&rowOk a (qBw fs 0 ops (bef1 a b)) b is ((is[b]?).getD ⟨[],[],[],true,0,0⟩)
def qES (ops:List Oper)(b fs:List Nat)(s e:Nat):Bool:=!(bef1 b s).testBit s&&(List.range s).all λa=>a==e||(qBw fs 0 ops (bef1 b s)).testBit a
def qEX (ops:List Oper):Bool:=ops.all λo=>match o.op with|.select ..=>false|_=>true
def qAn (P:Program)(o:Oper)(t:TypeId):Bool:=o.dst.isNone&&o.guard.isNone&&qQ P t != some 0
def qDb (P:Program)(ops:List Oper)(fs:List Nat)(s e:Nat)(is:List Info):Bool:=vw 0 ops&&decide (e<s)&&decide (ops.length=s+1)&&qEX ops&&fs.all (qzP P ops s is)&&(let a:=befL ops [];qE3 ops a fs s is&&qES ops a fs s e)
theorem qy8 {cx rec ops info}:∀ {rest:List Oper} {i:Nat} {F F':Fr} {is:List Info},(∀ k,k<rest.length->rest[k]? = ops[i+k]?)->drun cx rec ops rest F=some (F',is)->(∀ (k:Nat) x,is[k]? = some x->info (i+k)=x) ->
  RunL cx rec ops info (List.range' i rest.length) F F'/\is.length=rest.length
 |[],i,F,F',is,_,e,_=>by simp only[drun,aa,ai]at e;obtain⟨rfl,rfl⟩:=e;exact⟨AtEq.refl _,rfl⟩
 |o::rest,i,F,F',is,f,e,a=>by
  simp only[drun]at e;cases b:dop cx rec ops F o with
  |none=>simp[b]at e
  |some y=>
   obtain⟨g,I⟩:=y;simp only[b]at e;cases c:drun cx rec ops rest g with
   |none=>simp[c]at e
   |some z=>
    obtain⟨m,h⟩:=z;simp only[c,aa,ai]at e;obtain⟨rfl,rfl⟩:=e;have d:∀ k,k<rest.length->rest[k]? = ops[i+1+k]?:=λk n=>by have:=f (k+1) (by simp;omega);rw[show i+(k+1)=i+1+k by omega]at this;simpa using this
    obtain⟨j,r2⟩:=qy8 d c (λk x l=>by rw[show i+1+k=i+(k+1)by omega];exact a (k+1) x (by simpa using l));refine⟨⟨o,g,by have:=f 0 (by simp);simpa using this.symm,?_,j⟩,by simp[r2]⟩;have:info i=I:=by have:=a 0 I rfl;simpa using this
    rw[this];exact b
end
section
variable [Glob]
def qkk {α:Type}(p:Pl)(k:Pl->α):α:=match p with|⟨⟨r,π⟩,a,b⟩=>k ⟨⟨r,π⟩,a,b⟩
def qfw {α:Type}(c:Cell)(k:Cell->α):α:=match c with
 |.val v=>k (.val v)|.nil=>k .nil|.imm r=>k (.imm r)|.own z r=>k (.own z r)|.mp e=>k (.mp e)|.mpb e=>k (.mpb e)
 |.ptr p=>qkk p λp=>k (.ptr p)|.cptr r o=>k (.cptr r o)|.ref p=>qkk p λp=>k (.ref p)|.clo f a b=>k (.clo f a b)|.dead=>k .dead
def qdI {α:Type}:List Cell->(List Cell->α)->α
 |[],k=>k []
 |c::l,k=>qfw c λc=>qdI l λl=>k (c::l)
def qcM {α:Type}:List (List Cell)->(List (List Cell)->α)->α
 |[],k=>k []
 |r::l,k=>qdI r λr=>qcM l λl=>k (r::l)
def qjP {α:Type}(t:Tag)(k:Tag->α):α:=match t with|.one=>k .one|.agg=>k .agg|.tup l=>k (.tup l)
def qff {α:Type}(v:AV)(k:AV->α):α:=match v with|⟨t,rows⟩=>qjP t λt=>qcM rows λrows=>k ⟨t,rows⟩
def qcB {α:Type}:List AV->(List AV->α)->α
 |[],k=>k []
 |v::l,k=>qff v λv=>qcB l λl=>k (v::l)
def QA {α:Type}:List (Root×List Cell)->(List (Root×List Cell)->α)->α
 |[],k=>k []
 |(r,b)::l,k=>qdI b λb=>QA l λl=>k ((r,b)::l)
def qdU {α:Type}(F:Fr)(k:Fr->α):α:=match F with|⟨s,b⟩=>qcB s λs=>QA b λb=>k ⟨s,b⟩
theorem qdx {α}(c)(k:Cell->α):qfw c k=k c:=by cases c<;>rfl
theorem qbd {α}:∀ (l:List Cell) (k:List Cell->α),qdI l k=k l
 |[],_=>rfl
 |c::l,k=>by simp only[qdI,qdx,qbd l]
theorem qbP {α}:∀ (l:List (List Cell)) (k:List (List Cell)->α),qcM l k=k l
 |[],_=>rfl
 |c::l,k=>by simp only[qcM,qbd,qbP l]
theorem qd7 {α}(v)(k:AV->α):qff v k=k v:=by obtain⟨t,rows⟩:=v;simp only[qff,qbP];cases t<;>rfl
theorem qb6 {α}:∀ (l:List AV) (k:List AV->α),qcB l k=k l
 |[],_=>rfl
 |c::l,k=>by simp only[qcB,qd7,qb6 l]
theorem Yv {α}:∀ (l:List (Root×List Cell)) (k:List (Root×List Cell)->α),QA l k=k l
 |[],_=>rfl
 |(r,b)::l,k=>by simp only[QA,qbd,Yv l]
theorem qa1 {α}(F)(k:Fr->α):qdU F k=k F:=by obtain⟨s,b⟩:=F;simp only[qdU,qb6,Yv]
def XE {α β:Type}(f:α->(α->β)->β)(l:List α):(List α->β)->β:=List.rec (motive:=λ_=>(List α->β)->β) (λk=>k []) (λx _ a k=>f x λx=>a λl=>k (x::l)) l
theorem vU {α β f}(a:∀ x k,f x k=k x):∀ (l:List α) (k:List α->β),XE f l k=k l
 |[],k=>rfl
 |x::l,k=>by show(f x λx=>XE f l λl=>k (x::l))=_;rw[a,vU a l]
theorem set_same {α:Type}:∀ {l:List α} {d:Nat} {v:α},l[d]? = some v->l.set d v=l
 |[],_,_,h=>by simp at h
 |x::l,0,v,h=>by simp at h;simp[h]
 |x::l,d+1,v,h=>by simp at h;simp[set_same h]
def natK {α:Type}(m:Nat)(k:Nat->α):α:=match m with|0=>k 0|m+1=>k (m+1)
theorem qlf {α}(m)(k:Nat->α):natK m k=k m:=by cases m<;>rfl
def qgQ {α:Type}(i:Info)(k:Info->α):α:=match i with|⟨w,r,s,c,a,b⟩=>natK a λa=>natK b λb=>k ⟨w,r,s,c,a,b⟩
theorem qhK {α}(i)(k:Info->α):qgQ i k=k i:=by simp only[qgQ,qlf]
def spF {α:Type}(d:Option Nat)(F:Fr)(k:Fr->α):α:=match F with
 |⟨s,b⟩=>QA b λb=>match d with
  |none=>XE (λx k=>k x) s λs=>k ⟨s,b⟩
  |some d=>match s[d]? with
   |some v=>qff v λv=>XE (λx k=>k x) (s.set d v) λs=>k ⟨s,b⟩
   |none=>XE (λx k=>k x) s λs=>k ⟨s,b⟩
theorem qiv {α}(d F)(k:Fr->α):spF d F k=k F:=by
 obtain⟨s,b⟩:=F;simp only[spF,Yv];cases d with
 |none=>exact vU (λ_ _=>rfl) s _
 |some d=>
  simp only;cases h:s[d]? with
  |none=>exact vU (λ_ _=>rfl) s _
  |some v=>simp only[qd7];rw[vU (λ_ _=>rfl),set_same h]
inductive Adv where
 |test (r:Bool)
 |row (row:List Cell)
 |bnd
 |ld (row:List Cell)
 |st
 |ok
 |okE (e:Bool)
 |okO (rows:List (List Cell)) (e:Bool)
 |call (res:ARes) (bx:List (List Cell)) (thaw:Bool)
 |sidx (c:Int)
 |aix (v:Value)
 |scat
 |ssl
 |qr
 |thru (hs:List (Nat×List (List Cell))) (a:Adv)
 |fst (fs:List Nat) (e:Nat)
abbrev Advs:=List (Option Nat×Adv)
def tquiet (cx:Cx)(F:Fr)(o:Oper):Adv->Option (AV×List Prop)
 |.test r=>match xquiet cx F o with
  |some ⟨.one,[[.val (.bool b)]]⟩=>some (.bool r,[b=r])
  |_=>none
 |.row row=>match o.op with
  |.indexAddr t x i=>match cx.P.underlying t,(F.ev x).cell,asInt (F.ev i)with
   |some (.slice d),some (.imm rows),some n=>match qQ cx.P d with
    |some sz=>some (.c (.cptr row 0),[0<=n/\rows[n.toNat]? = some row/\row.length=sz])
    |none=>none
   |_,_,_=>none
  |_=>none
 |.bnd=>match o.op with
  |.indexAddr t x i=>match cx.P.underlying t,(F.ev x).cell,asInt (F.ev i)with
   |some (.slice d),some (.ref p),some n=>match F.get p,qQ cx.P d with
    |some (.own j rows),some sz=>if j=sz then some (.c (.ptr ⟨p.toKey,n.toNat,0⟩),[0<=n/\n<rows.length])else none
    |_,_=>none
   |_,_,_=>none
  |_=>none
 |.ld row=>match o.op with
  |.load t a=>match (F.ev a).cell,qQ cx.P t,zW cx.P t with
   | some (.ptr p),some n,some g=>if p.key.heap&&decide (p.o+n<=row.length)then match F.rowsAt p.key,mkAV g (xA p.key p.r p.o ((row.drop p.o).take n))with
     |some rows,some v=>some (v,[rows[p.r]? = some row])
     |_,_=>none
    else none
   |_,_,_=>none
  |_=>none
 |.sidx c=>match o.op with
  |.index t x i=>match cx.P.underlying t,(F.ev x).con,asInt (F.ev i)with
   |some .string,some (.string s),some n=>some (.c (.val (.int .u8 c)),[0<=n/\Xp s n.toNat=some c])
   |_,_,_=>none
  |_=>none
 |.aix v=>match o.op with
  |.index t x i=>match cx.P.underlying t,(F.ev x).con,asInt (F.ev i)with
   |some (.array len h),some (.agg cs),some n=>if qQ cx.P h=some 1/\zW cx.P h=some false then some (yR v,[0<=n/\n<(len:Int)/\cs.toList[n.toNat]? = some v])else none
   |_,_,_=>none
  |_=>none
 |.qr=>match o.op with
  |.binOp .quo _ x y _=>match (F.ev x).con,(F.ev y).con with
   |some (.int k a),some (.int f b)=>if k=f then some (.c (.val (.int k (k.wrap (a.tdiv b)))),[b≠0])else none
   |_,_=>none
  |.binOp .rem _ x y _=>match (F.ev x).con,(F.ev y).con with
   |some (.int k a),some (.int f b)=>if k=f then some (.c (.val (.int k (a.tmod b))),[b≠0])else none
   |_,_=>none
  |.binOp .shl _ x y _=>match (F.ev x).con,(F.ev y).con with
   |some (.int k a),some (.int _ b)=>some (.c (.val (.int k (k.wrap (a*2 ^ (min b.toNat k.bits))))),[0<=b])
   |_,_=>none
  |.binOp .shr _ x y _=>match (F.ev x).con,(F.ev y).con with
   |some (.int k a),some (.int _ b)=>some (.c (.val (.int k (a.fdiv (2 ^ (min b.toNat k.bits))))),[0<=b])
   |_,_=>none
  |_=>none
 |.scat=>match o.op with
  |.binOp .add _ x y _=>match (F.ev x).con,(F.ev y).con with
   |some (.string s),some (.string r)=>some (.c (.val (.string (s++r))),[s.size+r.size<=1000000000])
   |_,_=>none
  |_=>none
 |_=>none
def tset (F:Fr)(p:Pl)(c:Cell):Option (Fr×Prop):=match F.rows p.key.root,F.rowsAt p.key with
 |some rows,some b=>match updR (λ_=>some (setRow b p.r p.o c)) rows p.key.path with
  |some a=>some (F.setRows p.key.root a,∃ d,cellAt b p.r p.o=some d)
  |none=>none
 |_,_=>none
def qf5 (F:Fr)(p:Pl):Nat->List Cell->Option (Fr×List Prop)
 |_,[]=>some (F,[])
 |j,c::l=>match tset (if qy c then F.kill { p with o:=p.o+j }else F) { p with o:=p.o+j } c with
  |some (F',q)=>match qf5 F' p (j+1) l with
   |some (a,b)=>some (a,q::b)
   |none=>none
  |none=>none
def qcb (i:TypeInfo)(a:Bool)(rows more:List (List Cell))(p:Option Pl)(b:Cell):Bool:=(rows.length+more.length)*i.bytes<=140737488355328&&rows.length+more.length<=lim&&0<i.size&&a&&more.head?.all (·.length==i.size)&&qg3 p b
def tappend (cx:Cx)(F:Fr)(d:Nat)(a:TypeId)(i:TypeInfo)(rows:List (List Cell))(p:Option Pl)(b:Cell)(e:Bool):Option (Fr×List Prop):=match takeC cx F b with
 |some (c,f)=>match QM c with
  |some more=>some (f.putS (some d) (.c (if p.isNone&&e then .nil else .own i.size (rows++more))),[qcb i (XP cx.P a).isSome rows more p b=true/\(p.isNone=true->more.isEmpty=e)])
  |none=>none
 |none=>none
def Fr.dropS (F:Fr)(k:Nat):Fr:={ F with slots:=F.slots.set k .deadv }
def tloud (cx:Cx)(F:Fr)(o:Oper):Adv->Option (Fr×List Prop)
 |.st=>match o.op with
  |.store t a x=>match o.dst,(F.ev a).cell,qQ cx.P t,Qb cx F (F.ev x)with
   |none,some (.ptr p),some n,some (v,F')=>match v.cells with
    |some l=>if l.length=n&&(p.key.heap && !p.isM)&&(p.key.path.isEmpty||l.all qw)then qf5 F' p 0 l else none
    |none=>none
   |_,_,_,_=>none
  |_=>none
 |.okE e=>match o.op with
  |.call { callee:=.builtin .append,args,argTypes }=>match args.toList,argTypes.toList,o.dst with
   |[s,x],[t,t1],some d=>match cx.P.underlying t,srcU (cx.P.underlying t1),(F.ev s).cell,(F.ev x).cell with
    |some (.slice b),some (.slice _),some .nil,some f=>match cx.P.info? b with
     |some i=>tappend cx F d b i [] none f e
     |none=>none
    |some (.slice b),some (.slice _),some (.ref p),some f=>match F.get p,cx.P.info? b,F.set p .dead with
     |some (.own q rows),some i,some g=>if q=i.size then tappend cx (g.kill p) d b i rows (some p) f e else none
     |_,_,_=>none
    |_,_,_,_=>none
   |_,_,_=>none
  |_=>none
 |.okO c e=>match o.op with
  |.call { callee:=.builtin .append,args,argTypes }=>match args.toList,argTypes.toList,o.dst with
   |[.tmp k,x],[t,t1],some d=>match cx.P.underlying t,srcU (cx.P.underlying t1),(F.ev (.tmp k)).cell,(F.ev x).cell with
    |some (.slice b),some (.slice _),some (.ref p),some f=>match F.rowsAt p.key,cx.P.info? b,tset F p .dead with
     |some r,some i,some (g,_)=>match tappend cx ((g.dropS k).kill p) d b i c (some p) f e with
      |some (u,w)=>some (u,(cellAt r p.r p.o=some (.own i.size c))::(g.slots[k]? = some (.c (.ref p)))::w)
      |none=>none
     |_,_,_=>none
    |_,_,_,_=>none
   |_,_,_=>none
  |_=>none
 |.ok=>match o.op with
  |.slice t x j m none=>match cx.P.underlying t with
   |some (.slice b)=>match frzC F (((F.ev x).cell).getD .dead),qQ cx.P b with
    |some (rows,F'),some sz=>
     match (match j with|some y=>asInt (F.ev y)|none=>some 0),(match m with|some y=>asInt (F.ev y)|none=>some (rows.length:Int))with
     |some l,some h=>some (F'.putS o.dst (.c (.imm ((rows.take h.toNat).drop l.toNat))),[0<=l/\l<=h/\h<=rows.length/\(rows.head?.all (·.length==sz))=true])
     |_,_=>none
    |_,_=>none
   |_=>none
  |_=>none
 |.ssl=>match o.op with
  |.slice t x j m none=>match cx.P.underlying t,(F.ev x).con,(match j with|some y=>asInt (F.ev y)|none=>some 0)with
   |some .string,some (.string s),some l=>match (match m with|some y=>asInt (F.ev y)|none=>some (s.size:Int))with
    |some h=>some (F.putS o.dst (.c (.val (.string (s.extract l.toNat h.toNat)))),[0<=l/\l<=h/\h<=(s.size:Int)])
    |none=>none
   |_,_,_=>none
  |_=>none
 |_=>none
def Ev (P:Program)(hand:Nat->Nat->Bool)(f:Nat)(args:List AV)(b:List (List Cell))(res:ARes)(bx':List (List Cell)):Prop:=
 (∃ a,P.funcs[f]? = some a/\a.body.isSome=true/\(a.name == "runtime.NumGoroutine")=false) /\
  ∀ G w (Vs:Array Value),RelF G w ⟨args,qd 0 b⟩ Vs->Calls P f Vs w (Went G w res bx')
def qhn (v:AV):Bool:=v.rows.all λ(l:List Cell)=>l.all Xg
def Xw (E:Nat->List AV->List (List Cell)->ARes->List (List Cell)->Prop)(cx:Cx)(F:Fr)(dst:Option Nat)(f:Nat)(vs:List AV)(res:ARes)(bx':List (List Cell))(thaw:Bool):Option (Fr×List Prop×Option Value):=
 match yT cx f F 0 vs with
 |some (d,c)=>match vg cx f c 0 d with
  |some (args,a)=>
   let roots:=yl c 3 (zm [] (args.flatMap λv=>v.rows.flatMap λl=>l.flatMap Xz))
   match mapO (renV (idxOf roots)) args,mapO (qbl c (idxOf roots)) roots with
   | some b,some g=>match mapO (mapO (renC (yP roots))) bx' with
     |some bx''=>
      if a.all (λp=>!roots.contains p.key.root)&&bx'.length==roots.length&&bx''.map List.length==g.map List.length&&nodupB roots then
       match zG c a with
       |some Ff=>match res with
        |.panic v=>some (qu2 (yj Ff roots) roots bx'',[E f b g res bx'],some v)
        |.ret v=>match renV (yP roots) v with
         | some v'=>some ((qu2 (yj (if thaw then c else Ff) roots) roots bx'').putK dst v',
           E f b g res bx'::(if a.isEmpty then []else if roots.isEmpty then [qhn v'=thaw]else [false=thaw]),none)
         |none=>none
       |none=>none
      else none
     |none=>none
   |_,_=>none
  |none=>none
 |none=>none
def noMv (cx:Cx)(o:Oper):Bool:=match cx.mv with
 |[]=>true
 |ms=>match o.op,o.dst with
  |.load _ _,some d=>!ms.contains d
  |_,_=>true
def qhw (cx:Cx)(F:Fr)(dst:Option Nat)(f:Nat)(vs:List AV)(res:ARes)(bx':List (List Cell))(thaw:Bool):Option (Fr×List Prop×Option Value):=Xw (Ev cx.P cx.hand) cx F dst f vs res bx' thaw
def qey:Oracle:=λ_ _ _=>none
abbrev Hints:=List (Nat×List (List Cell))
def qxP:Hints->List (List Cell)->List (Nat×Nat)->Option (List (List Cell)×List Prop)
 |_,rows,[]=>some (rows,[])
 |(b,a)::c,rows,(r,o)::π=>match qxP c a π with
  |some (x,d)=>some (x,(cellAt rows r o=some (.own b a))::d)
  |none=>none
 |[],_,_::_=>none
def qBk (f:List (List Cell)->List (List Cell)):Hints->List (List Cell)->List (Nat×Nat)->Option (List (List Cell))
 |_,rows,[]=>some (f rows)
 |(b,c)::d,rows,(r,o)::π=>match qBk f d c π with
  |some a=>some (setRow rows r o (.own b a))
  |none=>none
 |[],_,_::_=>none
def Fr.rowsT (F:Fr)(a:Hints)(k:Key):Option (List (List Cell)×List Prop):=(F.rows k.root).bind (qxP a · k.path)
def qCy (F:Fr)(d:Hints)(p:Pl)(c:Cell):Option (Fr×List Prop):=match F.rows p.key.root with
 |some rows=>match qxP d rows p.key.path,qBk (λb=>setRow b p.r p.o c) d rows p.key.path with
  |some (b,f),some a=>some (F.setRows p.key.root a,(∃ g,cellAt b p.r p.o=some g)::f)
  |_,_=>none
 |none=>none
def qwN (cx:Cx)(F:Fr)(o:Oper)(f:Hints):Adv->Option (AV×List Prop)
 |.row rows=>match o.op with
  |.indexAddr t x i=>match cx.P.underlying t,(F.ev x).cell,asInt (F.ev i)with
   |some (.slice b),some (.ref p),some n=>match F.rowsT f p.key,qQ cx.P b with
    |some (h,c),some sz=>match rows with
     |[.own d rows]=>if d=sz then some (.c (.ptr ⟨p.toKey,n.toNat,0⟩),(0<=n/\n<rows.length)::(cellAt h p.r p.o=some (.own d rows))::c)else none
     |_=>none
    |_,_=>none
   |_,_,_=>none
  |.call { callee:=.builtin .len,args,argTypes }=>match args[0]?,argTypes[0]? with
   |some x,some t=>match cx.P.underlying t,(F.ev x).cell,rows with
    |some (.slice _),some (.ref p),[.own d rows]=>match F.rowsT f p.key with
     |some (h,c)=>some (.int rows.length,(cellAt h p.r p.o=some (.own d rows))::c)
     |none=>none
    |_,_,_=>none
   |_,_=>none
  |_=>none
 |.ld row=>match o.op with
  |.load t a=>match (F.ev a).cell,qQ cx.P t,zW cx.P t with
   | some (.ptr p),some n,some g=>if p.key.heap&&decide (p.o+n<=row.length)then match F.rowsT f p.key,mkAV g (xA p.key p.r p.o ((row.drop p.o).take n))with
     |some (rows,c),some v=>some (v,(rows[p.r]? = some row)::c)
     |_,_=>none
    else none
   |_,_,_=>none
  |_=>none
 |_=>none
def qzu (cx:Cx)(F:Fr)(o:Oper)(g:Hints):Adv->Option (Fr×List Prop)
 |.st=>match o.op with
  |.store t a x=>match o.dst,(F.ev a).cell,qQ cx.P t,Qb cx F (F.ev x)with
   |none,some (.ptr p),some n,some (v,F')=>match v.cells with
    |some [c]=>if [c].length=n&&(p.key.heap && !p.isM)&&(p.key.path.isEmpty||[c].all qw)then qCy (if qy c then F'.kill { p with o:=p.o+0 }else F') g { p with o:=p.o+0 } c else none
    |_=>none
   |_,_,_,_=>none
  |_=>none
 |.okO b e=>match o.op with
  |.call { callee:=.builtin .append,args,argTypes }=>match args.toList,argTypes.toList,o.dst with
   |[.tmp k,x],[t,t1],some d=>match cx.P.underlying t,srcU (cx.P.underlying t1),(F.ev (.tmp k)).cell,(F.ev x).cell with
    |some (.slice f),some (.slice _),some (.ref p),some j=>match F.rowsT g p.key,cx.P.info? f,qCy F g p .dead with
     |some (l,_),some i,some (h,m)=>match tappend cx ((h.dropS k).kill p) d f i b (some p) j e with
      |some (q,r)=>some (q,(cellAt l p.r p.o=some (.own i.size b))::(h.slots[k]? = some (.c (.ref p)))::(m++r))
      |none=>none
     |_,_,_=>none
    |_,_,_,_=>none
   |_,_,_=>none
  |_=>none
 |_=>none
def taop (cx:Cx)(F:Fr)(o:Oper):Option Adv->Option (Fr×List Prop×Option Value)
 |none=>match xaop cx qey F o with
  |some (F',r)=>some (F',[],r)
  |none=>none
 |some (.call res h thaw)=>match o.op with
  |.call { callee:=.value g,args,.. }=>match (F.ev g).cell with
   |some (.clo f first c)=>qhw cx F o.dst f (first.map .c++args.toList.map F.ev++c.map .c) res h thaw
   |_=>none
  |_=>none
 |some (.thru d a)=>if !noMv cx o then none else match qwN cx F o d a with
  |some (v,b)=>some (F.putS o.dst v,b,none)
  |none=>if (xquiet cx F o).isNone then(match qzu cx F o d a with
   |some (F',b)=>some (F',b,none)
   |none=>none)else none
 |some a=>if !noMv cx o then none else match tquiet cx F o a with
  |some (v,b)=>some (F.putS o.dst v,b,none)
  |none=>if (xquiet cx F o).isNone then(match tloud cx F o a with
   |some (F',b)=>some (F',b,none)
   |none=>none)else none
def qh6 (o:Oper)(rest:List Oper):Option Adv->Bool
 |some (.call _ _ _)=>rest.all λa=>a.dst != o.dst
 |_=>true
def Qe (d:Option Nat):Advs->Option Adv×Advs
 |(b,a)::l=>if b=d then(some a,l)else(none,(b,a)::l)
 |[]=>(none,[])
def taops (cx:Cx)(ops:List Oper):List Oper->Fr->Advs->Option (Fr×Advs×List Prop×Option Value)
 |[],F,d=>some (F,d,[],none)
 |o::rest,F,d=>match zi ops F o with
  |some true=>match Qe o.dst d with
   |(a,b)=>if qh6 o rest a then(match taop cx F o a with
    |some (F',f,none)=>spF o.dst F' λF'=>match taops cx ops rest F' b with
     |some (g,c,h,r)=>some (g,c,f++h,r)
     |none=>none
    |some (F',f,some v)=>some (F',b,f,some v)
    |none=>none)else none
  |some false=>spF o.dst (F.putS o.dst .undef) λF'=>taops cx ops rest F' d
  |none=>none
def xqD (cx:Cx)(F:Fr)(o:Oper):Option AV:=bif mvD cx o then none else xquiet cx F o
def tqD (cx:Cx)(F:Fr)(o:Oper)(a:Adv):Option (AV×List Prop):=bif mvD cx o then none else match a with
 |.thru b a=>qwN cx F o b a
 |a=>tquiet cx F o a
def tdop (cx:Cx)(ops:List Oper)(F:Fr)(o:Oper)(f:Advs):Option (Fr×Info×Advs×List Prop):=match zi ops F o with
 |none=>none
 |some false=>some (F.put o.dst .undef,zJ F (F.put o.dst .undef) (dstR o) (xW ops o) false,f,[])
 |some true=>match Qe o.dst f with
  |(none,b)=>match xqD cx F o with
   |some v=>some (F.put o.dst v,zJ F (F.put o.dst v) (dstR o) (xW ops o++slotsOf o++(if Xl o.op then qR F o else [])) false,b,[])
   | none=>if xG F (qC F o)then match xaop cx qey (F.part (qC F o) (readsOf o)) o with
     |some (c,none)=>some (F.merge c (qC F o),zJ F (F.merge c (qC F o)) (qC F o) (xW ops o++slotsOf o) true,b,[])
     |_=>none
    else none
  |(some a,b)=>match tqD cx F o a with
   |some (v,d)=>some (F.put o.dst v,zJ F (F.put o.dst v) (dstR o) (xW ops o++slotsOf o++(if Xl o.op then qR F o else [])) false,b,d)
   | none=>if (xqD cx F o).isNone&&xG F (qC F o)then match taop cx (F.part (qC F o) (readsOf o)) o (some a)with
     |some (c,d,none)=>some (F.merge c (qC F o),zJ F (F.merge c (qC F o)) (qC F o) (xW ops o++slotsOf o) true,b,d)
     |_=>none
    else none
def tdrun (cx:Cx)(ops:List Oper):List Oper->Fr->Advs->Option (Fr×List Info×Advs×List Prop)
 |[],F,a=>some (F,[],a,[])
 |o::rest,F,a=>if !qh6 o rest (Qe o.dst a).1 then none else match tdop cx ops F o a with
  |some (b,i,c,f)=>spF o.dst b λb=>qgQ i λi=>match tdrun cx ops rest b c with
   |some (g,is,d,h)=>some (g,i::is,d,f++h)
   |none=>none
  |none=>none
def qAo (cx:Cx)(ops:List Oper)(F:Fr)(fs:List Nat)(e:Nat)(d:Advs):Option (Fr×Advs×List Prop):=match tdrun cx ops (ops.take (ops.length-1)) F d with
 |some (a,is,b,f)=>match ops[ops.length-1]?,ops[e]? with
  |some os,some oe=>match os.op,oe.op with
   |.store t1 g _,.store t2 h _=>match (a.ev h).cell,(a.ev g).cell with
    |some (.ptr i),some (.ptr j)=>match tdop cx ops a os b with
     |some (k,_,c,l)=>if qAn cx.P os t1&&qAn cx.P oe t2&&i.key.root != j.key.root&&qDb cx.P ops fs (ops.length-1) e is then some (k,c,f++l)else none
     |none=>none
    |_,_=>none
   |_,_=>none
  |_,_=>none
 |none=>none
def tadraw (cx:Cx)(ops:List Oper)(F:Fr)(a:Advs):Option (Fr×Advs×List Prop):=match a with
 |(_,.fst fs e)::a=>qAo cx ops F fs e a
 |a=>match tdrun cx ops ops F a with
  |some (F',is,b,c)=>if vw 0 ops&&vS (befL ops []) is 0 is then some (F',b,c)else none
  |none=>none
inductive TItem where
 |code (c:Code)
 |inBlock (id:Nat)
 |inLoop (b:Code)
inductive TStop where
 |at (K:List TItem) (F:Fr)
 |fin (res:ARes) (bx:List (List Cell))
def YX (id:Nat):List TItem->Option (List TItem)
 |[]=>none
 |.inBlock a::K=>if a=id then some K else YX id K
 |_::K=>YX id K
def tfin (P:Program)(a:Func)(b:Nat)(F:Fr):Option TStop:=match QS P F a.results.toList with
 |some (vs,F')=>match qjr vs,zD F' b with
  |some v,some bx'=>some (.fin (.ret v) bx')
  |_,_=>none
 |none=>none
def qf3 (a:List Prop):Option (TStop×List Prop)->Option (TStop×List Prop)
 |some (s,b)=>some (s,a++b)
 |none=>none
def mgo (cx:Cx)(g:Func)(f:Nat):Nat->List TItem->Fr->Advs->Option (TStop×List Prop)
 |0,K,F,d=>match d with
  |[]=>some (.at K F,[])
  |_=>none
 |n+1,K,F,d=>match K with
  |[]=>match d with
   |[]=>match tfin cx.P g f F with
    |some s=>some (s,[])
    |none=>none
   |_=>none
  |.inLoop b::K=>match qfB b with
   |[]=>mgo cx g f n (.code b :: .inLoop b::K) F d
   |ls=>qdU (F.norm [] ls) λF=>mgo cx g f n (.code b :: .inLoop b::K) F d
  |.inBlock _::K=>mgo cx g f n K F d
  |.code c::K=>match c with
   |.skip=>mgo cx g f n K F d
   |.region _ ops i=>if i then(match tadraw cx ops.toList F d with
      |some (F',h,j)=>qf3 j (mgo cx g f n K F' h)
      |none=>none)
    else match taops cx ops.toList ops.toList F d with
     |some (F',h,j,none)=>qf3 j (mgo cx g f n K F' h)
     |some (F',[],j,some v)=>match zD F' f with
      |some bx'=>some (.fin (.panic v) bx',j)
      |none=>none
     |_=>none
   |.seq a b=>mgo cx g f n (.code a :: .code b::K) F d
   |.cond c a b=>match (F.ev c).con with
    |some (.bool true)=>mgo cx g f n (.code a::K) F d
    |some (.bool false)=>mgo cx g f n (.code b::K) F d
    |_=>none
   |.block id b=>mgo cx g f n (.code b :: .inBlock id::K) F d
   |.loop b=>mgo cx g f n (.inLoop b::K) F d
   |.exit id=>match YX id K with
    |some k=>mgo cx g f n k F d
    |none=>none
   |.ret=>match d with
    |[]=>match tfin cx.P g f F with
     |some s=>some (s,[])
     |none=>none
    |_=>none
   |_=>none
end
section
variable [Glob]
theorem ze {α:Type}{C}[Decidable C]{X}{y:α}(h:(if C then X else none)=some y):C/\X=some y:=by
 by_cases a:C
 . rw[aD a]at h;exact⟨a,h⟩
 . rw[aF a]at h;cases h
theorem qdv {cx F o r}(rec)(e:aop cx qey F o=some r):aop cx rec F o=some r:=by
 unfold aop at *;cases a:mvop cx F o with
 |some d=>rw[a]at e;exact e
 |none=>
 rw[a]at e;simp only at *;unfold aop0 at *;cases b:quiet cx F o with
 |some v=>rw[b]at e;exact e
 |none=>
  rw[b]at e;simp only at *;cases c:loud cx F o with
  |some d=>rw[c]at e;exact e
  |none=>
   rw[c]at e;simp only at *;split at e
   . exact e
   . split at e
     . obtain⟨_,_,_,h⟩:=qft e;cases h
     . cases e
   . cases e
theorem qkV {cx o}(h:noMv cx o=true)(F):mvop cx F o=none:=by
 unfold noMv at h;unfold mvop;split at h
 . rename_i c;rw[c]
 .
  split
  . rfl
  . split
    . rename_i t a d b hd;rw[b,hd]at h;simp only[Bool.not_eq_true']at h;rw[aF (by rw[h];simp)]
    . rfl
theorem qxr {cx F o a v J}(e:tquiet cx F o a=some (v,J))(j:∀ p∈J,p):quiet cx F o=some v:=by
 cases a with
 |test r=>
  simp only[tquiet,XZ]at e;split at e
  . rename_i b K;simp only[aa,ai]at e;obtain⟨rfl,rfl⟩:=e;have:b=r:=j _ (by simp);subst this;exact K
  . cases e
 |row row=>
  obtain⟨dst,op,ty,pos,after,guard⟩:=o;simp only[tquiet]at e;split at e
  .
   rename_i t x i;split at e
   . rename_i q rows n m w C;split at e
     . rename_i sz z;simp only[aa,ai]at e;obtain⟨rfl,rfl⟩:=e;obtain⟨c,l,A⟩:=j _ au;simp only[quiet,m,w,C,z,l,A,c,decide_true,beq_self_eq_true,Bool.and_self,if_true]
     . cases e
   . cases e
  . cases e
 |bnd=>
  obtain⟨dst,op,ty,pos,after,guard⟩:=o;simp only[tquiet]at e;split at e
  .
   rename_i t x i;split at e
   .
    rename_i q p n m w C;split at e
    . rename_i N rows sz E z;split at e
      . rename_i B;simp only[aa,ai]at e;obtain⟨rfl,rfl⟩:=e;obtain⟨c,l⟩:=j _ au;simp only[quiet,m,w,C,z,E,c,l,B,decide_true,beq_self_eq_true,Bool.and_self,if_true]
      . cases e
    . cases e
   . cases e
  . cases e
 |ld row=>
  obtain⟨dst,op,ty,pos,after,guard⟩:=o;simp only[tquiet]at e;split at e
  .
   rename_i t a;split at e
   .
    rename_i p n g w z E;split at e
    . rename_i f;simp only[aC,aW]at f;split at e
      . rename_i rows v' L M;simp only[aa,ai]at e;obtain⟨rfl,rfl⟩:=e;have c:=j _ au;simp only[quiet,w,z,E,Fr.loadL,f.1,Bool.not_true,aS,if_false,L,c,f.2,if_true,ae];exact M
      . cases e
    . cases e
   . cases e
  . cases e
 |sidx b=>
  obtain⟨dst,op,ty,pos,after,guard⟩:=o;simp only[tquiet]at e;split at e
  . rename_i t x i;split at e
    . rename_i s n m d G;simp only[aa,ai]at e;obtain⟨rfl,rfl⟩:=e;obtain⟨c,l⟩:=j _ au;unfold Xp at l;rw[aG]at l;obtain⟨O,A,rfl⟩:=l;exact qhh m d G c A
    . cases e
  . cases e
 |aix b=>
  obtain⟨dst,op,ty,pos,after,guard⟩:=o;simp only[tquiet]at e;split at e
  .
   rename_i t x i;split at e
   . rename_i len P cs n m d G;split at e
     . rename_i B;simp only[aa,ai]at e;obtain⟨rfl,rfl⟩:=e;obtain⟨c,l,A⟩:=j _ au;exact qlm m B.1 B.2 d G c l A
     . cases e
   . cases e
  . cases e
 |qr=>
  obtain⟨dst,op,ty,pos,after,guard⟩:=o;simp only[tquiet]at e;split at e
  .
   rename_i t x y u;split at e
   . rename_i k a H b d h;split at e
     . rename_i I;subst I;simp only[aa,ai]at e;obtain⟨rfl,rfl⟩:=e;have c:=j _ au;have:=qhd (cx:=cx) (dst:=dst) (t:=t) (u:=u) (ty:=ty) (pos:=pos) (after:=after) (g:=guard) (op:=.quo) (.inl ⟨rfl,rfl⟩) d h c;simp only[quiet,d,h];exact this
     . cases e
   . cases e
  .
   rename_i t x y u;split at e
   . rename_i k a H b d h;split at e
     . rename_i I;subst I;simp only[aa,ai]at e;obtain⟨rfl,rfl⟩:=e;have c:=j _ au;have:=qhd (cx:=cx) (dst:=dst) (t:=t) (u:=u) (ty:=ty) (pos:=pos) (after:=after) (g:=guard) (op:=.rem) (.inr ⟨rfl,rfl⟩) d h c;simp only[quiet,d,h];exact this
     . cases e
   . cases e
  . rename_i t x y u;split at e
    . rename_i k a H b d h;simp only[aa,ai]at e;obtain⟨rfl,rfl⟩:=e;have c:=j _ au;have:=qkx (cx:=cx) (dst:=dst) (t:=t) (u:=u) (ty:=ty) (pos:=pos) (after:=after) (g:=guard) (op:=.shl) (.inl ⟨rfl,rfl⟩) d h c;simp only[quiet,d,h];exact this
    . cases e
  . rename_i t x y u;split at e
    . rename_i k a H b d h;simp only[aa,ai]at e;obtain⟨rfl,rfl⟩:=e;have c:=j _ au;have:=qkx (cx:=cx) (dst:=dst) (t:=t) (u:=u) (ty:=ty) (pos:=pos) (after:=after) (g:=guard) (op:=.shr) (.inr ⟨rfl,rfl⟩) d h c;simp only[quiet,d,h];exact this
    . cases e
  . cases e
 |scat=>
  obtain⟨dst,op,ty,pos,after,guard⟩:=o;simp only[tquiet]at e;split at e
  . rename_i t x y u;split at e
    . rename_i s r d h;simp only[aa,ai]at e;obtain⟨rfl,rfl⟩:=e;have c:=j _ au;have:=qkS (cx:=cx) (dst:=dst) (t:=t) (u:=u) (ty:=ty) (pos:=pos) (after:=after) (g:=guard) d h c;simp only[quiet,d,h];exact this
    . cases e
  . cases e
 |_=>simp[tquiet]at e
theorem qb3 {f g}:∀ {π:List (Nat×Nat)} {rows a:List (List Cell)},getR rows π=some a->f a=g a->updR f rows π=updR g rows π
 |[],rows,a,h,e=>by simp only[getR,aa]at h;subst h;exact e
 |(r,o)::π,rows,a,h,e=>by
  simp only[getR]at h;simp only[updR];split at h
  . rename_i b c;rw[qb3 h e]
  . cases h
theorem Qx {F F' p c q}(e:tset F p c=some (F',q))(i:q):F.set p c=some F':=by
 unfold tset at e;split at e
 .
  rename_i rows f h a;split at e
  . rename_i b j;simp only[aa,ai]at e;obtain⟨rfl,rfl⟩:=e;unfold Fr.set;rw[h];simp only;have k:getR rows p.key.path=some f:=by unfold Fr.rowsAt at a;rw[h]at a;exact a
    obtain⟨l,d⟩:=i;rw[qb3 (g:=λ_=>some (setRow f p.r p.o c)) k (by simp only[putAt,d]),j]
  . cases e
 . cases e
theorem qbg {p}:∀ {l:List Cell} {j:Nat} {F F':Fr} {a:List Prop},qf5 F p j l=some (F',a)->(∀ q∈a,q)->F.setL p j l=some F'
 |[],j,F,F',a,e,_=>by simp only[qf5,aa,ai]at e;obtain⟨rfl,_⟩:=e;rfl
 |c::l,j,F,F',a,e,f=>by
  simp only[qf5]at e;cases b:tset (if qy c then F.kill { p with o:=p.o+j }else F) { p with o:=p.o+j } c with
  |none=>simp[b]at e
  |some y=>
   obtain⟨g,q⟩:=y;simp only[b]at e;cases d:qf5 g p (j+1) l with
   |none=>simp[d]at e
   |some z=>obtain⟨i,k⟩:=z;simp only[d,aa,ai]at e;obtain⟨rfl,rfl⟩:=e;simp only[Fr.setL,Qx b (f q au)];exact qbg d (λx h=>f x (aB _ h))
theorem Za {cx F F' d a i rows p b h f}(e:tappend cx F d a i rows p b h=some (F',f))(j:∀ q∈f,q):Yo cx F d a i rows p b=some F':=by
 unfold tappend at e;unfold Yo;split at e
 .
  rename_i c n k;rw[k];simp only;split at e
  . rename_i more l;simp only[aa,ai]at e;obtain⟨rfl,rfl⟩:=e;rw[l];simp only;obtain⟨g,m⟩:=j _ au;unfold qcb at g;rw[aD g];cases p with
    |none=>rw[m rfl]
    |some p=>rfl
  . cases e
 . cases e
theorem qfZ {F:Fr}{k p}(h:F.slots[k]? = some (.c (.ref p))):(F.dropS k).kill p=F.kill p:=by
 have c:under p p.toKey=true:=by simp[under,Pl.toKey]
 have d:(AV.c (.ref p)).mapC (vI p)=.deadv:=by simp[AV.mapC,AV.c,AV.deadv,vI,c]
 have f:AV.deadv.mapC (vI p)=.deadv:=by simp[AV.mapC,AV.c,AV.deadv,vI]
 have g:(F.slots.set k .deadv).map (·.mapC (vI p))=F.slots.map (·.mapC (vI p)):=by
  apply List.ext_getElem?;intro j;rw[aH,aH,List.getElem?_set];by_cases b:k=j
  . subst b;have a:=(az.1 h).1;rw[aD rfl,aD a,h];simp only[av,d,f]
  . rw[aF b]
 simp only[Fr.dropS,Fr.kill,Fr.mapC,g]
theorem qer {cx F F' o a L}(e:tloud cx F o a=some (F',L))(f:∀ p∈L,p):loud cx F o=some F':=by
 obtain⟨dst,op,ty,pos,after,guard⟩:=o;cases a with
 |st=>
  simp only[tloud]at e;split at e
  .
   rename_i t x y;unfold loud;simp only at e |-;split at e
   .
    rename_i p n v E hd I O;rw[hd,I,O];simp only;split at e
    . rename_i l J;rw[J];simp only;split at e
      . rename_i c;rw[aD c];exact qbg e f
      . cases e
    . cases e
   . cases e
  . cases e
 |okE P=>
  simp only[tloud]at e;split at e
  .
   rename_i args argTypes;unfold loud;simp only at e |-;split at e
   .
    rename_i s x t t1 d k r;rw[k,r];simp only;split at e
    . rename_i b M R u w z A;rw[u,w,z,A];simp only;split at e
      . rename_i i B;rw[B];exact Za e f
      . cases e
    .
     rename_i b p M R u w z A;rw[u,w,z,A];simp only;split at e
     . rename_i Y rows i E G b2 b3;rw[G,b2,b3];simp only;split at e
       . rename_i S;rw[aD S];exact Za e f
       . cases e
     . cases e
    . cases e
   . cases e
  . cases e
 |okO m P=>
  simp only[tloud]at e;split at e
  .
   rename_i args argTypes;unfold loud;simp only at e |-;split at e
   .
    rename_i s x t t1 d k r;rw[k,r];simp only;split at e
    .
     rename_i b Z p M u w z A;rw[u,w,z,A];simp only;split at e
     .
      rename_i rs i E q G b2 b3;split at e
      .
       rename_i F2 qs b4;simp only[aa,ai]at e;obtain⟨rfl,rfl⟩:=e;have c:=f _ au;have T:=f _ (aB _ au);rw[qfZ T]at b4;have U:F.get p=some (.own i.size m):=by unfold Fr.get;rw[G];exact c
       have I:F.set p .dead=some E:=by
        have V:q:=by
         unfold tset at b3;split at b3
         . rename_i rr W hr C;split at b3
           . simp only[aa,ai]at b3;obtain⟨_,rfl⟩:=b3;rw[G]at C;cases C;exact⟨_,c⟩
           . cases b3
         . cases b3
        exact Qx b3 V
       rw[U,b2,I];simp only[if_true];exact Za b4 (λx K=>f x (aB _ (aB _ K)))
      . cases e
     . cases e
    . cases e
   . cases e
  . cases e
 |ok=>
  simp only[tloud]at e;split at e
  .
   rename_i t x N B;unfold loud;simp only at e |-;split at e
   .
    rename_i b H;rw[H];simp only;split at e
    .
     rename_i rows E sz k r;rw[k,r];simp only;split at e
     .
      rename_i l h k1 j;simp only[aa,ai]at e;obtain⟨rfl,rfl⟩:=e;have c:=f _ au;cases N with
      |none=>
       simp only[aa]at k1;subst k1;cases B with
       |none=>simp only[aa]at j;subst j;simp only;rw[aD c]
       |some y=>simp only at j;simp only[j];rw[aD c]
      |some x=>
       simp only at k1;cases B with
       |none=>simp only[aa]at j;subst j;simp only[k1];rw[aD c]
       |some y=>simp only at j;simp only[k1,j];rw[aD c]
     . cases e
    . cases e
   . cases e
  . cases e
 |ssl=>
  simp only[tloud]at e;split at e
  .
   rename_i t x N B;split at e
   . rename_i s l H K J;split at e
     . rename_i h X;simp only[aa,ai]at e;obtain⟨rfl,rfl⟩:=e;have k:=f _ au;have:=qhf (cx:=cx) (dst:=dst) (ty:=ty) (pos:=pos) (after:=after) (g:=guard) H K J X k;unfold loud;simp only[H,this];rfl
     . cases e
   . cases e
  . cases e
 |_=>simp[tloud]at e
def vG (f:Nat)(args:List AV)(c:List (List Cell))(res:ARes)(bx':List (List Cell)):Oracle:=λd a b=>open Classical in if d=f/\a=args/\b=c then some (res,bx')else none
theorem xP {P hand f args b res bx'}(h:Ev P hand f args b res bx'):
  qN P (vG f args b res bx')/\ZA P (vG f args b res bx'):=by
 constructor
 .
  intro j a c g i e;unfold vG at e;split at e
  . rename_i d;obtain⟨rfl,rfl,rfl⟩:=d;simp only[aa,ai]at e;obtain⟨rfl,rfl⟩:=e;exact h.2
  . cases e
 .
  intro j a c r e;unfold vG at e;split at e
  . rename_i d;obtain⟨rfl,rfl,rfl⟩:=d;exact h.1
  . cases e
theorem Xk (f args a res)(bx'):vG f args a res bx' f args a=some (res,bx'):=by unfold vG;rw[aD ⟨rfl,rfl,rfl⟩]
def qcG (P:Program)(rec:Oracle):Prop:=qN P rec/\ZA P rec
theorem qcT (P):qcG P qey:=⟨λ_ _ _ _ _ e=>(by cases e),λ_ _ _ _ e=>(by cases e)⟩
theorem xV {E cx F F' dst f vs res bx' thaw m r}(e:Xw E cx F dst f vs res bx' thaw=some (F',m,r))(c:∀ p∈m,p):∃ a g,E f a g res bx'/\vZ cx (vG f a g res bx') F dst f vs=some (F',r):=by
 unfold Xw at e;split at e
 .
  rename_i y d n;split at e
  .
   rename_i args b o;simp only at e;split at e
   .
    rename_i a g q t;split at e
    .
     rename_i bx'' u;split at e
     .
      rename_i w;split at e
      .
       rename_i Ff h;split at e
       . rename_i v;simp only[aa,ai]at e;obtain⟨rfl,rfl,rfl⟩:=e;have i:E f a g (.panic v) bx':=c _ au;refine⟨_,_,i,?_⟩;unfold vZ;rw[n];simp only;rw[o];simp only;rw[q,t];simp only;rw[Xk];simp only;rw[u];simp only;rw[aD w,h]
       .
        rename_i v;split at e
        .
         rename_i v' z;simp only[aa,ai]at e;obtain⟨rfl,rfl,rfl⟩:=e;have i:E f a g (.ret v) bx':=c _ au;have A:(if ((yl d 3 (zm [] (args.flatMap λv=>v.rows.flatMap λl=>l.flatMap Xz))).isEmpty&&v'.rows.all (λ(l:List Cell)=>l.all Xg))=true then d else Ff)=if thaw then d else Ff:=by
          by_cases B:b=[]
          . subst B;simp only[zG,aa]at h;subst h;simp
          . have j:b.isEmpty=false:=by cases b<;>simp_all
            rw[j]at c;by_cases x:(yl d 3 (zm [] (args.flatMap λv=>v.rows.flatMap λl=>l.flatMap Xz))).isEmpty=true
            . rw[x]at c |-;have:qhn v'=thaw:=c _ (by simp);show(if (true&&qhn v')=true then d else Ff)=_;rw[Bool.true_and,this]
            . have k:(yl d 3 (zm [] (args.flatMap λv=>v.rows.flatMap λl=>l.flatMap Xz))).isEmpty=false:=by simpa using x
              rw[k]at c |-;have:false=thaw:=c _ (by simp);rw[<- this];simp
         refine⟨_,_,i,?_⟩;unfold vZ;rw[n];simp only;rw[o];simp only;rw[q,t];simp only;rw[Xk];simp only;rw[u];simp only;rw[aD w,h];simp only;rw[z];simp only;rw[A]
        . cases e
      . cases e
     . cases e
    . cases e
   . cases e
  . cases e
 . cases e
theorem qdO {cx F F' dst f vs res bx' thaw b r}(e:qhw cx F dst f vs res bx' thaw=some (F',b,r))(c:∀ p∈b,p):∃ rec,qcG cx.P rec/\vZ cx rec F dst f vs=some (F',r):=by obtain⟨a,h,d,g⟩:=xV e c;exact⟨_,xP d,g⟩
theorem qxQ:∀ {π:List (Nat×Nat)} {b:Hints} {rows x:List (List Cell)} {a:List Prop},qxP b rows π=some (x,a)->(∀ q∈a,q)->getR rows π=some x
 |[],b,rows,x,a,e,_=>by cases b<;>(simp only[qxP,aa,ai]at e;rw[getR,e.1])
 |(r,o)::π,[],rows,x,a,e,_=>by simp[qxP]at e
 |(r,o)::π,(g,i)::b,rows,x,a,e,c=>by
  simp only[qxP]at e;split at e
  . rename_i y j d;simp only[aa,ai]at e;obtain⟨rfl,rfl⟩:=e;have h:=c _ au;simp only[getR,h];exact qxQ d λq f=>c q (aB _ f)
  . cases e
theorem qye {f g}:∀ {π:List (Nat×Nat)} {c:Hints} {rows a x:List (List Cell)} {d:List Prop},
  qxP c rows π=some (x,d)->(∀ q∈d,q)->g x=some (f x)->qBk f c rows π=some a->updR g rows π=some a
 |[],c,rows,a,x,d,e,_,i,b=>by cases c<;>(simp only[qxP,aa,ai]at e;simp only[qBk,aa]at b;rw[updR,e.1,i,<- e.1,b])
 |(r,o)::π,[],rows,a,x,d,e,_,_,_=>by simp[qxP]at e
 |(r,o)::π,(p,t)::c,rows,a,x,d,e,j,i,b=>by
  simp only[qxP]at e;split at e
  . rename_i y u k;simp only[aa,ai]at e;obtain⟨rfl,rfl⟩:=e;have h:=j _ au;simp only[qBk]at b;split at b
    . rename_i l m;simp only[aa]at b;subst b;have:=qye k (λq n=>j q (aB _ n)) i m;simp only[updR,h,this]
    . cases b
  . cases e
theorem Fr.rowsT_sound {F:Fr}{b k x a}(e:F.rowsT b k=some (x,a))(c:∀ q∈a,q):F.rowsAt k=some x:=by
 unfold Fr.rowsT at e;cases h:F.rows k.root with
 |none=>rw[h]at e;cases e
 |some rows=>rw[h]at e;unfold Fr.rowsAt;rw[h];exact qxQ e c
theorem qyc {F F' h p c d}(e:qCy F h p c=some (F',d))(f:∀ q∈d,q):F.set p c=some F':=by
 unfold qCy at e;split at e
 .
  rename_i rows i;split at e
  . rename_i m n a j k;simp only[aa,ai]at e;obtain⟨rfl,rfl⟩:=e;obtain⟨o,b⟩:=f _ au;unfold Fr.set;rw[i];simp only;rw[qye (g:=putAt p.r p.o c) j (λq l=>f q (aB _ l)) (by simp only[putAt,b]) k]
  . cases e
 . cases e
theorem qw6 {cx:Cx}{F:Fr}{o:Oper}{l:Hints}{a:Adv}{v:AV}{z:List Prop}(e:qwN cx F o l a=some (v,z))(c:∀ p∈z,p):quiet cx F o=some v:=by
 obtain⟨dst,op,ty,pos,after,guard⟩:=o;cases a with
 |row rows=>
  simp only[qwN]at e;split at e
  .
   rename_i t x i;split at e
   .
    rename_i A p n m d C;split at e
    .
     rename_i E B sz f G;split at e
     . rename_i r rows;split at e
       . rename_i u;simp only[aa,ai]at e;obtain⟨rfl,rfl⟩:=e;obtain⟨w,H⟩:=c _ au;have y:=c _ (aB _ au);have h:=Fr.rowsT_sound f λq j=>c q (aB _ (aB _ j));have k:F.get p=some (.own r rows):=by unfold Fr.get;rw[h];exact y
         simp only[quiet,m,d,C,G,k,w,H,u,decide_true,beq_self_eq_true,Bool.and_self,if_true]
       . cases e
     . cases e
    . cases e
   . cases e
  .
   rename_i args argTypes;split at e
   .
    rename_i x t I J;split at e
    . rename_i L p r rows m d;split at e
      . rename_i E B f;simp only[aa,ai]at e;obtain⟨rfl,rfl⟩:=e;have y:=c _ au;have h:=Fr.rowsT_sound f λq j=>c q (aB _ j);have k:F.get p=some (.own r rows):=by unfold Fr.get;rw[h];exact y
        simp only[quiet,I,J,m,d,Fr.look,k,av]
      . cases e
    . cases e
   . cases e
  . cases e
 |ld row=>
  simp only[qwN]at e;split at e
  .
   rename_i t a;split at e
   .
    rename_i p n g d l k;split at e
    . rename_i b;simp only[aC,aW]at b;split at e
      . rename_i rows B v' f K;simp only[aa,ai]at e;obtain⟨rfl,rfl⟩:=e;have w:=c _ au;have h:=Fr.rowsT_sound f λq j=>c q (aB _ j);simp only[quiet,d,l,k,Fr.loadL,b.1,Bool.not_true,aS,if_false,h,w,b.2,if_true,ae];exact K
      . cases e
    . cases e
   . cases e
  . cases e
 |_=>simp[qwN]at e
theorem qzv {cx F F' o u a w}(e:qzu cx F o u a=some (F',w))(j:∀ p∈w,p):loud cx F o=some F':=by
 obtain⟨dst,op,ty,pos,after,guard⟩:=o;cases a with
 |st=>
  simp only[qzu]at e;split at e
  .
   rename_i t x y;unfold loud;simp only at e |-;split at e
   .
    rename_i p n v H hd k I;rw[hd,k,I];simp only;split at e
    . rename_i c J;rw[J];simp only;split at e
      . rename_i l;rw[aD l];have:=qyc e j;simp only[Fr.setL,Nat.add_zero]at this |-;rw[this]
      . cases e
    . cases e
   . cases e
  . cases e
 |okO g W=>
  simp only[qzu]at e;split at e
  .
   rename_i args argTypes;unfold loud;simp only at e |-;split at e
   .
    rename_i s x t t1 d K L;rw[K,L];simp only;split at e
    .
     rename_i z X p Y M N O P;rw[M,N,O,P];simp only;split at e
     .
      rename_i A R i H S B b2 b3;split at e
      .
       rename_i Z us b4;simp only[aa,ai]at e;obtain⟨rfl,rfl⟩:=e;have l:=j _ au;have T:=j _ (aB _ au);have C:∀ q∈S,q:=λq h=>j q (aB _ (aB _ (aL _ h)));rw[qfZ T]at b4;have f:=B;unfold Fr.rowsT at f;have b:=b3;unfold qCy at b;cases E:F.rows p.key.root with
       |none=>rw[E]at f;cases f
       |some rows=>
        rw[E]at f b;simp only[ae]at f;simp only[f]at b;have m:∀ q∈R,q:=by
         cases G:qBk (λA=>setRow A p.r p.o .dead) u rows p.key.path with
         |none=>simp only[G]at b;cases b
         |some r=>simp only[G,aa,ai]at b;obtain⟨_,rfl⟩:=b;exact λq h=>C q (aB _ h)
        have U:F.get p=some (.own i.size g):=by unfold Fr.get;rw[Fr.rowsT_sound B m];exact l
        rw[U,b2,qyc b3 C];simp only[if_true];exact Za b4 (λx V=>j x (aB _ (aB _ (aR _ V))))
      . cases e
     . cases e
    . cases e
   . cases e
  . cases e
 |_=>simp[qzu]at e
def qeL:Option Adv->Bool
 |some (.call _ _ _)=>true
 |_=>false
theorem Qu {cx:Cx}{F F':Fr}{o:Oper}{a:Option Adv}{d:List Prop}{r:Option Value}(e:taop cx F o a=some (F',d,r))(k:∀ p∈d,p):
  (qeL a=true/\∃ rec,qcG cx.P rec/\aop cx rec F o=some (F',r))\/∀ rec,aop cx rec F o=some (F',r):=by
 have plain:∀ {a:Adv},(if !noMv cx o then none else match tquiet cx F o a with
  |some (v,d)=>some (F.putS o.dst v,d,none)
  |none=>if (xquiet cx F o).isNone then(match tloud cx F o a with
   |some (F',d)=>some (F',d,none)
   |none=>none)else none)=some (F',d,r)->∀ rec,aop cx rec F o=some (F',r):=by
  intro a e;by_cases i:noMv cx o=true
  case neg=>rw[aD (by simpa using i)]at e;cases e
  rw[aF (by simp[i])]at e;have c:=qkV i F;rw[XZ]at e;cases j:tquiet cx F o a with
  |some y=>obtain⟨v,m⟩:=y;simp only[j,aa,ai]at e;obtain⟨rfl,rfl,rfl⟩:=e;exact λrec=>by simp only[aop,c,aop0,qxr j k]
  |none=>
   simp only[j]at e;split at e
   . rename_i l;rw[Option.isNone_iff_eq_none]at l;split at e
     . rename_i q m n;simp only[aa,ai]at e;obtain⟨rfl,rfl,rfl⟩:=e;exact λrec=>by simp only[aop,c,aop0,l,qer n k]
     . cases e
   . cases e
 cases a with
 |none=>
  right;simp only[taop,qhC]at e;split at e
  . rename_i q H h;simp only[aa,ai]at e;obtain⟨rfl,rfl,rfl⟩:=e;exact λrec=>qdv _ h
  . cases e
 |some a=>
  cases a with
  |call res I thaw=>
   left;refine⟨rfl,?_⟩;obtain⟨dst,op,ty,pos,after,guard⟩:=o;simp only[taop]at e;split at e
   .
    rename_i g args argTypes;split at e
    . rename_i f first t u
      obtain⟨rec,w,x⟩:=qdO e k;refine⟨rec,w,?_⟩;have z:quiet cx F ⟨dst,.call { callee:=.value g,args,argTypes },ty,pos,after,guard⟩=none:=rfl;have A:mvop cx F ⟨dst,.call { callee:=.value g,args,argTypes },ty,pos,after,guard⟩=none:=by unfold mvop;split<;>rfl
      have B:loud cx F ⟨dst,.call { callee:=.value g,args,argTypes },ty,pos,after,guard⟩=none:=rfl;simp only[aop,A,aop0,z,B,u];exact x
    . cases e
   . cases e
  |test r=>exact .inr (plain (a:=.test r) e)
  |row r=>exact .inr (plain (a:=.row r) e)
  |bnd=>exact .inr (plain (a:=.bnd) e)
  |ld r=>exact .inr (plain (a:=.ld r) e)
  |st=>exact .inr (plain (a:=.st) e)
  |ok=>exact .inr (plain (a:=.ok) e)
  |okE b=>exact .inr (plain (a:=.okE b) e)
  |okO C b=>exact .inr (plain (a:=.okO C b) e)
  |fst fs E=>exact .inr (plain (a:=.fst fs E) e)
  |sidx b=>exact .inr (plain (a:=.sidx b) e)
  |aix b=>exact .inr (plain (a:=.aix b) e)
  |scat=>exact .inr (plain (a:=.scat) e)
  |ssl=>exact .inr (plain (a:=.ssl) e)
  |qr=>exact .inr (plain (a:=.qr) e)
  |thru G a=>
   right;simp only[taop]at e;by_cases i:noMv cx o=true
   case neg=>rw[aD (by simpa using i)]at e;cases e
   rw[aF (by simp[i])]at e;have c:=qkV i F;rw[XZ]at e;cases j:qwN cx F o G a with
   |some y=>obtain⟨v,m⟩:=y;simp only[j,aa,ai]at e;obtain⟨rfl,rfl,rfl⟩:=e;exact λrec=>by simp only[aop,c,aop0,qw6 j k]
   |none=>
    simp only[j]at e;split at e
    . rename_i l;rw[Option.isNone_iff_eq_none]at l;split at e
      . rename_i q m n;simp only[aa,ai]at e;obtain⟨rfl,rfl,rfl⟩:=e;exact λrec=>by simp only[aop,c,aop0,l,qzv n k]
      . cases e
    . cases e
theorem qb4 {cx a r2 ops}:∀ {rest:List Oper} {F:Fr},(∀ o∈rest,a o.dst=r2 o.dst)->aops cx a ops rest F=aops cx r2 ops rest F
 |[],_,_=>rfl
 |o::rest,F,h=>by
  have c:=h o au;have b:∀ F,aops cx a ops rest F=aops cx r2 ops rest F:=λF=>qb4 λd f=>h d (aB _ f);simp only[aops,c];split
  . split
    . exact b _
    . rfl
  . exact b _
  . rfl
theorem qb2 {cx a r2 ops}:∀ {rest:List Oper} {F:Fr},(∀ o∈rest,a o.dst=r2 o.dst)->drun cx a ops rest F=drun cx r2 ops rest F
 |[],_,_=>rfl
 |o::rest,F,h=>by
  have b:=h o au;have c:∀ F,drun cx a ops rest F=drun cx r2 ops rest F:=λF=>qb2 λd f=>h d (aB _ f);have hd:dop cx a ops F o=dop cx r2 ops F o:=by simp only[dop,b]
  simp only[drun,hd,c]
theorem qaO {o rest a}(h:qh6 o rest a=true)(d:qeL a=true):∀ c∈rest,c.dst≠o.dst:=by
 cases a with
 |none=>cases d
 |some a=>
  cases a with
  |call r b t=>intro c f;have:=(List.all_eq_true.1 h) c f;simpa using this
  |_=>cases d
theorem zP {cx ops}:∀ {rest:List Oper} {F F':Fr} {h c:Advs} {i:List Prop} {r:Option Value},taops cx ops rest F h=some (F',c,i,r)->(∀ p∈i,p) ->
  ∃ recs:Orac,(∀ d,qcG cx.P (recs d))/\aops cx recs ops rest F=some (F',r)
 |[],F,F',h,c,i,r,e,_=>by simp only[taops,aa,ai]at e;obtain⟨rfl,_,_,rfl⟩:=e;exact⟨λ_=>qey,λ_=>qcT _,rfl⟩
 |o::rest,F,F',h,c,i,r,e,j=>by
  simp only[taops]at e;cases a:zi ops F o with
  |none=>simp[a]at e
  |some b=>
   cases b with
   |true=>
    simp only[a]at e;split at e
    .
     rename_i u;split at e
     .
      rename_i q w l;simp only[qiv]at e;cases m:taops cx ops rest q (Qe o.dst h).2 with
      |none=>simp[m]at e
      |some z=>
       obtain⟨B,x,y,r2⟩:=z;simp only[m,aa,ai]at e;obtain⟨rfl,rfl,rfl,rfl⟩:=e;obtain⟨recs,k1,k⟩:=zP m (λp g=>j p (aR _ g));rcases Qu l (λp g=>j p (aL _ g))with⟨t,rec,n,f⟩|hall
       . refine⟨λd=>if d=o.dst then rec else recs d,λd=>?_,?_⟩
         . dsimp only;split
           . exact n
           . exact k1 d
         . simp only[aops,a,if_true,f];rw[<- k];exact qb4 λA g=>aF (qaO u t A g)
       . exact⟨recs,k1,by simp only[aops,a,hall];exact k⟩
     . rename_i q w v l;simp only[aa,ai]at e;obtain⟨rfl,rfl,rfl,rfl⟩:=e;rcases Qu l j with⟨t,rec,n,f⟩|hall
       . exact⟨λ_=>rec,λ_=>n,by simp only[aops,a,f]⟩
       . exact⟨λ_=>qey,λ_=>qcT _,by simp only[aops,a,hall]⟩
     . cases e
    . cases e
   |false=>simp only[a,qiv]at e;obtain⟨recs,k1,k⟩:=zP e j;exact⟨recs,k1,by simp only[aops,a];exact k⟩
theorem qFK {cx F o}:xqD cx F o=qD cx F o:=by unfold xqD qD;simp only[XZ]
theorem qCx {cx F o a v b}(e:tqD cx F o a=some (v,b))(c:∀ p∈b,p):qD cx F o=some v:=by
 unfold tqD at e;unfold qD;cases h:mvD cx o<;>rw[h]at e
 .
  simp only[cond_false]at e |-;split at e
  . exact qw6 e c
  . exact qxr e c
 . cases e
theorem qgC {cx ops F F' o h i I l}(e:tdop cx ops F o h=some (F',I,i,l))(m:∀ p∈l,p):
  (qeL (Qe o.dst h).1=true/\∃ rec,qcG cx.P rec/\dop cx (λ_=>rec) ops F o=some (F',I))\/∀ recs:Orac,dop cx recs ops F o=some (F',I):=by
 unfold tdop at e;simp only[qFK,qhC]at e;cases c:zi ops F o with
 |none=>simp[c]at e
 |some b=>
  cases b with
  |false=>simp only[c,aa,ai]at e;obtain⟨rfl,rfl,_,_⟩:=e;exact .inr λrecs=>by simp only[dop,c]
  |true=>
   simp only[c]at e;obtain⟨a,g,n⟩:∃ a g,Qe o.dst h=(a,g):=⟨_,_,rfl⟩
   rw[n]at e |-;cases a with
   |none=>
    right;simp only at e;cases d:qD cx F o with
    |some v=>simp only[d,aa,ai]at e;obtain⟨rfl,rfl,_,_⟩:=e;exact λrecs=>by simp only[dop,c,d]
    |none=>
     simp only[d]at e;split at e
     . rename_i f;split at e
       . rename_i q j;simp only[aa,ai]at e;obtain⟨rfl,rfl,_,_⟩:=e;exact λrecs=>by simp only[dop,c,d,f,if_true,qdv _ j]
       . cases e
     . cases e
   |some a=>
    simp only at e;cases d:tqD cx F o a with
    |some y=>obtain⟨v,r⟩:=y;simp only[d,aa,ai]at e;obtain⟨rfl,rfl,_,rfl⟩:=e;exact .inr λrecs=>by simp only[dop,c,qCx d m]
    |none=>
     simp only[d]at e;split at e
     . rename_i f;simp only[aC,Option.isNone_iff_eq_none]at f;split at e
       . rename_i q r j;simp only[aa,ai]at e;obtain⟨rfl,rfl,_,rfl⟩:=e;rcases Qu j m with⟨k,rec,t,r2⟩|hall
         . exact .inl ⟨k,rec,t,by simp only[dop,c,f.1,f.2,if_true,r2]⟩
         . exact .inr λrecs=>by simp only[dop,c,f.1,f.2,if_true,hall]
       . cases e
     . cases e
theorem xK {cx ops}:∀ {rest:List Oper} {F F':Fr} {c a:Advs} {is:List Info} {f:List Prop},tdrun cx ops rest F c=some (F',is,a,f)->(∀ p∈f,p) ->
  ∃ recs:Orac,(∀ d,qcG cx.P (recs d))/\drun cx recs ops rest F=some (F',is)
 |[],F,F',c,a,is,f,e,_=>by simp only[tdrun,aa,ai]at e;obtain⟨rfl,rfl,_⟩:=e;exact⟨λ_=>qey,λ_=>qcT _,rfl⟩
 |o::rest,F,F',c,a,is,f,e,m=>by
  simp only[tdrun]at e;split at e
  . cases e
  .
   rename_i n;simp only[Bool.not_eq_true',Bool.not_eq_false]at n;cases g:tdop cx ops F o c with
   |none=>simp[g]at e
   |some y=>
    obtain⟨h,i,j,B⟩:=y;simp only[g,qiv,qhK]at e;cases k:tdrun cx ops rest h j with
    |none=>simp[k]at e
    |some z=>
     obtain⟨r,l,t,u⟩:=z;simp only[k,aa,ai]at e;obtain⟨rfl,rfl,rfl,rfl⟩:=e;obtain⟨recs,k1,q⟩:=xK k (λp b=>m p (aR _ b));rcases qgC g (λp b=>m p (aL _ b))with⟨v,rec,w,r2⟩|hall
     .
      refine⟨λd=>if d=o.dst then rec else recs d,λd=>?_,?_⟩
      . dsimp only;split
        . exact w
        . exact k1 d
      . have hd:dop cx (λd=>if d=o.dst then rec else recs d) ops F o=some (h,i):=by rw[<- r2];simp only[dop,if_true]
        have x:drun cx (λd=>if d=o.dst then rec else recs d) ops rest h=some (r,l):=by rw[<- q];exact qb2 λA b=>aF (qaO n v A b)
        simp only[drun,hd,x]
     . exact⟨recs,k1,by simp only[drun,hall,q]⟩
theorem qyT {D cx ops F F' fs e ad M ps}(f:qAo cx ops.toList F fs e ad=some (F',M,ps))(hp:∀ p∈ps,p)(hmix:cx.P.follows .mixedOrders=true){G0 w0 G w a Q id}(h:RelF G w F a.tmps)(hg:zS G0 w0 G w)(hd:D a)(hD:∀ o∈ops,∀ a V,D a->D (a.put o.dst V))(hq:∀ K w',Stands D G0 w0 F' K w'->Q .normal K w'):(Code.region id ops true).wp cx.P Q a w:=by
 unfold qAo at f;cases N:tdrun cx ops.toList (ops.toList.take (ops.toList.length-1)) F ad with
 |none=>rw[N]at f;cases f
 |some y=>
  obtain⟨O,is,P,ps1⟩:=y;simp only[N]at f;split at f
  case h_2=>cases f
  rename_i os oe R T;split at f
  case h_2=>cases f
  rename_i t1 y1 x1 t2 y2 x2 A U;split at f
  case h_2=>cases f
  rename_i q1 q2 W X;cases Y:tdop cx ops.toList O os P with
  |none=>simp[Y]at f
  |some z=>
   obtain⟨F2,Is,ad2,qs⟩:=z;simp only[Y]at f;obtain⟨hc,f⟩:=ze f;simp only[aa,ai]at f;obtain⟨rfl,rfl,rfl⟩:=f;simp only[aC,qAn,qDb,Option.isNone_iff_eq_none,bne_iff_ne,ne_eq,aW]at hc;obtain⟨⟨⟨⟨⟨s2,s3⟩,s4⟩,⟨e2,e3⟩,e4⟩,Z⟩,⟨⟨⟨⟨c1,c2⟩,c3⟩,c4⟩,c5⟩,c6,L⟩:=hc;obtain⟨recs,k1,k2⟩:=xK N (λp hm=>hp p (aL _ hm));have k3:dop cx recs ops.toList O os=some (F2,Is):=by
    have nc:qa4 os=true:=by unfold qa4;rw[A]
    rcases qgC Y (λp hm=>hp p (aR _ hm))with⟨_,rec,_,r2⟩|r
    . rw[qgq nc (r2:=λ_=>rec)];exact r2
    . exact r recs
   have hlen:ops.toList.length=ops.size:=by simp
   have m:ops.size=(ops.toList.length-1)+1:=by omega
   generalize hsv:ops.toList.length-1=s at *;have n:∀ (k:Nat) x,is[k]? = some x->(λi=>(is[i]?).getD ⟨[],[],[],true,0,0⟩) (0+k)=x:=λk x hx=>by simp[hx]
   have htl:(ops.toList.take s).length=s:=by rw[List.length_take];omega
   obtain⟨r1,r2⟩:=qy8 (info:=λi=>(is[i]?).getD ⟨[],[],[],true,0,0⟩) (i:=0) (λk hk=>by rw[Nat.zero_add,List.getElem?_take,aD (by omega)]) k2 n;rw[htl]at r1;have bef:∀ {x y:Nat},(bef1 (befL ops.toList []) y).testBit x=true->∀ S,Down ops.toList S->S y->S x:=by
    intro x y u;unfold bef1 at u;cases B:(befL ops.toList [])[y]? with
    |none=>simp[B]at u
    |some l=>simp only[B,Option.getD_some]at u;exact λS hS hSy=>YD ops.toList [] (λk=>by simp) (λj l e=>by simp at e) y l B x u S hS hSy
   have at_:∀ {k:Nat} {o:Oper},ops[k]? = some o->ops.toList[k]? = some o:=λh=>by rw[aP];exact h
   have q:∀ {k:Nat} {o:Oper},ops.toList[k]? = some o->ops[k]? = some o:=λh=>by rw[<- aP];exact h
   have hw':RelF G { w with drawn:=w.drawn+1 } F a.tmps:=h.same ⟨Nat.le_refl _,λ_ _=>rfl,λ_ _ _=>rfl⟩;have hg':zS G0 w0 G { w with drawn:=w.drawn+1 }:=hg.trans (Gain.same (G:=G) (w:=w) (w':={ w with drawn:=w.drawn+1 }) (Nat.le_refl w.heap.size) (λ_ _=>rfl) h.inv (Out.drew w _)).w;have hed:∀ (k:Nat) o,ops[k]? = some o->∀ e∈o.after,Region.binds .any e=true->e.on<k:=λk o C e he u=>by have:=xn c1 k o (at_ C) e he u;omega
   refine Code.wp_mono (Q:=λe a w=>e=.normal/\Q .normal a w) (λe a w v=>by rw[v.1];exact v.2) ?_;refine wp_region_any hmix ?_;rw[m];refine qA0 (rec:=recs) (info:=λi=>(is[i]?).getD ⟨[],[],[],true,0,0⟩) (Fs:=O) (Ff:=F2) (fs:=fs) (s:=s) (e:=e) (os:=os) (oe:=oe) (D:=D) (G0:=G0) (w0:=w0)
    (λd=>(k1 d).1) (λd=>(k1 d).2) ?_ hed (q R) m c2 (q T) (λi E=>?_) (λi E oi hoi j oj H t hw hw2=>?_) (λj o cs b C heq=>?_) (λx y hxy hy=>?_) (λx hx t=>?_)
    A s2 s3 s4 U e2 e3 e4 W X (λv=>Z (by rw[v])) k3 hD (λK w' hst=>⟨rfl,hq K w' hst⟩) (λc a w v=>by cases v.1) s _ (List.range' 0 s) F a _ G (by simp) (λi=>?_) ?_ (by simp[m]) List.pairwise_lt_range' (λj oj hj hS=>?_) r1 hw' hg' hd
   . have n1:=qaQ (λr l B=>(h.boxes r l B).1) k2;exact(yL k3).2.2.2.2.1 n1
   . have:=List.all_eq_true.1 c5 i E;unfold qzP at this;simp only[aC,aW]at this;obtain⟨f1,g⟩:=this;refine⟨f1,?_⟩;split at g
     . rename_i o C;simp only[aC,Bool.not_eq_true',Option.isNone_iff_eq_none]at g;exact⟨o,q C,g.1.1.1,g.1.1.2,g.1.2⟩
     . cases g
   . have:=List.all_eq_true.1 c5 i E;unfold qzP at this;simp only[aC,aW]at this;obtain⟨f1,g⟩:=this;rw[at_ hoi]at g;simp only[aC,List.all_eq_true,List.mem_range,Bool.or_eq_true,beq_iff_eq]at g;have hjl:=(Array.getElem?_eq_some_iff.1 H).1;have I:=(g.2 j (by omega)).resolve_left t;rw[at_ H]at I;simp only[Bool.or_eq_true,List.any_eq_true,aC,beq_iff_eq]at I;rcases I with(⟨e',m1,m2,m3⟩|⟨e',m1,m2,m3⟩)|I
     . exact absurd m3 (hw e' (by simpa using m1) m2)
     . exact absurd m3 (hw2 e' (by simpa using m1) m2)
     . simpa using I
   . have:=List.all_eq_true.1 c4 o (aM (at_ C));rw[heq]at this;cases this
   . have h9:=List.all_eq_true.1 c6 y (by simpa using hy);simp only[aC,Bool.not_eq_true']at h9;have h8:=List.all_eq_true.1 h9.2 x (by simpa using hxy);simp only[Bool.or_eq_true]at h8;rcases h8 with(h8|h8)|h8
     . exact .inl (bef h8)
     . exact .inr (.inl h8)
     . exact .inr (.inr ⟨_,h9.1,λz hz=>bef hz,h8⟩)
   . unfold qES at L;simp only[aC,Bool.not_eq_true',List.all_eq_true,List.mem_range,Bool.or_eq_true,beq_iff_eq]at L;exact⟨_,L.1,λz hz=>bef hz,(L.2 x hx).resolve_left t⟩
   . simp only[List.mem_range'_1,Nat.zero_le,true_and,Nat.zero_add];constructor
     . intro E;refine⟨E,?_⟩;rw[aJ,Array.getElem?_eq_getElem (by simp;omega)];simp
     . exact λh=>h.1
   . rw[aJ,Array.getElem?_eq_getElem (by simp)];simp
   . obtain⟨hj1,J⟩:=hS;rw[aJ,Array.getElem?_eq_getElem (by simp;omega)]at J;simp at J
theorem QR {D cx ops F F' c b f}(e:tadraw cx ops.toList F c=some (F',b,f))(i:∀ p∈f,p)(hmix:cx.P.follows .mixedOrders=true){G0 w0 G w a Q id}(h:RelF G w F a.tmps)(j:zS G0 w0 G w)(hd:D a)(k:∀ o∈ops,∀ a V,D a->D (a.put o.dst V))(l:∀ m w',Stands D G0 w0 F' m w'->Q .normal m w'):(Code.region id ops true).wp cx.P Q a w:=by
 have one:∀ {c:Advs},(match tdrun cx ops.toList ops.toList F c with
   |some (F',is,b,f)=>if vw 0 ops.toList&&vS (befL ops.toList []) is 0 is then some (F',b,f)else none
   |none=>none)=some (F',b,f)->(Code.region id ops true).wp cx.P Q a w:=by
  intro c e;cases g:tdrun cx ops.toList ops.toList F c with
  |none=>simp[g]at e
  |some y=>obtain⟨t,is,n,u⟩:=y;simp only[g]at e;obtain⟨q,e⟩:=ze e;simp only[aa,ai]at e;obtain⟨rfl,rfl,rfl⟩:=e;obtain⟨recs,k1,r⟩:=xK g i;exact qek (λd=>(k1 d).1) (λd=>(k1 d).2) hmix h j hd (by simp only[adraw,r,q,if_true]) k l
 unfold tadraw at e;split at e
 . exact qyT e i hmix h j hd k l
 . exact one e
def YG (P:Program)(c:Code)(Q:Exit->Act->World->Prop)(a:Act)(w:World):Prop:=∀ (b:Frame) (k:List Item) (cs:List Frame),∃ e d w',Q e d w'/\Arrives P (lone (b.at a (.code c :: .inLoop c::k)) cs w) b k cs e d w'
theorem YG.loop {P c Q a w}(h:YG P c Q a w):(Code.loop c).wp P Q a w:=by intro b k cs;obtain⟨e,f,w',g,d⟩:=h b k cs;exact⟨e,f,w',g,.of_steps (.one step_loop) d⟩
theorem YG.round {P c Q a w}(h:c.wp P (Exit.then (YG P c Q) Q) a w):YG P c Q a w:=by
 intro b k cs;obtain⟨e,f,g,m,d⟩:=h b (.inLoop c::k) cs;cases e with
 |normal=>obtain⟨n,o,p,j,i⟩:=m b k cs;exact⟨n,o,p,j,.of_steps (Steps.trans d (.one step_inLoop)) i⟩
 |exit id=>exact⟨_,f,g,m,.pass (x:=.inLoop c) rfl (λ_ _=>.inl (by simp)) d⟩
 |goto l=>exact⟨_,f,g,m,.pass (x:=.inLoop c) rfl (λ_ _=>.inl (by simp)) d⟩
 |ret=>exact⟨_,f,g,m,.pass (x:=.inLoop c) rfl (λ_ _=>.inl (by simp)) d⟩
 |panic q=>exact⟨_,f,g,m,.pass (x:=.inLoop c) rfl (λ_ _=>.inl (by simp)) d⟩
 |outgrown=>exact⟨_,f,g,m,.pass (x:=.inLoop c) rfl (λ_ _=>.inl (by simp)) d⟩
def KQ (P:Program):List TItem->(Exit->Act->World->Prop)->Exit->Act->World->Prop
 |[],Q=>Q
 |.code c::K,Q=>Exit.then (c.wp P (KQ P K Q)) (KQ P K Q)
 |.inBlock id::K,Q=>Exit.inBlock id (KQ P K Q)
 |.inLoop b::K,Q=>Exit.then (YG P b (KQ P K Q)) (KQ P K Q)
def Fin (cx:Cx)(b:Func)(K:List TItem)(F:Fr)(res:ARes)(c:List (List Cell)):Prop:=∀ G0 w0 G w a,(∀ d,¬ G0.lv d)->RelF G w F a.tmps->zS G0 w0 G w->a.defers=[]->KQ cx.P K (bodyPost cx.P b (Went G0 w0 res c)) .normal a w
def TStop.ends (cx:Cx)(c:Func)(s:TStop)(res:ARes)(a:List (List Cell)):Prop:=match s with
 |.fin r b=>r=res/\b=a
 |.at K F=>Fin cx c K F res a
theorem qd9 {P Q a w}(h:Q .ret a w):∀ K,KQ P K Q .ret a w
 |[]=>h
 |.code _::K=>qd9 h K
 |.inBlock _::K=>qd9 h K
 |.inLoop _::K=>qd9 h K
theorem Yu {P Q a w b}(h:Q (.panic b) a w):∀ K,KQ P K Q (.panic b) a w
 |[]=>h
 |.code _::K=>Yu h K
 |.inBlock _::K=>Yu h K
 |.inLoop _::K=>Yu h K
theorem qbm {P Q a w id}:∀ {K c:List TItem},YX id K=some c->KQ P c Q .normal a w->KQ P K Q (.exit id) a w
 |[],c,e,_=>by simp[YX]at e
 |.code _::K,c,e,h=>qbm (K:=K) e h
 |.inLoop _::K,c,e,h=>qbm (K:=K) e h
 |.inBlock d::K,c,e,h=>by
  simp only[YX]at e;show if id=d then KQ P K Q .normal a w else KQ P K Q (.exit id) a w
  by_cases b:d=id
  . rw[aD b]at e;rw[aD b.symm];cases e;exact h
  . rw[aF b]at e;rw[aF (λe=>b e.symm)];exact qbm e h
theorem XL {P m A F res B}(e:tfin P m A F=some (.fin res B)){G0 G w0 w}{a:Act}(p:∀ d,¬ G0.lv d)(h:RelF G w F a.tmps)(C:zS G0 w0 G w)(hd:a.defers=[]):a.defers=[]/\∃ v,(results m a.tmps).run P w=.ok v w/\Went G0 w0 res B (.returned v) w:=by
 refine⟨hd,?_⟩;unfold tfin at e;cases j:QS P F m.results.toList with
 |none=>simp[j]at e
 |some z=>
  obtain⟨vs,n⟩:=z;simp only[j]at e;cases f:qjr vs with
  |none=>simp[f]at e
  |some v=>
   cases q:zD n A with
   |none=>simp[f,q]at e
   |some E=>
    simp only[f,q,aa,TStop.fin.injEq]at e;obtain⟨rfl,rfl⟩:=e;obtain⟨im',xss,b,H,I,b2,b3,b4,b5,b6⟩:=QE m.results.toList vs G F n h j;obtain⟨J,K⟩:=qii b4 f;refine⟨_,qei H,?_⟩;obtain⟨L,M⟩:=qdA (sl:=[v]) (ts1:=#[qbe b.toArray]) I b5 q rfl (λk v' t=>by
     cases k with
     |zero=>simp only[aI,aa]at t;subst t;refine⟨rfl,_,rfl,J,λr o c N=>?_⟩;obtain⟨xs,us,u,O,R,S,T⟩:=K r o c N;exact⟨xs,us,u,O,R,S,T⟩
     |succ k=>simp at t) (λs V=>by
      have nouse:∀ {xss:List (List (Option Pl))} {vs:List (Bool×List Cell)} {b:List Value},XH { G with im:=im' } w n xss vs b->some s∈xss.flatten ->
        ((∀ i,s.key.root≠.par i)/\s.key.path=[])/\∀ π,¬ Uses n (s.under π):=by
       intro xss
       induction xss with
       |nil=>intro vs b _ hm;simp at hm
       |cons xs xss W=>
        intro vs b x hm;cases vs with
        |nil=>exact x.elim
        |cons y vs=>
         obtain⟨g,l⟩:=y;cases b with
         |nil=>exact x.elim
         |cons U b=>
          obtain⟨⟨us,j,_⟩,f⟩:=x;rw[List.flatten_cons,List.mem_append]at hm;rcases hm with hm|hm
          . exact j.nouse hm
          . exact W f hm
      exact nouse b4 V)
    exact⟨_,((C.trans b2.w).trans M).full p,_,rfl,L⟩
theorem Xc {F f v c}(g:zD F f=some c){G0 G w0 w}{a:Act}(b:∀ d,¬ G0.lv d)(h:RelF G w F a.tmps)(i:zS G0 w0 G w)(hd:a.defers=[]):a.defers=[]/\Went G0 w0 (.panic v) c (.panicked [{ v,recovered:=false }]) w:=by refine⟨hd,?_⟩;obtain⟨j,k⟩:=qdA (xss:=[]) (sl:=[]) (ts1:=#[]) h (by unfold Nod;simp) g rfl (by simp) (by simp);exact⟨_,(i.trans k).full b,rfl,j⟩
theorem qfx {P a c F s}(e:tfin P a c F=some s):∃ r b,s=.fin r b:=by
 unfold tfin at e;split at e
 .
  split at e
  . simp only[aa]at e;exact⟨_,_,e.symm⟩
  . cases e
 . cases e
theorem qoM {cx M P}(hmix:cx.P.follows .mixedOrders=true){res bx}:∀ {n:Nat} {K:List TItem} {F:Fr} {C:Advs} {s:TStop} {E:List Prop},
  mgo cx M P n K F C=some (s,E)->(∀ p∈E,p)->s.ends cx M res bx->Fin cx M K F res bx
 |0,K,F,C,s,E,e,_,j=>by
  simp only[mgo]at e;split at e
  . simp only[aa,ai]at e;obtain⟨rfl,_⟩:=e;exact j
  . cases e
 |n+1,[],F,C,s,E,e,l,j=>by
  simp only[mgo]at e;split at e
  . split at e
    . rename_i R h;simp only[aa,ai]at e;obtain⟨rfl,_⟩:=e;obtain⟨r,b,rfl⟩:=qfx h;obtain⟨rfl,rfl⟩:=j;exact λG0 w0 G w a f g i hd=>XL h f g i hd
    . cases e
  . cases e
 |n+1,.inLoop b::K,F,C,s,E,e,l,j=>by
  simp only[mgo]at e;split at e
  . have:=qoM hmix e l j;exact λG0 w0 G w a f g i hd=>YG.round (this G0 w0 G w a f g i hd)
  . rw[qa1]at e;have:=qoM hmix e l j;intro G0 w0 G w a f g i hd;obtain⟨G',r1,g1⟩:=qax g [] _;exact YG.round (this G0 w0 G' w a f r1 (i.trans g1) hd)
 |n+1,.inBlock id::K,F,C,s,E,e,l,j=>by simp only[mgo]at e;have:=qoM hmix e l j;exact λG0 w0 G w a f g i hd=>this G0 w0 G w a f g i hd
 |n+1,.code c::K,F,C,s,E,e,l,j=>by
  cases c with
  |skip=>simp only[mgo]at e;have:=qoM hmix e l j;exact λG0 w0 G w a f g i hd=>wp_skip (this G0 w0 G w a f g i hd)
  |region id ops N=>
   simp only[mgo]at e;cases N with
   |true=>
    rw[aD rfl]at e;split at e
    . rename_i A m L H;cases I:mgo cx M P n K A m with
      |none=>simp[I,qf3]at e
      |some y=>obtain⟨R,S⟩:=y;simp only[I,qf3,aa,ai]at e;obtain⟨rfl,rfl⟩:=e;have T:=qoM hmix I (λp J=>l p (aR _ J)) j;intro G0 w0 G w a f g i hd;refine QR H (λp J=>l p (aL _ J)) hmix g i hd (λo _ a V=>QH a o.dst V) λB w' t=>?_;obtain⟨u,G',x,z⟩:=t;exact T G0 w0 G' w' B f z x u
    . cases e
   |false=>
    rw[aF (by simp)]at e;have O:∀ {A:Fr} {r:Option Value} {m:Advs} {L:List Prop},taops cx ops.toList ops.toList F C=some (A,m,L,r)->(∀ p∈L,p)->∀ {Q:Exit->Act->World->Prop} {G0 w0 G w a},
      RelF G w F a.tmps->zS G0 w0 G w->a.defers=[]->(r=none->∀ B w',Stands D0 G0 w0 A B w'->Q .normal B w')->(∀ v,r=some v->∀ B w',Stands D0 G0 w0 A B w'->Q (.panic [{ v,recovered:=false }]) B w') ->
      (Code.region id ops false).wp cx.P Q a w:=by
     intro A r m L H hq Q G0 w0 G w a g i hd U W;obtain⟨recs,k1,k2⟩:=zP H hq;refine wp_region ?_;have X:List.range ops.size=List.range' 0 ops.toList.length:=by rw[List.range_eq_range'];simp
     rw[X];exact qbV (λd=>(k1 d).1) (λd=>(k1 d).2) ops.toList 0 G w F a A r (λk=>by simp) (λo _ a V=>QH a o.dst V) g i hd k2 U W
    split at e
    . rename_i A m L H;cases I:mgo cx M P n K A m with
      |none=>simp[I,qf3]at e
      |some y=>obtain⟨R,S⟩:=y;simp only[I,qf3,aa,ai]at e;obtain⟨rfl,rfl⟩:=e;have T:=qoM hmix I (λp J=>l p (aR _ J)) j;intro G0 w0 G w a f g i hd;refine O H (λp J=>l p (aL _ J)) g i hd (λ_ B w' t=>?_) (λv Y=>by cases Y);obtain⟨u,G',x,z⟩:=t;exact T G0 w0 G' w' B f z x u
    . rename_i A L v H;split at e
      . rename_i bx2 h3;simp only[aa,ai]at e;obtain⟨rfl,rfl⟩:=e;obtain⟨rfl,rfl⟩:=j;intro G0 w0 G w a f g i hd;refine O H l g i hd (λU=>by cases U) (λv' Y B w' t=>?_);cases Y;obtain⟨u,G',x,z⟩:=t;exact Yu (Xc h3 f z x u) K
      . cases e
    . cases e
  |seq a b=>simp only[mgo]at e;have:=qoM hmix e l j;exact λG0 w0 G w a f g i hd=>wp_seq (this G0 w0 G w a f g i hd)
  |cond c a b=>
   simp only[mgo]at e;split at e
   . rename_i Z;have:=qoM hmix e l j;exact λG0 w0 G w a f g i hd=>wp_cond_true (qvz (qx g c) Z) (this G0 w0 G w a f g i hd)
   . rename_i Z;have:=qoM hmix e l j;exact λG0 w0 G w a f g i hd=>wp_cond_false (qvz (qx g c) Z) (this G0 w0 G w a f g i hd)
   . cases e
  |block id b=>simp only[mgo]at e;have:=qoM hmix e l j;exact λG0 w0 G w a f g i hd=>wp_block (Code.wp_mono (λe a w q=>by cases e<;>exact q) (this G0 w0 G w a f g i hd))
  |loop b=>simp only[mgo]at e;have:=qoM hmix e l j;exact λG0 w0 G w a f g i hd=>(this G0 w0 G w a f g i hd:YG cx.P b _ a w).loop
  |exit id=>
   simp only[mgo]at e;split at e
   . rename_i K' hk;have:=qoM hmix e l j;exact λG0 w0 G w a f g i hd=>wp_exit (qbm hk (this G0 w0 G w a f g i hd))
   . cases e
  |ret=>
   simp only[mgo]at e;split at e
   . split at e
     . rename_i R h;simp only[aa,ai]at e;obtain⟨rfl,_⟩:=e;obtain⟨r,b,rfl⟩:=qfx h;obtain⟨rfl,rfl⟩:=j;exact λG0 w0 G w a f g i hd=>wp_ret (qd9 (XL h f g i hd) K)
     . cases e
   . cases e
  |_=>simp[mgo]at e
def fr0 (a:Func)(args:List AV)(b:List (List Cell)):Fr:=⟨args++List.replicate (a.ntmps-args.length) .undef,qd 0 b⟩
theorem qV {P hand f b a cx args g bx' res}(j:P.funcs[f]? = some b)(k:b.body=some a)(n:(b.name == "runtime.NumGoroutine")=false)(o:cx.P=P)(h:Fin cx b [.code a] (fr0 b args g) res bx'):Ev P hand f args g res bx':=by
 subst o;refine⟨⟨b,j,by rw[k];rfl,n⟩,λG w Vs m=>?_⟩;have c:∀ d,¬ G.lv d:=λd hd=>by obtain⟨l,p⟩:=Option.isSome_iff_exists.1 (m.live d hd);obtain⟨i,q,_⟩:=za _ _ _ _ p;cases q
 have r:=qbu m b.ntmps;exact calls_of_wp j k (h G w G w _ c r (Gain.refl G w).w rfl)
end
end
end Ab
end Go.Proofs.YtnnhdcidgfjfpaaGreatDoor
