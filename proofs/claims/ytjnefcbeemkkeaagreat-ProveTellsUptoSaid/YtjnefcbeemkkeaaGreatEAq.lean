/-
  An interpreter of closed calls, and what its words say. No claim stands here.
-/
import GoSem.Claim
import GoSem.ClaimJoined
import GoSem.ClaimMapViews
import Derived.KernelRfl
import Derived.WalkKit
set_option linter.all false
namespace Go.Proofs.YtjnefcbeemkkeaaGreat
namespace E
noncomputable section
def bi {β:Type}(b:Bool)(x y:β):β:=Bool.rec y x b
def cN {β:Type}(z:β)(s:Nat->β)(n:Nat):β:=Nat.rec z (fun m _=>s m) n
def cI {β:Type}(z s:Nat->β)(n:Int):β:=Int.rec z s n
def cL {α β:Type}(z:β)(s:α->List α->β)(l:List α):β:=List.rec z (fun x t _=>s x t) l
def rN {A B:Type}(z:A->B)(s:Nat->(A->B)->A->B)(n:Nat):A->B:=Nat.rec z s n
def rL {α A B:Type}(z:A->B)(s:α->List α->(A->B)->A->B)(l:List α):A->B:=List.rec z s l
def kN (k:IntKind):Nat:=IntKind.rec 0 1 2 3 4 5 6 7 k
def qwn {β:Type}(v:Value)(f:IntKind->Int->β)(z:β):β:=Value.rec (motive_1:=fun _=>β) (motive_2:=fun _=>PUnit) (motive_3:=fun _=>PUnit) (fun _=>z) f (fun _ _=>z) (fun _ _ _=>z) (fun _=>z) (fun _=>z) (fun _ _ _=>z) (fun _=>z) (fun _=>z) (fun _ _ _ _ _=>z) z (fun _ _ _=>z) z (fun _ _=>z) (fun _ _=>z) (fun _ _=>⟨⟩) ⟨⟩ (fun _ _ _ _=>⟨⟩) v
def qxi {β:Type}(v:Value)(f:Bool->β)(z:β):β:=Value.rec (motive_1:=fun _=>β) (motive_2:=fun _=>PUnit) (motive_3:=fun _=>PUnit) f (fun _ _=>z) (fun _ _=>z) (fun _ _ _=>z) (fun _=>z) (fun _=>z) (fun _ _ _=>z) (fun _=>z) (fun _=>z) (fun _ _ _ _ _=>z) z (fun _ _ _=>z) z (fun _ _=>z) (fun _ _=>z) (fun _ _=>⟨⟩) ⟨⟩ (fun _ _ _ _=>⟨⟩) v
def qxk {β:Type}(v:Value)(f:ByteArray->β)(z:β):β:=Value.rec (motive_1:=fun _=>β) (motive_2:=fun _=>PUnit) (motive_3:=fun _=>PUnit) (fun _=>z) (fun _ _=>z) (fun _ _=>z) (fun _ _ _=>z) f (fun _=>z) (fun _ _ _=>z) (fun _=>z) (fun _=>z) (fun _ _ _ _ _=>z) z (fun _ _ _=>z) z (fun _ _=>z) (fun _ _=>z) (fun _ _=>⟨⟩) ⟨⟩ (fun _ _ _ _=>⟨⟩) v
def qvZ {β:Type}(v:Value)(f:Addr->β)(z:β):β:=Value.rec (motive_1:=fun _=>β) (motive_2:=fun _=>PUnit) (motive_3:=fun _=>PUnit) (fun _=>z) (fun _ _=>z) (fun _ _=>z) (fun _ _ _=>z) (fun _=>z) (fun o=>Option.rec z f o) (fun _ _ _=>z) (fun _=>z) (fun _=>z) (fun _ _ _ _ _=>z) z (fun _ _ _=>z) z (fun _ _=>z) (fun _ _=>z) (fun _ _=>⟨⟩) ⟨⟩ (fun _ _ _ _=>⟨⟩) v
def onSl {β:Type}(v:Value)(nil:β)(f:Addr->Nat->Nat->β)(z:β):β:=Value.rec (motive_1:=fun _=>β) (motive_2:=fun _=>PUnit) (motive_3:=fun _=>PUnit) (fun _=>z) (fun _ _=>z) (fun _ _=>z) (fun _ _ _=>z) (fun _=>z) (fun _=>z) (fun o n c=>Option.rec nil (fun a=>f a n c) o) (fun _=>z) (fun _=>z) (fun _ _ _ _ _=>z) z (fun _ _ _=>z) z (fun _ _=>z) (fun _ _=>z) (fun _ _=>⟨⟩) ⟨⟩ (fun _ _ _ _=>⟨⟩) v
def qBv {β:Type}(v:Value)(f:List Value->β)(z:β):β:=Value.rec (motive_1:=fun _=>β) (motive_2:=fun _=>PUnit) (motive_3:=fun _=>PUnit) (fun _=>z) (fun _ _=>z) (fun _ _=>z) (fun _ _ _=>z) (fun _=>z) (fun _=>z) (fun _ _ _=>z) (fun _=>z) (fun _=>z) (fun _ _ _ _ _=>z) z (fun _ _ _=>z) z (fun a _=>Array.rec f a) (fun _ _=>z) (fun _ _=>⟨⟩) ⟨⟩ (fun _ _ _ _=>⟨⟩) v
def qCs {β:Type}(v:Value)(f:List Value->β)(z:β):β:=Value.rec (motive_1:=fun _=>β) (motive_2:=fun _=>PUnit) (motive_3:=fun _=>PUnit) (fun _=>z) (fun _ _=>z) (fun _ _=>z) (fun _ _ _=>z) (fun _=>z) (fun _=>z) (fun _ _ _=>z) (fun _=>z) (fun _=>z) (fun _ _ _ _ _=>z) z (fun _ _ _=>z) z (fun _ _=>z) (fun a _=>Array.rec f a) (fun _ _=>⟨⟩) ⟨⟩ (fun _ _ _ _=>⟨⟩) v
def qyr {β:Type}(v:Value)(nil:β)(f:Nat->β)(z:β):β:=Value.rec (motive_1:=fun _=>β) (motive_2:=fun _=>PUnit) (motive_3:=fun _=>PUnit) (fun _=>z) (fun _ _=>z) (fun _ _=>z) (fun _ _ _=>z) (fun _=>z) (fun _=>z) (fun _ _ _=>z) (fun o=>Option.rec nil f o) (fun _=>z) (fun _ _ _ _ _=>z) z (fun _ _ _=>z) z (fun _ _=>z) (fun _ _=>z) (fun _ _=>⟨⟩) ⟨⟩ (fun _ _ _ _=>⟨⟩) v
def onFn {β:Type}(v:Value)(f:FuncId->List Value->List Value->β)(z:β):β:=Value.rec (motive_1:=fun _=>β) (motive_2:=fun _=>PUnit) (motive_3:=fun _=>PUnit) (fun _=>z) (fun _ _=>z) (fun _ _=>z) (fun _ _ _=>z) (fun _=>z) (fun _=>z) (fun _ _ _=>z) (fun _=>z) (fun _=>z) (fun g a b _ _=>Fn.rec (fun g=>Array.rec (fun a=>Array.rec (fun b=>f g a b) b) a) (fun _=>z) (fun _ _=>z) (fun _ _ _ _=>z) (fun _=>z) g) z (fun _ _ _=>z) z (fun _ _=>z) (fun _ _=>z) (fun _ _=>⟨⟩) ⟨⟩ (fun _ _ _ _=>⟨⟩) v
def onYd {β:Type}(v:Value)(f:Nat->β)(z:β):β:=Value.rec (motive_1:=fun _=>β) (motive_2:=fun _=>PUnit) (motive_3:=fun _=>PUnit) (fun _=>z) (fun _ _=>z) (fun _ _=>z) (fun _ _ _=>z) (fun _=>z) (fun _=>z) (fun _ _ _=>z) (fun _=>z) (fun _=>z) (fun g a b _ _=>Fn.rec (fun _=>z) (fun _=>z) (fun _ _=>z) (fun _ _ _ _=>z) (fun j=>f j) g) z (fun _ _ _=>z) z (fun _ _=>z) (fun _ _=>z) (fun _ _=>⟨⟩) ⟨⟩ (fun _ _ _ _=>⟨⟩) v
def onIf {β:Type}(v:Value)(nil:β)(f:TypeId->Value->β)(z:β):β:=Value.rec (motive_1:=fun _=>β) (motive_2:=fun _=>PUnit) (motive_3:=fun _=>PUnit) (fun _=>z) (fun _ _=>z) (fun _ _=>z) (fun _ _ _=>z) (fun _=>z) (fun _=>z) (fun _ _ _=>z) (fun _=>z) (fun _=>z) (fun _ _ _ _ _=>z) z (fun t v _=>f t v) nil (fun _ _=>z) (fun _ _=>z) (fun _ _=>⟨⟩) ⟨⟩ (fun _ _ _ _=>⟨⟩) v
def qDz {β:Type}(v:Value)(f:List Value->β)(o no:β):β:=Value.rec (motive_1:=fun _=>β) (motive_2:=fun _=>PUnit) (motive_3:=fun _=>PUnit) (fun _=>o) (fun _ _=>o) (fun _ _=>o) (fun _ _ _=>o) (fun _=>o) (fun _=>o) (fun _ _ _=>o) (fun _=>o) (fun _=>no) (fun _ _ _ _ _=>o) o (fun _ _ _=>o) o (fun a _=>Array.rec f a) (fun _ _=>no) (fun _ _=>⟨⟩) ⟨⟩ (fun _ _ _ _=>⟨⟩) v
def natF {β:Type}(n:Nat)(k:Nat->β):β:=cN (k 0) (fun m=>k (Nat.succ m)) n
def intF {β:Type}(n:Int)(k:Int->β):β:=cI (fun n=>natF n fun n=>k (.ofNat n)) (fun n=>natF n fun n=>k (.negSucc n)) n
def qB6 {β:Type}(b:Bool)(k:Bool->β):β:=bi b (k true) (k false)
structure Bx (α:Type) where
 f:α
inductive T (α:Type) where
 |e|l (a:α)|n (a b c d:T α)
def cT {α β:Type}(z:β)(s:T α->T α->T α->T α->β)(t:T α):β:=T.rec z (fun _=>z) (fun a b c d _ _ _ _=>s a b c d) t
def qBt {α β:Type}(z:β)(c:α->β)(t:T α):β:=T.rec z c (fun _ _ _ _ _ _ _ _=>z) t
namespace T
variable {α β:Type}
abbrev GetF (α β:Type):=T α->(α->β)->β
abbrev SetF (α β:Type):=α->T α->(T α->β)->β
def getL (z:α)(t:T α)(c:α->β):β:=qBt (c z) c t
def getA (f:GetF α β)(z:α):GetF α β:=fun t c=>cT (c z) (fun x _ _ _=>f x c) t
def getB (f:GetF α β)(z:α):GetF α β:=fun t c=>cT (c z) (fun _ x _ _=>f x c) t
def getC (f:GetF α β)(z:α):GetF α β:=fun t c=>cT (c z) (fun _ _ x _=>f x c) t
def getD (f:GetF α β)(z:α):GetF α β:=fun t c=>cT (c z) (fun _ _ _ x=>f x c) t
def sel (f:GetF α β)(z:α)(g:Nat):GetF α β:=cN (getA f z) (fun g=>cN (getB f z) (fun g=>cN (getC f z) (fun _=>getD f z) g) g) g
def updA (f:SetF α β):SetF α β:=fun v t c=>cT (f v .e fun x=>c (.n x .e .e .e)) (fun a b cc d=>f v a fun x=>c (.n x b cc d)) t
def updB (f:SetF α β):SetF α β:=fun v t c=>cT (f v .e fun x=>c (.n .e x .e .e)) (fun a b cc d=>f v b fun x=>c (.n a x cc d)) t
def updC (f:SetF α β):SetF α β:=fun v t c=>cT (f v .e fun x=>c (.n .e .e x .e)) (fun a b cc d=>f v cc fun x=>c (.n a b x d)) t
def updD (f:SetF α β):SetF α β:=fun v t c=>cT (f v .e fun x=>c (.n .e .e .e x)) (fun a b cc d=>f v d fun x=>c (.n a b cc x)) t
def upd (f:SetF α β)(g:Nat):SetF α β:=cN (updA f) (fun g=>cN (updB f) (fun g=>cN (updC f) (fun _=>updD f) g) g) g
def gets (z:α)(dp:Nat):Nat->Bx (GetF α β):=rN (fun _=>⟨getL z⟩) (fun _ ih k=>natF (Nat.div k 4) fun k'=>cN ⟨getA (ih k').f z⟩ (fun g=>cN ⟨getB (ih k').f z⟩ (fun g=>cN ⟨getC (ih k').f z⟩ (fun _=>⟨getD (ih k').f z⟩) g) g) (Nat.mod k 4)) dp
def sets (dp:Nat):Nat->Bx (SetF α β):=rN (fun _=>⟨fun v _ c=>c (.l v)⟩) (fun _ ih k=>natF (Nat.div k 4) fun k'=>cN ⟨updA (ih k').f⟩ (fun g=>cN ⟨updB (ih k').f⟩ (fun g=>cN ⟨updC (ih k').f⟩ (fun _=>⟨updD (ih k').f⟩) g) g) (Nat.mod k 4)) dp
def get (z:α)(dp:Nat):Nat->GetF α β:=rN (fun _=>getL z) (fun _ ih k=>natF (Nat.div k 4) fun k'=>sel (ih k') z (Nat.mod k 4)) dp
def set (dp:Nat):Nat->SetF α β:=rN (fun _ v _ c=>c (.l v)) (fun _ ih k=>natF (Nat.div k 4) fun k'=>upd (ih k') (Nat.mod k 4)) dp
end T
inductive X where
 |norm|ret|exit (id:Nat)|pan (v:Value)
inductive O where
 |dead
 |cells (ro:Nat) (t:TypeId) (c:List Value)
 |map (es:List MapEntry) (clock:Nat)
 |siter (s:List UInt8) (pos:Nat)
 |miter (m:Nat) (since:Nat) (seen:List Nat) (stepped:Nat)
 |loop (F:T Value) (dp nt:Nat) (ps:List Tmp) (as bo:Code) (st:Nat) (pend:X)
def onCells {β:Type}(o:O)(f:Nat->TypeId->List Value->β)(z:β):β:=O.rec z f (fun _ _=>z) (fun _ _=>z) (fun _ _ _ _=>z) (fun _ _ _ _ _ _ _ _=>z) o
def qwb {β:Type}(o:O)(f:List MapEntry->Nat->β)(z:β):β:=O.rec z (fun _ _ _=>z) f (fun _ _=>z) (fun _ _ _ _=>z) (fun _ _ _ _ _ _ _ _=>z) o
def qyq {β:Type}(o:O)(f:T Value->Nat->Nat->List Tmp->Code->Code->Nat->X->β)(z:β):β:=O.rec z (fun _ _ _=>z) (fun _ _=>z) (fun _ _=>z) (fun _ _ _ _=>z) f o
inductive M where
 |mk (next:Nat) (t:T O)
def cM {β:Type}(f:Nat->T O->β)(m:M):β:=M.rec f m
def hd:Nat:=7
def hdN:Nat:=16383
variable {β:Type}
def M.get (i:Nat)(m:M)(c:O->β):β:=cM (fun _ t=>T.get .dead hd i t c) m
def M.put (i:Nat)(o:O)(m:M)(c:M->β):β:=cM (fun n t=>T.set hd i o t fun t=>c (.mk n t)) m
def M.new (o:O)(m:M)(c:Nat->M->β)(no:β):β:=cM (fun n t=>bi (Nat.blt n hdN) (T.set hd n o t fun t=>natF (Nat.succ n) fun n'=>c n (.mk n' t)) no) m
def M.next:M->Nat|.mk n _=>n
def M.cells (i:Nat)(m:M)(c:Nat->TypeId->List Value->β)(no:β):β:=m.get i fun o=>onCells o c no
def qxw {α:Type}(k:Nat):List α->List α:=rN (fun l=>l) (fun _ ih l=>cL [] (fun _ t=>ih t) l) k
def qyz {α:Type}(k:Nat)(l:List α)(c:List α->β)(no:β):β:=rN (A:=List α) (B:=(List α->β)->β) (fun _ c=>c []) (fun _ ih l c=>cL no (fun x t=>ih t fun r=>c (x::r)) l) k l c
def layV {α:Type}(v:List α):List α->(List α->β)->β->β:=rL (fun l c _=>c l) (fun x _ ih l c no=>cL no (fun _ t=>ih t (fun r=>c (x::r)) no) l) v
def layF {α:Type}(k:Nat)(v l:List α)(c:List α->β)(no:β):β:=rN (A:=List α) (B:=(List α->β)->β) (fun l c=>layV v l c no) (fun _ ih l c=>cL no (fun x t=>ih t fun r=>c (x::r)) l) k l c
def appF {α:Type}(l m:List α)(c:List α->β):β:=rL (fun c=>c m) (fun x _ ih c=>ih fun r=>c (x::r)) l c
def lenF {α:Type}(l:List α)(c:Nat->β):β:=rL (fun n=>natF n c) (fun _ _ ih n=>ih (Nat.succ n)) l 0
def qzk (v:Value)(c:List Value->β)(no:β):β:=qDz v c (c [v]) no
def undef:Value:=.tuple #[]
def room:Nat:=1048576
inductive Out where
 |no (why:Nat)
 |go (x:X) (F:T Value) (m:M)
inductive CO where
 |no (why:Nat)
 |ret (v:Value) (m:M)
 |pan (v:Value) (m:M)
inductive QV where
 |no (why:Nat)
 |val (v:Value)
inductive Tg where
 |fn (f:Nat)|yd (j:Nat)
def onGd {β:Type}(want:Bool)(v:Value)(a b z:β):β:=qxi v (fun t=>bi t (bi want a b) (bi want b a)) (qCs v (fun _=>b) z)
def onQV {β:Type}(q:QV)(f:Value->β)(z:Nat->β):β:=QV.rec z f q
def onCO {β:Type}(q:CO)(f g:Value->M->β)(z:Nat->β):β:=CO.rec z f g q
def qwo {β:Type}(q:Out)(f:X->T Value->M->β)(z:Nat->β):β:=Out.rec z f q
def onTg {β:Type}(t:Tg)(f g:Nat->β):β:=Tg.rec f g t
def endX {β:Type}(x:X)(f:β)(g:X->β)(z:β):β:=X.rec f (g .ret) (fun i=>g (.exit i)) (fun _=>z) x
def onXP {β:Type}(x:X)(f:β)(g:Value->β)(z:β):β:=X.rec f f (fun _=>z) g x
def onX {β:Type}(x:X)(f z:β):β:=X.rec f z (fun _=>z) (fun _=>z) x
def inX {β:Type}(id:Nat)(x:X)(f:X->β):β:=X.rec (f .norm) (f .ret) (fun i=>bi (Nat.beq i id) (f .norm) (f (.exit i))) (fun v=>f (.pan v)) x
abbrev Rec:=Tg->List Value->M->CO
variable (P:Program)
def sc:Value->Bool
 |.bool _|.int _ _|.float _ _|.string _|.pointer none|.slice none 0 0|.map none|.nilFunc|.nilIface=>true
 |_=>false
def qvq:Value->Bool
 |.agg ⟨l⟩=>l.all sc
 |v=>sc v
def flat:Value->Bool
 |.iface _ v=>qvq v
 |v=>qvq v
def unk:Value:=.chan none
abbrev EvF (β:Type):=T Value->(Value->β)->β
def ev (P:Program)(dp:Nat):Operand->Bx (EvF β)
 |.tmp t=>bi (Nat.blt t (4 ^ dp)) (T.gets undef dp t) ⟨fun _ c=>c unk⟩
 |.const v=>bi (flat v) ⟨fun _ c=>c v⟩ ⟨fun _ c=>c unk⟩
 |.global _=>⟨fun _ c=>c unk⟩
 |.func f=>⟨fun _ c=>c (.func (.func f) #[] #[])⟩
def evs (dp:Nat):List Operand->T Value->(List Value->β)->β
 |[],_,c=>c []
 |x::l,F,c=>(ev P dp x).f F fun v=>evs dp l F fun r=>c (v::r)
def szT (t:TypeId):Nat:=match P.info? t with|some i=>i.size|none=>0
def aggT (t:TypeId):Bool:=match P.underlying t with|some (.struct _)|some (.array _ _)=>true|_=>false
def byT (t:TypeId):Nat:=match P.info? t with|some i=>i.bytes|none=>0
def okT (t:TypeId):Bool:=(P.underlying t).isSome
def zV (t:TypeId):Option Value:=match P.info? t with
 |some i=>match i.zero with
  |some z=>bi (qvq z) (bi (Nat.beq z.cells.size i.size) (some z) none) none
  |none=>none
 |none=>none
def zL (t:TypeId):Option (List Value):=(zV P t).map fun z=>z.cells.toList
def u8F (b:UInt8)(c:UInt8->β):β:=natF b.toNat fun n=>c (.ofNat n)
def qAe (l:List UInt8)(c:List UInt8->β):β:=rL (fun c=>c []) (fun x _ ih c=>u8F x fun x=>ih fun r=>c (x::r)) l c
def strF (s:ByteArray)(c:Value->β):β:=qAe s.data.toList fun l=>c (.string ⟨⟨l⟩⟩)
def valF (v:Value)(c:Value->β)(no:β):β:=match v with
 |.bool b=>qB6 b fun b=>c (.bool b)
 |.int k n=>intF n fun n=>c (.int k n)
 |.float k n=>natF n fun n=>c (.float k n)
 |.string s=>strF s c
 |.pointer none=>c (.pointer none)
 |_=>no
def qo {α:Type}:Sem α->Option α
 |.pure a=>some a
 |.program k=>qo (k P)
 |.mark _ k=>qo k
 |_=>none
def qy2 (s:Sem Value):QV:=match qo P s with
 |some v=>valF v (fun v=>.val v) (.no 3)
 |none=>.no 4
def qI (k:IntKind)(n:Int):QV:=intF n fun n=>.val (.int k n)
def qB (b:Bool):QV:=qB6 b fun b=>.val (.bool b)
def qzp:Nat:=9223372036854775807
def wrap64 (n:Int):QV:=cI (fun m=>bi (Nat.ble m qzp) (natF m fun m=>.val (.int .i64 (.ofNat m))) (qI .i64 (IntKind.i64.wrap (.ofNat m)))) (fun m=>bi (Nat.ble m qzp) (natF m fun m=>.val (.int .i64 (.negSucc m))) (qI .i64 (IntKind.i64.wrap (.negSucc m)))) n
def wrapN (k:IntKind):Bx (Int->QV):=bi (Nat.beq (kN k) 3) ⟨wrap64⟩ ⟨fun n=>qI k (k.wrap n)⟩
def ltI (x y:Int):Bool:=cI (fun a=>cI (fun b=>Nat.blt a b) (fun _=>false) y) (fun a=>cI (fun _=>true) (fun b=>Nat.blt b a) y) x
def eqI (x y:Int):Bool:=cI (fun a=>cI (fun b=>Nat.beq a b) (fun _=>false) y) (fun a=>cI (fun _=>false) (fun b=>Nat.beq a b) y) x
def notB (b:Bool):Bool:=bi b false true
def andB (a b:Bool):Bool:=bi a b false
def orB (a b:Bool):Bool:=bi a true b
def qwQ (t:TypeId):Bool:=match P.underlying t with
 |some (.struct fs)=>(match fs[0]? with
  |some f=>(match P.underlying f.type with
   |some (.pointer u)=>andB (Nat.beq u t) (notB (Nat.beq (szT P t) 0))
   |_=>false)
  |none=>false)
 |_=>false
def qAA (k:IntKind):BinOp->Bx (Int->Int->QV)
 |.add=>⟨fun x y=>(wrapN k).f (Int.add x y)⟩
 |.sub=>⟨fun x y=>(wrapN k).f (Int.sub x y)⟩
 |.mul=>⟨fun x y=>(wrapN k).f (Int.mul x y)⟩
 |.eql=>⟨fun x y=>qB (eqI x y)⟩
 |.neq=>⟨fun x y=>qB (notB (eqI x y))⟩
 |.lss=>⟨fun x y=>qB (ltI x y)⟩
 |.leq=>⟨fun x y=>qB (notB (ltI y x))⟩
 |.gtr=>⟨fun x y=>qB (ltI y x)⟩
 |.geq=>⟨fun x y=>qB (notB (ltI x y))⟩
 |_=>⟨fun _ _=>.no 1⟩
def eqS (a b:List UInt8):Bool:=rL (A:=List UInt8) (B:=Bool) (fun b=>cL true (fun _ _=>false) b) (fun x _ ih b=>cL false (fun y b=>bi (Nat.beq x.toNat y.toNat) (ih b) false) b) a b
def bytes (s:ByteArray):List UInt8:=s.data.toList
def qyx:BinOp->Bx (ByteArray->ByteArray->QV)
 |.add=>⟨fun x y=>appF (bytes x) (bytes y) fun l=>lenF l fun n=>bi (Nat.ble n room) (.val (.string ⟨⟨l⟩⟩)) (.no 2)⟩
 |.eql=>⟨fun x y=>qB (eqS (bytes x) (bytes y))⟩
 |.neq=>⟨fun x y=>qB (notB (eqS (bytes x) (bytes y)))⟩
 |_=>⟨fun _ _=>.no 2⟩
def nilK:TypeDesc->Value->Option Bool
 |.pointer _,.pointer o=>some o.isNone
 |.slice _,.slice o _ _=>some o.isNone
 |.map _ _,.map o=>some o.isNone
 |.func _ _ _,.nilFunc=>some true
 |.func _ _ _,.func _ _ _=>some false
 |.interface _,.nilIface=>some true
 |.interface _,.iface _ _=>some false
 |_,_=>none
def nilC (d:TypeDesc):Operand->Bool
 |.const v=>(match nilK d v with|some b=>b|none=>false)
 |_=>false
def isEq:BinOp->Bool
 |.eql|.neq=>true
 |_=>false
def easy:BinOp->Bool
 |.add|.sub|.mul|.eql|.neq|.lss|.leq|.gtr|.geq=>true
 |_=>false
def qC2:BinOp->Bool
 |.add|.eql|.neq=>true
 |_=>false
def onK (k0:IntKind)(v:Value)(f:Int->QV):QV:=qwn v (fun k n=>bi (Nat.beq (kN k) (kN k0)) (f n) (.no 7)) (.no 7)
def qwK (op:BinOp)(t:TypeId)(x y:Operand)(a b:Value):QV:=match flat a&&flat b with
 |true=>qy2 P (do eqGuard op t x y a b;binOp op t a b)
 |false=>.no 5
def qym:BinOp->Bool
 |.eql=>true
 |_=>false
def qDB (a b:Value)(c:Bool->QV)(no:QV):QV:=qvZ a (fun a=>qvZ b (fun b=>bi (Nat.beq a.block b.block) (c (Nat.beq a.off b.off)) no) no) no
def qAn (op:BinOp)(r:Bool):QV:=qB (bi (qym op) r (notB r))
def binQ (op:BinOp)(t:TypeId)(x y:Operand):Bx (Value->Value->QV):=match P.underlying t with
 |none=>⟨fun _ _=>.no 5⟩
 |some d=>
  bi (andB (isEq op) (nilC d y)) ⟨fun a _=>match nilK d a with|some r=>qAn op r|none=>.no 6⟩ <|
  bi (andB (isEq op) (nilC d x)) ⟨fun _ a=>match nilK d a with|some r=>qAn op r|none=>.no 6⟩ <|
  match d with
  |.int k=>bi (easy op) ⟨fun a b=>onK k a fun m=>onK k b fun n=>(qAA k op).f m n⟩ ⟨qwK P op t x y⟩
  |.string=>bi (qC2 op) ⟨fun a b=>qxk a (fun m=>qxk b (fun n=>(qyx op).f m n) (.no 5)) (.no 5)⟩ ⟨qwK P op t x y⟩
  |.pointer e=>bi (andB (isEq op) (notB (Nat.beq (szT P e) 0))) ⟨fun a b=>qDB a b (qAn op) (.no 4)⟩ ⟨qwK P op t x y⟩
  |_=>⟨qwK P op t x y⟩
def qy1 (t:TypeId):Bx (Nat->List Value->QV):=bi (notB (okT P t)) ⟨fun _ _=>.no 8⟩<|bi (aggT P t) ⟨fun off l=>qyz (szT P t) (qxw off l) (fun r=>.val (.agg ⟨r⟩)) (.no 8)⟩ ⟨fun off l=>cL (.no 9) (fun x _=>.val x) (qxw off l)⟩
def qyG (v:Value)(c:Nat->QV):QV:=qwn v (fun _ n=>cI c (fun _=>.no 10) n) (.no 11)
def qwX (t:TypeId)(f:Nat):Option (Nat×TypeId):=match P.underlying t with
 |some (.struct fs)=>match fs[f]? with|some x=>some (x.offset,x.type)|none=>none
 |_=>none
def qwU (dp:Nat)(place:Nat->Option (Nat×Nat)):List (Nat×Operand)->Bx (T Value->List Value->(List Value->QV)->QV)
 |[]=>⟨fun _ l c=>c l⟩
 |(i,x)::r=>match place i with
  |some (off,sz)=>⟨fun F l c=>(ev P dp x).f F fun v=>qzk v (fun v=>lenF v fun n=>bi (Nat.beq n sz) (layF off v l (fun l=>(qwU dp place r).f F l c) (.no 12)) (.no 13)) (.no 13)⟩
  |none=>⟨fun _ _ _=>.no 14⟩
def placeOf (t:TypeId):Nat->Option (Nat×Nat):=match P.underlying t with
 |some (.struct fs)=>fun i=>match fs[i]? with|some x=>some (x.offset,szT P x.type)|none=>none
 |some (.array _ e)=>fun i=>some (i*szT P e,szT P e)
 |_=>fun _=>none
def qzO (i k:Nat):QV:=natF k fun k=>.val (.pointer (some ⟨i,k,none⟩))
def ldQ (t:TypeId)(i k:Nat)(m:M):QV:=m.cells i (fun _ _ c=>(qy1 P t).f k c) (.no 15)
def qEa (s:List UInt8)(i:Nat):QV:=cL (.no 16) (fun b _=>natF b.toNat fun n=>.val (.int .u8 (.ofNat n))) (qxw i s)
def bound (dp:Nat)(x:Option Operand):Bx (T Value->Nat->(Nat->QV)->QV):=match x with
 |none=>⟨fun _ z c=>c z⟩
 |some x=>⟨fun F _ c=>(ev P dp x).f F fun v=>qyG v c⟩
def subQ (l h n:Nat)(c:QV):QV:=bi (Nat.ble l h) (bi (Nat.ble h n) c (.no 17)) (.no 17)
def qbk (k v:Value):Option Bool:=match k,v with
 |.int j a,.int k b=>bi (Nat.beq (kN j) (kN k)) (some (eqI a b)) none
 |.string a,.string b=>some (eqS (bytes a) (bytes b))
 |.bool a,.bool b=>some (a==b)
 |_,_=>none
def qdG (t:TypeId):Bx (Value->Bool):=match P.underlying t with
 |some (.int k)=>⟨fun v=>qwn v (fun j _=>Nat.beq (kN j) (kN k)) false⟩
 |some .string=>⟨fun v=>qxk v (fun _=>true) false⟩
 |some .bool=>⟨fun v=>qxi v (fun _=>true) false⟩
 |_=>⟨fun _=>false⟩
def qCb (k:Value)(es:List MapEntry)(c:Option Value->β)(no:β):β:=rL (A:=Option Value->β) (B:=β) (fun c=>c none) (fun e _ ih c=>match qbk k e.key with
 |some true=>c (some e.val)
 |some false=>ih c
 |none=>no) es c
def putE (k v:Value)(clock:Nat)(es:List MapEntry)(c:List MapEntry->Bool->β)(no:β):β:=rL (A:=List MapEntry->Bool->β) (B:=β) (fun c=>c [⟨k,v,clock⟩] true) (fun e t ih c=>match qbk k e.key with
 |some true=>c (⟨k,v,e.born⟩::t) false
 |some false=>ih fun es b=>c (e::es) b
 |none=>no) es c
def sKey (t:TypeId):Bool:=match P.underlying t with|some (.struct _)=>true|_=>false
def sEq (kt:TypeId)(k v:Value):Option Bool:=match qvq k&&qvq v with
 |true=>qo P (Op.equal kt k v)
 |false=>none
def sChk (kt:TypeId)(e:Bool)(k:Value):Bool:=match qo P (Instr.checkKey e 10000 kt k)with
 |some _=>true
 |none=>false
def qCc (kt:TypeId)(k:Value)(es:List MapEntry)(c:Option Value->β)(no:β):β:=rL (A:=Option Value->β) (B:=β) (fun c=>c none) (fun e _ ih c=>match sEq P kt k e.key with
 |some true=>c (some e.val)
 |some false=>ih c
 |none=>no) es c
def putS (kt:TypeId)(k v:Value)(clock:Nat)(es:List MapEntry)(c:List MapEntry->Bool->β)(no:β):β:=rL (A:=List MapEntry->Bool->β) (B:=β) (fun c=>c [⟨k,v,clock⟩] true) (fun e t ih c=>match sEq P kt k e.key with
 |some true=>bi (Instr.sameBits 10000 e.key k) (c (⟨k,v,e.born⟩::t) false) no
 |some false=>ih fun es b=>c (e::es) b
 |none=>no) es c
def delS (kt:TypeId)(k:Value)(es:List MapEntry)(c:List MapEntry->β)(no:β):β:=rL (A:=List MapEntry->β) (B:=β) (fun c=>c []) (fun e t ih c=>match sEq P kt k e.key with
 |some true=>c t
 |some false=>ih fun es=>c (e::es)
 |none=>no) es c
def emp (es:List MapEntry):Bool:=cL true (fun _ _=>false) es
def mapT (t:TypeId):Option (TypeId×TypeId):=match P.underlying t with|some (.map k e)=>some (k,e)|_=>none
def qCp (t:TypeId)(ok:Bool):Bx (M->Value->Value->QV):=match mapT P t with
 |none=>⟨fun _ _ _=>.no 18⟩
 |some (kt,et)=>
  let miss:QV:=match zV P et with
   |some z=>bi ok (.val (.tuple #[z,.bool false])) (.val z)
   |none=>.no 19
  bi (sKey P kt) ⟨fun m x k=>bi (qvq k) (qyr x (.no 21) (fun i=>m.get i fun o=>qwb o (fun es _=>bi (sChk P kt (emp es) k) (qCc P kt k es (fun r=>match r with
    |some v=>bi ok (.val (.tuple #[v,.bool true])) (.val v)
    |none=>miss) (.no 21)) (.no 21)) (.no 19)) (.no 20)) (.no 21)⟩
  ⟨fun m x k=>bi ((qdG P kt).f k) (qyr x miss (fun i=>m.get i fun o=>qwb o (fun es _=>qCb k es (fun r=>match r with
    |some v=>bi ok (.val (.tuple #[v,.bool true])) (.val v)
    |none=>miss) (.no 21)) (.no 19)) (.no 20)) (.no 21)⟩
def qAg (l:List Value)(c:List UInt8->QV):QV:=rL (A:=List UInt8->QV) (B:=QV) (fun c=>c []) (fun x _ ih c=>qwn x (fun k n=>bi (Nat.beq (kN k) 4) (cI (fun b=>natF b fun b=>bi (Nat.blt b 256) (ih fun r=>c (.ofNat b::r)) (.no 28)) (fun _=>.no 28) n) (.no 28)) (.no 28)) l c
abbrev QF:=T Value->M->QV
def noQ (n:Nat):Bx QF:=⟨fun _ _=>.no n⟩
def lenQ (t:TypeId)(x:Operand)(dp:Nat):Bx QF:=match P.underlying t with
 |some .string=>⟨fun F _=>(ev P dp x).f F fun v=>qxk v (fun s=>lenF (bytes s) fun n=>.val (.int .i64 (.ofNat n))) (.no 63)⟩
 |some (.slice _)=>⟨fun F _=>(ev P dp x).f F fun v=>onSl v (.val (.int .i64 (.ofNat 0))) (fun _ n _=>.val (.int .i64 (.ofNat n))) (.no 64)⟩
 |some (.array n _)=>⟨fun _ _=>natF n fun n=>.val (.int .i64 (.ofNat n))⟩
 |some (.map _ _)=>⟨fun F m=>(ev P dp x).f F fun v=>qyr v (.val (.int .i64 (.ofNat 0))) (fun i=>m.get i fun o=>qwb o (fun es _=>lenF es fun n=>.val (.int .i64 (.ofNat n))) (.no 65)) (.no 66)⟩
 |_=>noQ 67
def isU8 (t:TypeId):Bool:=match P.underlying t with|some (.int .u8)=>true|_=>false
def qBi (s t:TypeId)(x:Operand)(dp:Nat):Bx QF:=match P.underlying s,P.underlying t with
 |some (.int _),some (.int k)=>⟨fun F _=>(ev P dp x).f F fun v=>qwn v (fun _ n=>(wrapN k).f n) (.no 27)⟩
 |some .string,some .string=>⟨fun F _=>(ev P dp x).f F fun v=>qxk v (fun s=>.val (.string s)) (.no 27)⟩
 |some (.slice el),some .string=>bi (notB (isU8 P el)) (noQ 32) ⟨fun F m=>(ev P dp x).f F fun v=>onSl v (.val (.string ⟨⟨[]⟩⟩)) (fun a n _=>m.cells a.block (fun _ _ c=>qyz n (qxw a.off c) (fun l=>qAg l fun l=>.val (.string ⟨⟨l⟩⟩)) (.no 29)) (.no 30)) (.no 31)⟩
 |some (.slice _),some (.slice _)=>noQ 32
 |some .string,some (.slice _)=>noQ 33
 |some (.pointer e),some .unsafePointer=>bi (Nat.beq (szT P e) 0) (noQ 34) ⟨fun F m=>(ev P dp x).f F fun v=>qvZ v (fun a=>m.cells a.block (fun _ _ c=>lenF c fun n=>bi (Nat.blt a.off n) (.val (.pointer (some a))) (.no 34)) (.no 34)) (.no 34)⟩
 |some .unsafePointer,some (.pointer e)=>bi (notB (qwQ P e)) (noQ 34) ⟨fun F m=>(ev P dp x).f F fun v=>qvZ v (fun a=>m.cells a.block (fun _ t c=>lenF c fun n=>bi (andB (Nat.beq t e) (andB (Nat.beq a.off 0) (Nat.ble (szT P e) n))) (.val (.pointer (some a))) (.no 34)) (.no 34)) (.no 34)⟩
 |_,_=>⟨fun F _=>(ev P dp x).f F fun v=>match flat v with|true=>qy2 P (convert s t v)|false=>.no 34⟩
def qzH (t:TypeId)(x:Operand)(lo hi:Option Operand)(dp:Nat):Bx QF:=match P.underlying t with
 |some .string=>⟨fun F _=>(ev P dp x).f F fun v=>qxk v (fun s=>(bound P dp lo).f F 0 fun l=>lenF (bytes s) fun n=>(bound P dp hi).f F n fun h=>subQ l h n (natF (Nat.sub h l) fun d=>qyz d (qxw l (bytes s)) (fun r=>.val (.string ⟨⟨r⟩⟩)) (.no 37))) (.no 38)⟩
 | some (.slice e)=>bi (notB (okT P e)) (noQ 41) ⟨fun F _=>(ev P dp x).f F fun v=>onSl v ((bound P dp lo).f F 0 fun l=>(bound P dp hi).f F 0 fun h=>subQ l h 0 (.val (.slice none 0 0)))
   (fun a n z=>(bound P dp lo).f F 0 fun l=>(bound P dp hi).f F n fun h=>subQ l h n (bi (Nat.beq z (szT P e)) (natF (Nat.sub h l) fun d=>natF (Nat.add a.off (Nat.mul l z)) fun k=>.val (.slice (some ⟨a.block,k,none⟩) d z)) (.no 39))) (.no 39)⟩
 |some (.array n e)=>bi (notB (okT P e)) (noQ 41) ⟨fun F m=>(ev P dp x).f F fun v=>qvZ v (fun a=>m.cells a.block (fun _ _ c=>lenF c fun len=>bi (Nat.ble (Nat.add a.off (Nat.mul n (szT P e))) len) ((bound P dp lo).f F 0 fun l=>(bound P dp hi).f F n fun h=>subQ l h n (natF (Nat.sub h l) fun d=>natF (Nat.add a.off (Nat.mul l (szT P e))) fun k=>natF (szT P e) fun z=>.val (.slice (some ⟨a.block,k,none⟩) d z))) (.no 40)) (.no 40)) (.no 40)⟩
 |_=>noQ 41
def ixQ (t:TypeId)(x ix:Operand)(dp:Nat):Bx QF:=match P.underlying t with
 |some (.array n e)=>bi (notB (okT P e)) (noQ 51) ⟨fun F _=>(ev P dp x).f F fun v=>qvZ v (fun a=>(ev P dp ix).f F fun j=>qyG j fun j=>bi (Nat.blt j n) (qzO a.block (Nat.add a.off (Nat.mul j (szT P e)))) (.no 47)) (.no 48)⟩
 |some (.slice e)=>bi (notB (okT P e)) (noQ 51) ⟨fun F _=>(ev P dp x).f F fun v=>onSl v (.no 49) (fun a n _=>(ev P dp ix).f F fun j=>qyG j fun j=>bi (Nat.blt j n) (qzO a.block (Nat.add a.off (Nat.mul j (szT P e)))) (.no 49)) (.no 50)⟩
 |_=>noQ 51
def qyl (t:TypeId)(x ix:Operand)(dp:Nat):Bx QF:=match P.underlying t with
 |some (.array n e)=>⟨fun F _=>(ev P dp x).f F fun v=>qBv v (fun l=>(ev P dp ix).f F fun j=>qyG j fun j=>bi (Nat.blt j n) (natF (Nat.mul j (szT P e)) fun o=>(qy1 P e).f o l) (.no 52)) (.no 53)⟩
 |some .string=>⟨fun F _=>(ev P dp x).f F fun v=>qxk v (fun s=>(ev P dp ix).f F fun j=>qyG j fun j=>qEa (bytes s) j) (.no 54)⟩
 |_=>noQ 55
def qya (t:TypeId)(ps:List (Nat×Operand))(dp:Nat):Bx QF:=match zL P t with
 |none=>noQ 23
 |some z=>match P.underlying t with
  |some (.struct fs)=>bi (fs.toList.all fun f=>okT P f.type) ⟨fun F _=>(qwU P dp (placeOf P t) ps).f F z fun l=>.val (.agg ⟨l⟩)⟩ (noQ 23)
  |some (.array _ e)=>bi (okT P e) ⟨fun F _=>(qwU P dp (placeOf P t) ps).f F z fun l=>.val (.agg ⟨l⟩)⟩ (noQ 23)
  |_=>noQ 23
def quiet (dp:Nat)(op:Op):Bx QF:=match op with
 |.move x|.assign x=>⟨fun F _=>(ev P dp x).f F fun v=>.val v⟩
 |.pick c a b=>⟨fun F _=>(ev P dp c).f F fun c=>qxi c (fun t=>bi t ((ev P dp a).f F fun v=>.val v) ((ev P dp b).f F fun v=>.val v)) (.no 22)⟩
 |.build t ps=>qya P t ps.toList dp
 |.load t a=>⟨fun F m=>(ev P dp a).f F fun v=>qvZ v (fun a=>ldQ P t a.block a.off m) (.no 24)⟩
 |.nilCheck x=>⟨fun F _=>(ev P dp x).f F fun v=>qvZ v (fun a=>.val (.pointer (some a))) (onFn v (fun f a b=>.val (.func (.func f) ⟨a⟩ ⟨b⟩)) (onYd v (fun j=>.val (.func (.yield j) ⟨[]⟩ ⟨[]⟩)) (onIf v (.no 25) (fun t v=>.val (.iface t v)) (.no 25))))⟩
 |.binOp op t x y _=>⟨fun F _=>(ev P dp x).f F fun a=>(ev P dp y).f F fun b=>(binQ P op t x y).f a b⟩
 |.unOp op _ x=>match op with
  |.not=>⟨fun F _=>(ev P dp x).f F fun v=>qxi v (fun b=>qB (notB b)) (.no 26)⟩
  |op=>⟨fun F _=>(ev P dp x).f F fun v=>match flat v with|true=>qy2 P (Op.unary op v)|false=>.no 26⟩
 |.convert s t x=>qBi P s t x dp
 |.makeInterface t x=>match P.underlying t with
  |some (.interface _)=>noQ 35
  |some _=>⟨fun F _=>(ev P dp x).f F fun v=>.val (.iface t v)⟩
  |none=>noQ 36
 |.makeFunc (.func f) a b=>⟨fun F _=>evs P dp a.toList F fun a=>evs P dp b.toList F fun b=>.val (.func (.func f) ⟨a⟩ ⟨b⟩)⟩
 |.slice t x lo hi none=>qzH P t x lo hi dp
 |.fieldAddr t x f=>match qwX P t f with
  |some (o,ft)=>bi (Nat.beq (szT P ft) 0) (noQ 42) ⟨fun F _=>(ev P dp x).f F fun v=>qvZ v (fun a=>qzO a.block (Nat.add a.off o)) (.no 43)⟩
  |none=>noQ 44
 |.field t x f=>match qwX P t f with
  |some (o,ft)=>⟨fun F _=>(ev P dp x).f F fun v=>qBv v (fun l=>(qy1 P ft).f o l) (.no 45)⟩
  |none=>noQ 46
 |.indexAddr t x ix=>ixQ P t x ix dp
 |.index t x ix=>qyl P t x ix dp
 |.lookup t x k ok=>⟨fun F m=>(ev P dp x).f F fun v=>(ev P dp k).f F fun k=>(qCp P t ok).f m v k⟩
 |.typeAssert x xt t ok=>match P.underlying t with
  |some (.interface _)=>noQ 56
  | some _=>let miss:QV:=match zV P t with
    |some z=>bi ok (.val (.tuple #[z,.bool false])) (.no 57)
    |none=>.no 57
   ⟨fun F _=>(ev P dp x).f F fun v=>onIf v miss (fun u v=>bi (Nat.beq u t) (bi ok (.val (.tuple #[v,.bool true])) (.val v)) miss) (.no 59)⟩
  |none=>noQ 60
 |.extract x i=>⟨fun F _=>(ev P dp x).f F fun v=>qCs v (fun l=>cL (.no 61) (fun v _=>.val v) (qxw i l)) (.no 62)⟩
 |.call { callee:=.builtin .len,args:=⟨[x]⟩,argTypes:=⟨t::_⟩ }=>lenQ P t x dp
 |.call { callee:=.builtin .cap,args:=⟨[x]⟩,argTypes:=⟨t::_⟩ }=>match P.underlying t with
  |some (.slice _)=>⟨fun F _=>(ev P dp x).f F fun v=>onSl v (.val (.int .i64 (.ofNat 0))) (fun _ _ _=>.no 72) (.no 72)⟩
  |_=>noQ 72
 |.call { callee:=.builtin .unsafeSliceData,args:=⟨[x]⟩,.. }=>⟨fun F _=>(ev P dp x).f F fun v=>onSl v (.val (.pointer none)) (fun a n _=>bi (Nat.beq n 0) (.no 71) (.val (.pointer (some a)))) (.no 71)⟩
 |.call { callee:=.builtin .min,args:=⟨[x,y]⟩,.. }=>⟨fun F _=>(ev P dp x).f F fun a=>(ev P dp y).f F fun b=>qwn a (fun k m=>qwn b (fun _ n=>bi (ltI n m) (.val (.int k n)) (.val (.int k m))) (.no 68)) (.no 68)⟩
 |.call { callee:=.builtin .max,args:=⟨[x,y]⟩,.. }=>⟨fun F _=>(ev P dp x).f F fun a=>(ev P dp y).f F fun b=>qwn a (fun k m=>qwn b (fun _ n=>bi (ltI m n) (.val (.int k n)) (.val (.int k m))) (.no 69)) (.no 69)⟩
 |_=>noQ 70
def qyh (t:TypeId):Option TypeId:=match P.underlying t with|some (.slice e)=>bi (okT P e) (some e) none|_=>none
abbrev CF:=T Value->M->CO
def noC (n:Nat):Bx CF:=⟨fun _ _=>.no n⟩
def byteCells (l:List UInt8)(c:List Value->CO):CO:=rL (A:=List Value->CO) (B:=CO) (fun f=>f []) (fun b _ ih f=>natF b.toNat fun b=>ih fun r=>f (.int .u8 (.ofNat b)::r)) l c
def srcF (sz:Nat)(v:Value)(m:M)(c:Nat->List Value->CO):CO:=onSl v (c 0 []) (fun a n _=>natF (Nat.mul n sz) fun d=>m.cells a.block (fun _ _ l=>qyz d (qxw a.off l) (fun r=>c n r) (.no 80)) (.no 81)) (qxk v (fun s=>bi (Nat.beq sz 1) (byteCells (bytes s) fun r=>lenF r fun n=>c n r) (.no 82)) (.no 82))
def qAd (l:List Value)(c:List UInt8->CO):CO:=rL (A:=List UInt8->CO) (B:=CO) (fun c=>c []) (fun x _ ih c=>qwn x (fun k n=>bi (Nat.beq (kN k) 4) (cI (fun b=>natF b fun b=>bi (Nat.blt b 256) (ih fun r=>c (.ofNat b::r)) (.no 119)) (fun _=>.no 119) n) (.no 119)) (.no 119)) l c
def ptrT (t:TypeId):Option TypeId:=match P.underlying t with|some (.pointer e)=>some e|_=>none
def srcT (t:TypeId):Bool:=match P.underlying t with|some (.slice _)|some .string=>true|_=>false
def newC (o:O)(v:Nat->Value)(m:M):CO:=m.new o (fun j m=>.ret (v j) m) (.no 79)
def slV (n z j:Nat):Value:=.slice (some ⟨j,0,none⟩) n z
def ptV (j:Nat):Value:=.pointer (some ⟨j,0,none⟩)
def appR (et:TypeId)(sz by_:Nat)(s x:Value)(m:M):CO:=srcF sz x m fun n new=>
 onSl s (cN (.ret s m) (fun n'=>natF (Nat.succ n') fun n=>bi (Nat.ble (Nat.mul n (Nat.succ by_)) room) (newC (.cells 0 et new) (slV n sz) m) (.no 83)) n)
  (fun a l z=>cN (.ret s m) (fun n'=>natF (Nat.succ n') fun n=>natF (Nat.add l n) fun t=>bi (andB (Nat.beq z sz) (Nat.ble (Nat.mul t (Nat.succ by_)) room)) (m.cells a.block (fun ro et' c=>bi (Nat.beq et et') (natF (Nat.mul l sz) fun d=>bi (orB (notB (Nat.beq ro 1)) (lenF c fun len=>Nat.beq (Nat.add a.off d) len)) (qyz d (qxw a.off c) (fun old=>appF old new fun all=>m.put a.block .dead fun m=>newC (.cells ro et all) (slV t sz) m) (.no 84)) (.no 77)) (.no 78)) (.no 86)) (.no 85)) n) (.no 87)
def qvT (sz:Nat)(a v:Value)(m:M):CO:=qvZ a (fun a=>m.cells a.block (fun ro t l=>bi (Nat.beq ro 1) (.no 90) (qzk v (fun v=>lenF v fun n=>bi (Nat.beq n sz) (layF a.off v l (fun l=>m.put a.block (.cells ro t l) fun m=>.ret undef m) (.no 88)) (.no 89)) (.no 89))) (.no 90)) (.no 91)
def mapR (kt:TypeId)(x k v:Value)(m:M):CO:=bi ((qdG P kt).f k) (qyr x (.no 92) (fun i=>m.get i fun o=>qwb o (fun es clock=>putE k v clock es (fun es b=>natF (bi b (Nat.succ clock) clock) fun clock=>m.put i (.map es clock) fun m=>.ret undef m) (.no 92)) (.no 92)) (.no 93)) (.no 93)
def qCq (kt:TypeId)(x k v:Value)(m:M):CO:=bi (qvq k) (qyr x (.no 92) (fun i=>m.get i fun o=>qwb o (fun es clock=>bi (sChk P kt false k) (putS P kt k v clock es (fun es b=>natF (bi b (Nat.succ clock) clock) fun clock=>m.put i (.map es clock) fun m=>.ret undef m) (.no 92)) (.no 92)) (.no 92)) (.no 93)) (.no 93)
def qB8 (kt:TypeId)(x k:Value)(m:M):CO:=bi (qvq k) (qyr x (.no 92) (fun i=>m.get i fun o=>qwb o (fun es clock=>bi (sChk P kt (emp es) k) (delS P kt k es (fun es=>m.put i (.map es clock) fun m=>.ret undef m) (.no 92)) (.no 92)) (.no 92)) (.no 93)) (.no 93)
def zeros (z:List Value)(n:Nat)(c:List Value->CO):CO:=rN (A:=List Value->CO) (B:=CO) (fun c=>c []) (fun _ ih c=>ih fun r=>appF z r c) n c
def qDt (str:Bool)(i:Nat)(m:M):CO:=m.get i fun o=>match o with
 |.siter s pos=>bi str (cL (.ret (.tuple #[.bool false]) m) (fun b r=>natF b.toNat fun n=>bi (Nat.blt n 128) (natF (Nat.succ pos) fun p=>m.put i (.siter r p) fun m=>.ret (.tuple #[.bool true,.int .i64 (.ofNat pos),.int .i32 (.ofNat n)]) m) (.no 104)) s) (.no 104)
 | .miter j since seen st=>bi str (.no 109) (m.get j fun o=>qwb o (fun es clock=>bi (seen.isEmpty||es.any fun e=>Nat.blt e.born st) (match es.filter (fun e=>!seen.contains e.born)with
   |[]=>.ret (.tuple #[.bool false]) m
   |[e]=>bi (Nat.blt e.born since) (m.put i (.miter j since (seen++[e.born]) clock) fun m=>.ret (.tuple #[.bool true,e.key,e.val]) m) (.no 107)
   |_=>.no 108) (.no 108)) (.no 109))
 |_=>.no 110
def strM (e:TypeId)(v:Value)(n:Nat)(m:M):CO:=qvZ v (fun a=>m.cells a.block (fun ro t c=>bi (orB (Nat.beq ro 2) (orB (notB (Nat.beq t e)) (notB (Nat.ble n room)))) (.no 121) (natF n fun n=>qyz n (qxw a.off c) (fun l=>qAd l fun l=>m.put a.block (.cells 1 t c) fun m=>.ret (.string ⟨⟨l⟩⟩) m) (.no 120))) (.no 121)) (.no 121)
def qBK (i:Nat)(m:M):CO:=m.get i fun o=>match o with
 | .miter j since seen st=>m.get j fun o=>qwb o (fun es clock=>bi (Nat.beq clock st) (match seen.getLast? with
   |some s=>(match es.find? (fun e=>e.born==s)with
    |some e=>.ret (.tuple #[e.key,e.val]) m
    |none=>.no 125)
   |none=>.no 126) (.no 127)) (.no 128)
 |_=>.no 129
def sbR (e:TypeId)(v:Value)(m:M):CO:=qxk v (fun s=>byteCells (bytes s) fun l=>lenF l fun n=>bi (Nat.ble n room) (newC (.cells 2 e l) (slV n 1) m) (.no 191)) (.no 192)
def mkR (v:Value)(m:M):CO:=onSl v (.no 193) (fun a n z=>cN (.no 190) (fun _=>m.cells a.block (fun ro t c=>bi (Nat.beq ro 1) (.no 194) (m.put a.block (.cells 2 t c) fun m=>.ret v m)) (.no 195)) n) (.no 196)
def bslQ (e:TypeId)(n:Nat)(ps:List (Nat×Operand))(dp:Nat):Bx CF:=match zL P e with
 |none=>noC 94
 |some z=>bi (notB (Nat.ble (n*szT P e) room)) (noC 94) ⟨fun F m=>zeros z n fun z=>match (qwU P dp (fun i=>some (i*szT P e,szT P e)) ps).f F z fun l=>.val (.agg ⟨l⟩)with
  |.val v=>qBv v (fun l=>natF (szT P e) fun sz=>newC (.cells 0 e l) (slV n sz) m) (.no 94)
  |.no w=>.no w⟩
def loud (dp:Nat)(op:Op):Bx CF:=match op with
 |.alloc t=>match zL P t with
  |some z=>⟨fun _ m=>appF z [] fun z=>newC (.cells 0 t z) ptV m⟩
  |none=>noC 94
 |.box t x=>⟨fun F m=>(ev P dp x).f F fun v=>qzk v (fun l=>newC (.cells 0 t l) ptV m) (.no 76)⟩
 |.buildSlice t n ps=>match qyh P t with
  |some e=>bslQ P e n ps.toList dp
  |none=>noC 95
 |.makeMap t none=>⟨fun _ m=>newC (.map [] 0) (fun j=>.map (some j)) m⟩
 |.store t a v=>bi (notB (okT P t)) (noC 91) ⟨fun F m=>(ev P dp a).f F fun a=>(ev P dp v).f F fun v=>qvT (szT P t) a v m⟩
 |.mapUpdate t x k v|.insert t x k v=>match mapT P t with
  |some (kt,_)=>bi (sKey P kt) ⟨fun F m=>(ev P dp x).f F fun x=>(ev P dp k).f F fun k=>(ev P dp v).f F fun v=>qCq P kt x k v m⟩ ⟨fun F m=>(ev P dp x).f F fun x=>(ev P dp k).f F fun k=>(ev P dp v).f F fun v=>mapR P kt x k v m⟩
  |none=>noC 99
 |.range t x=>match P.underlying t with
  |some .string=>⟨fun F m=>(ev P dp x).f F fun v=>qxk v (fun s=>newC (.siter (bytes s) 0) ptV m) (.no 100)⟩
  |some (.map _ _)=>⟨fun F m=>(ev P dp x).f F fun v=>qyr v (.no 102) (fun i=>m.get i fun o=>qwb o (fun _ clock=>newC (.miter i clock [] clock) ptV m) (.no 101)) (.no 102)⟩
  |_=>noC 103
 |.makeSlice t l c=>match qyh P t with
  |some e=>(match zL P e with
   |some z=>⟨fun F m=>(ev P dp l).f F fun l=>(ev P dp c).f F fun c=>qwn l (fun _ n=>qwn c (fun _ n'=>cI (fun n=>cI (fun n'=>bi (Nat.ble n n') (bi (Nat.ble (Nat.mul n' (Nat.succ (byT P e))) room) (zeros z n fun z=>natF (szT P e) fun sz=>newC (.cells 0 e z) (slV n sz) m) (.no 96)) (.no 96)) (fun _=>.no 96) n') (fun _=>.no 96) n) (.no 97)) (.no 97)⟩
   |none=>noC 98)
  |none=>noC 98
 |.convert s t x=>(match P.underlying s,P.underlying t with
  |some .string,some (.slice e)=>bi (isU8 P e) ⟨fun F m=>(ev P dp x).f F fun v=>sbR e v m⟩ (noC 197)
  |some (.slice _),some (.slice e)=>bi (andB (Nat.beq s t) (isU8 P e)) ⟨fun F m=>(ev P dp x).f F fun v=>mkR v m⟩ (noC 198)
  |_,_=>noC 199)
 |.next it b=>⟨fun F m=>(ev P dp it).f F fun v=>qvZ v (fun a=>bi (Nat.beq a.off 0) (qDt b a.block m) (.no 106)) (.no 106)⟩
 |.entry it=>⟨fun F m=>(ev P dp it).f F fun v=>qvZ v (fun a=>bi (Nat.beq a.off 0) (qBK a.block m) (.no 106)) (.no 106)⟩
 |.call { callee:=.builtin .append,args:=⟨[s,x]⟩,argTypes:=⟨[t,t1]⟩ }=>match qyh P t with
  |some e=>bi (notB (andB (srcT P t1) (andB (zL P e).isSome (notB (orB (qwQ P e) (Nat.beq (szT P e) 0)))))) (noC 114) ⟨fun F m=>(ev P dp s).f F fun s=>(ev P dp x).f F fun x=>appR e (szT P e) (byT P e) s x m⟩
  |none=>noC 114
 |.call { callee:=.builtin .delete,args:=⟨[x,k]⟩,argTypes:=⟨t::_⟩ }=>match mapT P t with
  |some (kt,_)=>bi (sKey P kt) ⟨fun F m=>(ev P dp x).f F fun x=>(ev P dp k).f F fun k=>qB8 P kt x k m⟩ (noC 98)
  |none=>noC 98
 |.call { callee:=.builtin .copy,args:=⟨[x,y]⟩,argTypes:=⟨[t,t1]⟩ }=>match qyh P t with
  |some e=>bi (notB (srcT P t1)) (noC 214) ⟨fun F m=>(ev P dp x).f F fun x=>(ev P dp y).f F fun y=>onSl y (onSl x (.ret (.int .i64 (.ofNat 0)) m) (fun _ _ _=>.ret (.int .i64 (.ofNat 0)) m) (.no 215)) (fun _ _ _=>.no 216) (.no 217)⟩
  |none=>noC 214
 |.call { callee:=.builtin .clear,args:=⟨[x]⟩,argTypes:=⟨t::_⟩ }=>match P.underlying t with
  |some (.slice e)=>(match zL P e with
   |some z=>bi (Nat.beq (szT P e) 0) (noC 123) ⟨fun F m=>(ev P dp x).f F fun v=>onSl v (.ret undef m) (fun a n _=>cN (.ret undef m) (fun n'=>m.cells a.block (fun ro t l=>bi (Nat.beq ro 1) (.no 121) (zeros z (Nat.succ n') fun z=>layF a.off z l (fun l=>m.put a.block (.cells ro t l) fun m=>.ret undef m) (.no 120))) (.no 121)) n) (.no 122)⟩
   |none=>noC 123)
  |_=>noC 123
 |.call { callee:=.builtin .unsafeString,args:=⟨[x,n]⟩,argTypes:=⟨t::_⟩ }=>match ptrT P t with
  |some e=>bi (notB (Nat.beq (szT P e) 1)) (noC 123) ⟨fun F m=>(ev P dp x).f F fun v=>(ev P dp n).f F fun n=>qwn n (fun _ n=>cI (cN (match v with|.pointer _=>.ret (.string ⟨⟨[]⟩⟩) m|_=>.no 118) (fun n=>strM e v (Nat.succ n) m)) (fun _=>.no 122) n) (.no 122)⟩
  |none=>noC 123
 |_=>noC 124
def isQ (op:Op):Bool:=match op with
 |.move _|.assign _|.pick _ _ _|.build _ _|.load _ _|.nilCheck _|.binOp _ _ _ _ _|.unOp _ _ _|.makeInterface _ _|.makeFunc _ _ _|.slice _ _ _ _ _|.fieldAddr _ _ _|.field _ _ _|.indexAddr _ _ _|.index _ _ _|.lookup _ _ _ _|.typeAssert _ _ _ _|.extract _ _=>true
 |.call { callee:=.builtin .len,.. }|.call { callee:=.builtin .cap,.. }|.call { callee:=.builtin .unsafeSliceData,.. }|.call { callee:=.builtin .min,.. }|.call { callee:=.builtin .max,.. }=>true
 |.convert s t _=>(match P.underlying s,P.underlying t with
  |some .string,some (.slice _)=>false
  |some (.slice _),some (.slice _)=>false
  |_,_=>true)
 |_=>false
abbrev PutF (β:Type):=Value->T Value->(T Value->β)->β
def putD (dp nt:Nat):Option Tmp->Bx (PutF β)
 |none=>⟨fun _ F c=>c F⟩
 |some d=>bi (Nat.blt d nt) (T.sets dp d) ⟨fun _ F c=>c F⟩
def qwr (dp:Nat)(c:Call):Bx (T Value->(Tg->List Value->β)->β->β):=match c.callee with
 |.value g=>⟨fun F k no=>(ev P dp g).f F fun v=>onFn v (fun f a b=>evs P dp c.args.toList F fun l=>appF l b fun l=>appF a l fun l=>k (.fn f) l) (onYd v (fun j=>evs P dp c.args.toList F fun l=>k (.yd j) l) no)⟩
 |_=>⟨fun _ _ no=>no⟩
def isR (op:Op):Bool:=match op with
 |.call c=>(match c.callee with
  |.value _=>true
  |_=>false)
 |.panic _=>true
 |_=>false
def recR (dp:Nat)(op:Op):Bx (Rec->CF):=match op with
 |.call c=>⟨fun rec F m=>(qwr P dp c).f F (fun f l=>rec f l m) (.no 130)⟩
 |.panic x=>⟨fun _ F m=>(ev P dp x).f F fun v=>onIf v (.no 134) (fun t v=>.pan (.iface t v) m) (.no 134)⟩
 |_=>⟨fun _ _ _=>.no 136⟩
abbrev Go1:=T Value->M->Out
def oper (dp nt:Nat)(o:Oper):Bx (Rec->Go1->Go1):=
 bi (isQ P o.op) ⟨fun _ k F m=>onQV ((quiet P dp o.op).f F m) (fun v=>(putD dp nt o.dst).f v F fun F=>k F m) Out.no⟩ <|
 bi (isR o.op) ⟨fun rec k F m=>onCO ((recR P dp o.op).f rec F m) (fun v m=>(putD dp nt o.dst).f v F fun F=>k F m) (fun v m=>.go (.pan v) F m) Out.no⟩
  ⟨fun _ k F m=>onCO ((loud P dp o.op).f F m) (fun v m=>(putD dp nt o.dst).f v F fun F=>k F m) (fun _ _=>.no 135) Out.no⟩
def guardOf (dp:Nat)(ops:List Oper)(g:Nat×Bool):Bx (EvF Out):=match (ops[g.1]?).bind (·.dst)with
 |some d=>ev P dp (.tmp d)
 |none=>⟨fun _ c=>c unk⟩
def one1 (dp nt:Nat)(ops:List Oper)(o:Oper):Bx (Rec->Go1->Go1):=match o.guard with
 |none=>oper P dp nt o
 |some g=>⟨fun rec k F m=>(guardOf P dp ops g).f F fun v=>onGd g.2 v ((oper P dp nt o).f rec k F m) ((putD dp nt o.dst).f undef F fun F=>k F m) (.no 133)⟩
def opers (dp nt:Nat)(ops:List Oper):List Oper->Bx (Rec->Go1)
 |[]=>⟨fun _ F m=>.go .norm F m⟩
 |o::l=>⟨fun rec=>(one1 P dp nt ops o).f rec fun F m=>(opers dp nt ops l).f rec F m⟩
def inL (n:Nat):List Nat->Bool
 |[]=>false
 |x::l=>bi (Nat.beq x n) true (inL n l)
def inD:Option Nat->List Nat->Bool
 |none,_=>false
 |some d,l=>inL d l
def eqD:Option Nat->Option Nat->Bool
 |some a,some b=>Nat.beq a b
 |_,_=>false
def isA (op:Op):Bool:=match op with
 |.alloc _|.box _ _|.buildSlice _ _ _|.makeMap _ none=>true
 |_=>false
def noM (op:Op):Bool:=match op with
 |.move _|.assign _|.pick _ _ _|.build _ _|.nilCheck _|.binOp _ _ _ _ _|.unOp _ _ _|.makeInterface _ _|.makeFunc _ _ _|.fieldAddr _ _ _|.field _ _ _|.indexAddr _ _ _|.index _ _ _|.typeAssert _ _ _ _|.extract _ _=>true
 |_=>false
structure Info where
 rd:List Nat
 dst:Option Nat
 k:Nat
def kindOf (op:Op):Nat:=bi (isQ P op) (bi (noM op) 0 1) (bi (isA op) 2 3)
def tmpsOf:List Operand->List Nat
 |[]=>[]
 |.tmp t::l=>t::tmpsOf l
 |_::l=>tmpsOf l
def readsOf (ops:List Oper)(o:Oper):List Nat:=match o.guard with
 |none=>tmpsOf o.op.operands.toList
 |some g=>(match (ops[g.1]?).bind (·.dst)with
  |some d=>d::tmpsOf o.op.operands.toList
  |none=>tmpsOf o.op.operands.toList)
def QT (ops:List Oper)(o:Oper):Info:=⟨readsOf ops o,o.dst,kindOf P o.op⟩
def befE (acc:List Nat):List Edge->Nat
 |[]=>0
 |e::l=>bi (Region.binds .any e) (Nat.lor (2 ^ e.on) (Nat.lor ((acc[e.on]?).getD 0) (befE acc l))) (befE acc l)
def befL:List Oper->List Nat->List Nat
 |[],acc=>acc
 |o::rest,acc=>befL rest (acc++[befE acc o.after.toList])
def vw:Nat->List Oper->Bool
 |_,[]=>true
 |j,o::l=>andB (o.after.toList.all fun e=>orB (notB (Region.binds .any e)) (Nat.blt e.on j)) (vw (j+1) l)
def at_ (is:List Info)(i:Nat):Info:=(is[i]?).getD ⟨[],none,3⟩
def bef (befs:List Nat)(j i:Nat):Bool:=((befs[j]?).getD 0).testBit i
def insA (befs:List Nat)(i:Nat):List Nat->List Nat
 |[]=>[i]
 |x::l=>bi (bef befs i x) (i::x::l) (x::insA befs i l)
def ordR (befs:List Nat)(is:List Info):List Nat->List Nat->List Nat
 |[],acc=>acc
 |i::l,acc=>ordR befs is l (bi (Nat.beq (at_ is i).k 2) (insA befs i acc) (i::acc))
def rng:Nat->Nat->List Nat
 |_,0=>[]
 |i,n+1=>i::rng (i+1) n
def qyu (befs:List Nat)(is:List Info)(x y:Nat):Bool:=
 andB (notB (Nat.beq x y))<|andB (notB (eqD (at_ is x).dst (at_ is y).dst))<|andB (orB (notB (inD (at_ is y).dst (at_ is x).rd)) (andB (bef befs y x) (notB (Nat.beq (at_ is x).k 1)))) <|
 orB (bef befs y x) (notB (orB (inD (at_ is x).dst (at_ is y).rd) (andB (Nat.beq (at_ is x).k 3) (Nat.ble 2 (at_ is y).k))))
def qAQ (befs:List Nat)(is:List Info)(n:Nat):List Nat->Bool
 |[]=>true
 |x::l=>andB (Nat.blt x n)<|andB (notB (andB (inD (at_ is x).dst (at_ is x).rd) (Nat.beq (at_ is x).k 1)))<|andB (l.all fun y=>qyu befs is x y) (qAQ befs is n l)
def louds (is:List Info)(ord:List Nat):List Nat:=ord.filter fun i=>Nat.beq (at_ is i).k 3
def cnt (p:Nat->Bool):List Nat->Nat
 |[]=>0
 |x::l=>bi (p x) (cnt p l+1) (cnt p l)
def loOf (befs cs:List Nat)(i:Nat):Nat:=cnt (fun c=>bef befs i c) cs
def hiOf (befs cs:List Nat)(i:Nat):Nat:=cnt (fun c=>notB (bef befs c i)) cs
def allV (f:Value->Value->Bool):List Value->List Value->Bool
 |[],[]=>true
 |a::l,b::m=>bi (f a b) (allV f l m) false
 |_,_=>false
def veq:Nat->Value->Value->Bool
 |0,_,_=>false
 |n+1,a,b=>match a,b with
  |.bool a,.bool b=>bi a b (notB b)
  |.int j a,.int k b=>bi (Nat.beq (kN j) (kN k)) (eqI a b) false
  |.string a,.string b=>eqS (bytes a) (bytes b)
  |.pointer none,.pointer none=>true
  |.pointer (some ⟨a,i,none⟩),.pointer (some ⟨b,j,none⟩)=>bi (Nat.beq a b) (Nat.beq i j) false
  |.slice none a i,.slice none b j=>bi (Nat.beq a b) (Nat.beq i j) false
  |.slice (some ⟨a,i,none⟩) l z,.slice (some ⟨b,j,none⟩) l' z'=>bi (Nat.beq a b) (bi (Nat.beq i j) (bi (Nat.beq l l') (Nat.beq z z') false) false) false
  |.map none,.map none=>true
  |.map (some a),.map (some b)=>Nat.beq a b
  |.nilFunc,.nilFunc=>true
  |.nilIface,.nilIface=>true
  |.func (.func f) ⟨a⟩ ⟨b⟩,.func (.func g) ⟨a'⟩ ⟨b'⟩=>bi (Nat.beq f g) (bi (allV (veq n) a a') (allV (veq n) b b') false) false
  |.iface t v,.iface t' v'=>bi (Nat.beq t t') (veq n v v') false
  |.agg ⟨l⟩,.agg ⟨l'⟩=>allV (veq n) l l'
  |.tuple ⟨l⟩,.tuple ⟨l'⟩=>allV (veq n) l l'
  |_,_=>false
def oeq:O->O->Bool
 |.cells r t l,.cells r' t' l'=>bi (andB (Nat.beq r 0) (Nat.beq r' 0)) (bi (Nat.beq t t') (allV (veq 6) l l') false) false
 |.map [] a,.map [] b=>Nat.beq a b
 |_,_=>false
abbrev RunF:=Rec->T Value->M->(T Value->M->List M->List M->List (Nat×Nat×O)->Out)->Out
def runD (dp nt:Nat)(ops:List Oper)(is:List Info):List Nat->Bx RunF
 |[]=>⟨fun _ F m k=>k F m [] [m] []⟩
 |i::l=>match ops[i]? with
  |none=>⟨fun _ _ _ _=>.no 162⟩
  |some o=>bi (Nat.beq (at_ is i).k 3) ⟨fun rec F m k=>(one1 P dp nt ops o).f rec (fun F' m'=>(runD dp nt ops is l).f rec F' m' fun Fn mn as bs ob=>k Fn mn (m'::as) (m::bs) ob) F m⟩ <|
   bi (Nat.beq (at_ is i).k 2) ⟨fun rec F m k=>(one1 P dp nt ops o).f rec (fun F' m'=>bi (Nat.beq m.next m'.next) ((runD dp nt ops is l).f rec F' m' k) (m'.get m.next fun x=>natF m.next fun a=>(runD dp nt ops is l).f rec F' m' fun Fn mn as bs ob=>k Fn mn as bs ((i,a,x)::ob))) F m⟩
    ⟨fun rec F m k=>(one1 P dp nt ops o).f rec (fun F' m'=>(runD dp nt ops is l).f rec F' m' k) F m⟩
def qzZ {α:Type}(lo hi:Nat)(l:List α):List α:=(l.drop lo).take (hi+1-lo)
def qAY (dp nt:Nat)(ops:List Oper)(o:Oper)(F:T Value)(rec:Rec):List M->Bool
 |[]=>true
 | m::l=>bi (qwo ((one1 P dp nt ops o).f rec (fun F' m'=>.go .norm F' m') F m) (fun x F' _=>onX x (match o.dst with
   |some d=>bi (Nat.blt d nt) (T.get undef dp d F fun a=>T.get undef dp d F' fun b=>veq 6 a b) true
   |none=>true) false) (fun _=>false)) (qAY dp nt ops o F rec l) false
def qAX (a:Nat)(ob:O):List M->Bool
 |[]=>true
 |m::l=>bi (Nat.blt a m.next) (bi (m.get a fun o=>oeq ob o) (qAX a ob l) false) false
def qyp (n:Nat):List (Nat×Nat×O)->Bool
 |[]=>true
 |(_,a,_)::l=>andB (Nat.ble n a) (andB (l.all fun r=>notB (Nat.beq a r.2.1)) (qyp n l))
def qyf (befs cs:List Nat)(as bs:List M):List (Nat×Nat×O)->Bool
 |[]=>true
 |(i,a,x)::l=>andB (match as[loOf befs cs i]? with
   |some m=>andB (Nat.ble m.next a) (qAX a x (qzZ (loOf befs cs i) (hiOf befs cs i) bs))
   |none=>false) (qyf befs cs as bs l)
def qyd (dp nt:Nat)(ops:List Oper)(befs:List Nat)(is:List Info)(cs:List Nat)(rec:Rec)(F:T Value)(bs:List M):List Nat->Bool
 |[]=>true
 | i::l=>andB (bi (Nat.beq (at_ is i).k 1) (match ops[i]? with
   |some o=>qAY P dp nt ops o F rec (qzZ (loOf befs cs i) (hiOf befs cs i) bs)
   |none=>false) true) (qyd dp nt ops befs is cs rec F bs l)
def augB (befs:List Nat)(p q:Nat):List Nat:=befs.set q (Nat.lor ((befs[q]?).getD 0) (2 ^ p))
def last2:List Nat->Option (Nat×Nat)
 |[]=>none
 |p::l=>match l with
  |[q]=>some (p,q)
  |_=>last2 l
def stA (ops:List Oper)(i:Nat):Option Operand:=match ops[i]? with
 |some o=>(match o.op,o.guard,o.dst with
  |.store _ a _,none,none=>some a
  |_,_,_=>none)
 |none=>none
def qzK (befs:List Nat)(is:List Info)(ord:List Nat)(p q:Nat):Bool:=
 andB (notB (Nat.beq p q))<|andB (ord.all fun i=>orB (Nat.beq i p) (orB (Nat.beq i q) (orB (Nat.beq (at_ is i).k 0) (bef befs q i)))) <|
 ord.all fun y=>andB (orB (notB (inD (at_ is y).dst (at_ is p).rd)) (bef befs p y)) (orB (notB (inD (at_ is y).dst (at_ is q).rd)) (bef befs q y))
def qz9 (dp:Nat)(a b:Operand)(F:T Value):Bool:=(ev P dp a).f F fun a=>(ev P dp b).f F fun b=>qvZ a (fun a=>qvZ b (fun b=>andB (notB (Nat.beq a.block b.block)) (andB (Nat.blt a.block hdN) (Nat.blt b.block hdN))) false) false
def qAK:List M->Bool
 |[]=>false
 |a::l=>match l with
  |[b,c]=>andB (Nat.beq a.next b.next) (Nat.beq b.next c.next)
  |_=>qAK l
def qBj (dp nt:Nat)(ops:List Oper)(befs:List Nat)(is:List Info)(ord:List Nat)(st:Bool)(chk:T Value->List M->Bool):Bx (Rec->Go1):=bi (andB (vw 0 ops) (andB ((rng 0 ops.length).all fun i=>inL i ord) (andB (qAQ befs is ops.length ord) st))) ⟨fun rec F m=>qwo ((runD P dp nt ops is ord).f rec F m fun F' m' as bs ob=>bi (andB (qyp m.next ob) (andB (qyf befs (louds is ord) (m::as) bs ob) (andB (chk F' bs) (qyd P dp nt ops befs is (louds is ord) rec F' bs ord)))) (.go .norm F' m') (.no 163)) (fun x F m=>onX x (.go .norm F m) (.no 164)) Out.no⟩ ⟨fun _ _ _=>.no 161⟩
def qC1 (dp nt:Nat)(ops:List Oper)(befs:List Nat)(is:List Info)(ord:List Nat):Bx (Rec->Go1):=match last2 (louds is ord)with
 |some (p,q)=>(match stA ops p,stA ops q with
  |some a,some b=>qBj P dp nt ops (augB befs p q) is ord (qzK befs is ord p q) (fun F bs=>andB (qz9 P dp a b F) (qAK bs))
  |_,_=>⟨fun _ _ _=>.no 166⟩)
 |none=>⟨fun _ _ _=>.no 167⟩
def qC0 (dp nt:Nat)(ops:List Oper)(befs:List Nat)(is:List Info)(ord:List Nat):Bx (Rec->Go1):=bi (qAQ befs is ops.length ord) (qBj P dp nt ops befs is ord true fun _ _=>true) (qC1 P dp nt ops befs is ord)
def qB9 (dp nt:Nat)(ops:List Oper):Bx (Rec->Go1):=qC0 P dp nt ops (befL ops []) (ops.map (QT P ops)) (ordR (befL ops []) (ops.map (QT P ops)) (rng 0 ops.length) []).reverse
abbrev Cd:=Rec->Nat->Go1
def seqC (a b:Cd):Cd:=fun rec n F m=>qwo (a rec n F m) (fun x F m=>onX x (b rec n F m) (.go x F m)) Out.no
def condC (c:EvF Out)(a b:Cd):Cd:=fun rec n F m=>c F fun v=>qxi v (fun t=>bi t (a rec n F m) (b rec n F m)) (.no 140)
def qBI (id:Nat)(a:Cd):Cd:=fun rec n F m=>qwo (a rec n F m) (fun x F m=>inX id x (fun x=>.go x F m)) Out.no
def qDr (a:Cd):Cd:=fun rec n=>rN (A:=T Value) (B:=M->Out) (fun _ _=>.no 141) (fun _ ih F m=>qwo (a rec n F m) (fun x F m=>onX x (ih F m) (.go x F m)) Out.no) n
def ydV (j:Nat):Value:=.func (.yield j) ⟨[]⟩ ⟨[]⟩
def hasB (f:FuncId):Bool:=match P.funcs[f]? with
 |some fn=>(match fn.body with|some _=>true|none=>false)
 |none=>false
def qAS (dp nt:Nat)(g:Operand)(ps:List Tmp)(as bo:Code):Cd:=fun rec n F m=>(ev P dp g).f F fun v=>onFn v (fun f a b=>bi (hasB P f) (m.new (.loop F dp nt ps as bo 0 .norm) (fun j m=>appF [ydV j] b fun l=>appF a l fun l=>onCO (rec (.fn f) l m)
 (fun _ m=>m.get j fun o=>qyq o (fun _ _ _ _ _ _ st pend=>bi (Nat.blt st 2) (m.put j .dead fun m=>.go pend F m) (.no 170)) (.no 171)) (fun v m=>.go (.pan v) F m) Out.no) (.no 172)) (.no 182)) (.no 173)
def code (dp nt:Nat)(rg:Bool):Code->Bx Cd
 |.skip=>⟨fun _ _ F m=>.go .norm F m⟩
 |.region id ops draw=>bi draw ⟨fun rec _=>(qB9 P dp nt ops.toList).f rec⟩ ⟨fun rec _=>(opers P dp nt ops.toList ops.toList).f rec⟩
 |.seq a b=>⟨seqC (code dp nt rg a).f (code dp nt rg b).f⟩
 |.cond c a b=>⟨condC (ev P dp c).f (code dp nt rg a).f (code dp nt rg b).f⟩
 |.block id a=>⟨qBI id (code dp nt rg a).f⟩
 |.loop a=>⟨qDr (code dp nt rg a).f⟩
 |.exit id=>⟨fun _ _ F m=>.go (.exit id) F m⟩
 |.ret=>⟨fun _ _ F m=>.go .ret F m⟩
 |.rangeFunc g ps as bo=>bi rg ⟨qAS P dp nt g ps.toList as bo⟩ ⟨fun _ _ _ _=>.no 142⟩
 |.scope _=>⟨fun _ _ _ _=>.no 143⟩
 |.label _=>⟨fun _ _ _ _=>.no 144⟩
 |.goto _=>⟨fun _ _ _ _=>.no 145⟩
 |.refuse _=>⟨fun _ _ _ _=>.no 146⟩
def resV (dp:Nat):ResultVar->Bx QF
 |.tmp t=>⟨fun F _=>(ev P dp (.tmp t)).f F fun v=>.val v⟩
 |.cell a t=>⟨fun F m=>(ev P dp (.tmp a)).f F fun v=>qvZ v (fun a=>ldQ P t a.block a.off m) (.no 147)⟩
def resL (dp:Nat):List ResultVar->Bx (T Value->M->(List Value->CO)->CO)
 |[]=>⟨fun _ _ c=>c []⟩
 |r::l=>⟨fun F m c=>onQV ((resV P dp r).f F m) (fun v=>(resL dp l).f F m fun vs=>c (v::vs)) CO.no⟩
def one (l:List Value):Value:=cL (.tuple ⟨[]⟩) (fun v r=>cL v (fun _ _=>.tuple ⟨l⟩) r) l
def qyF (dp nt:Nat):List Value->Nat->T Value->(T Value->CO)->CO
 |[],_,F,c=>c F
 |v::l,k,F,c=>bi (Nat.blt k nt) (T.set dp k v F fun F=>qyF dp nt l (Nat.succ k) F c) (.no 149)
def dpOf (n:Nat):Nat:=bi (Nat.ble n 64) 3 (bi (Nat.ble n 256) 4 5)
def leave (x:X)(m:M)(r:(List Value->CO)->CO):CO:=match x with
 |.norm|.ret=>r fun vs=>.ret (one vs) m
 |.pan v=>.pan v m
 |.exit _=>.no 152
inductive DO where
 |no (why:Nat)
 |go (x:X) (F:T Value) (m:M) (d:Option (Nat×List Value))
def onDO {β:Type}(q:DO)(f:X->T Value->M->Option (Nat×List Value)->β)(z:Nat->β):β:=DO.rec z f q
def qzy (q:Out)(f:X->T Value->M->DO)(z:Nat->DO):DO:=qwo q f z
def onXD (x:X)(f z:DO):DO:=onX x f z
def qBr (ops:List Oper):Option (Oper×Call):=match ops.getLast? with
 |some o=>(match o.op,o.guard with
  |.defer c,none=>some (o,c)
  |_,_=>none)
 |none=>none
abbrev Dc:=Rec->Nat->T Value->M->DO
def qCw (dp nt:Nat)(o:Oper)(c:Call)(k:T Value->M->Option (Nat×List Value)->DO):T Value->M->DO:=fun F m=>(qwr P dp c).f F (fun t l=>onTg t (fun f=>(putD dp nt o.dst).f undef F fun F=>k F m (some (f,l))) (fun _=>.no 201)) (.no 202)
def qBh (dp nt:Nat):Code->Option (Bx Dc)
 | .seq a b=>match (match a with
   |.region _ ops false=>(qBr ops.toList).map fun oc=>(ops.toList,oc)
   |_=>none)with
  |some (ops,o,c)=>some ⟨fun rec n F m=>qwo ((opers P dp nt ops ops.dropLast).f rec F m) (fun x F m=>onXD x (qCw P dp nt o c (fun F m d=>qzy ((code P dp nt false b).f rec n F m) (fun x F m=>.go x F m d) DO.no) F m) (.no 203)) DO.no⟩
  |none=>match qBh dp nt b with
   |some k=>some ⟨fun rec n F m=>qzy ((code P dp nt false a).f rec n F m) (fun x F m=>onXD x (k.f rec n F m) (.go x F m none)) DO.no⟩
   |none=>none
 |_=>none
def qCy:Code->Option (Option Tmp×Oper×Code)
 |.seq (.region _ ops false) b=>match ops.toList with
  |[r,o]=>(match r.op,r.guard,o.guard with
   |.call { callee:=.builtin .recover,.. },none,none=>some (r.dst,o,b)
   |_,_,_=>none)
  |_=>none
 |_=>none
def qAW (f:Nat):Bx (Rec->Nat->List Value->Value->M->CO):=match P.funcs[f]? with
 |none=>⟨fun _ _ _ _ _=>.no 204⟩
 |some fn=>match fn.body with
  |none=>⟨fun _ _ _ _ _=>.no 204⟩
  |some c=>match qCy c with
   |none=>⟨fun _ _ _ _ _=>.no 205⟩
   | some (d,o,b)=>bi (notB (andB (isQ P o.op) (Nat.ble fn.ntmps 1024))) ⟨fun _ _ _ _ _=>.no 206⟩ ⟨fun rec n l v m=>qyF (dpOf fn.ntmps) fn.ntmps l 0 .e fun F=>(putD (dpOf fn.ntmps) fn.ntmps d).f v F fun F=>onQV ((quiet P (dpOf fn.ntmps) o.op).f F m)
     (fun v=>(putD (dpOf fn.ntmps) fn.ntmps o.dst).f v F fun F=>qwo ((code P (dpOf fn.ntmps) fn.ntmps false b).f rec n F m) (fun x F m=>leave x m fun c=>(resL P (dpOf fn.ntmps) fn.results.toList).f F m c) CO.no) CO.no⟩
def nilV:Value:=.nilIface
def leaveD (rec:Rec)(n:Nat)(x:X)(m:M)(d:Option (Nat×List Value))(r:M->(List Value->CO)->CO):CO:=match d with
 |none=>leave x m (r m)
 |some (f,l)=>onXP x (onCO ((qAW P f).f rec n l nilV m) (fun _ m=>r m fun vs=>.ret (one vs) m) (fun _ _=>.no 207) CO.no) (fun v=>onCO ((qAW P f).f rec n l v m) (fun _ m=>r m fun vs=>.ret (one vs) m) (fun _ _=>.no 208) CO.no) (.no 209)
def extF (fn:Func):Bx (List Value->M->CO):=match Extern.findNext fn with
 |some _=>⟨fun _ _=>.no 218⟩
 |none=>match Extern.find fn with
  |some row=>⟨fun l m=>match l.all flat with|true=>(match qy2 P (row ⟨l⟩)with|.val v=>.ret v m|.no w=>.no w)|false=>.no 219⟩
  |none=>⟨fun _ _=>.no 151⟩
def noZ (ts:List TypeId):Bx (List Value->M->CO):=match ts with
 |[t]=>(match P.underlying t with
  |some (.slice e)=>bi (Nat.beq (szT P e) 1) ⟨fun l m=>cL (.no 211) (fun v r=>cL (qwn v (fun k n=>bi (Nat.beq (kN k) 3) (cI (fun n=>bi (Nat.ble n room) (natF n fun n=>newC (.cells 0 e []) (slV n 1) m) (.no 212)) (fun _=>.no 212) n) (.no 212)) (.no 212)) (fun _ _=>.no 211) r) l⟩ ⟨fun _ _=>.no 213⟩
  |_=>⟨fun _ _=>.no 213⟩)
 |_=>⟨fun _ _=>.no 213⟩
def func (ne nz:Nat)(f:FuncId):Bx (Rec->Nat->List Value->M->CO):=match P.funcs[f]? with
 |none=>⟨fun _ _ _ _=>.no 150⟩
 |some fn=>match fn.body with
  |none=>bi (Nat.beq f ne) ⟨fun _ _ l m=>cL (.no 151) (fun v r=>cL (.ret v m) (fun _ _=>.no 151) r) l⟩ (bi (Nat.beq f nz) ⟨fun _ _ l m=>(noZ P fn.resultTypes.toList).f l m⟩ ⟨fun _ _ l m=>(extF P fn).f l m⟩)
  |some c=>bi (notB (Nat.ble fn.ntmps 1024)) ⟨fun _ _ _ _=>.no 148⟩<|match qBh P (dpOf fn.ntmps) fn.ntmps c with
   |some k=>⟨fun rec n l m=>qyF (dpOf fn.ntmps) fn.ntmps l 0 .e fun F=>onDO (k.f rec n F m) (fun x F m d=>leaveD P rec n x m d fun m c=>(resL P (dpOf fn.ntmps) fn.results.toList).f F m c) CO.no⟩
   |none=>⟨fun rec n l m=>qyF (dpOf fn.ntmps) fn.ntmps l 0 .e fun F=>qwo ((code P (dpOf fn.ntmps) fn.ntmps true c).f rec n F m) (fun x F m=>leave x m fun c=>(resL P (dpOf fn.ntmps) fn.results.toList).f F m c) CO.no⟩
def prmF (dp nt:Nat):List Tmp->List Value->T Value->(T Value->CO)->CO
 |[],l,F,c=>cL (c F) (fun _ _=>.no 174) l
 |p::ps,l,F,c=>cL (.no 174) (fun v l=>(putD dp nt (some p)).f v F fun F=>prmF dp nt ps l F c) l
def yes (b:Bool):Value:=.bool b
def rnd (rec:Rec)(n j:Nat)(l:List Value)(m:M):CO:=m.get j fun o=>qyq o (fun F dp nt ps as bo st _=>bi (Nat.beq st 0) (prmF dp nt ps l F fun F=>qwo ((code P dp nt false as).f rec n F m) (fun x F m=>onX x
 (m.get j fun o=>qyq o (fun F0 dp0 nt0 ps0 as0 bo0 st _=>bi (Nat.beq st 0) (m.put j (.loop F0 dp0 nt0 ps0 as0 bo0 2 .norm) fun m=>qwo ((code P dp nt false bo).f rec n F m) (fun x _ m=>m.get j fun o=>qyq o (fun F0 dp0 nt0 ps0 as0 bo0 _ _=>endX x (m.put j (.loop F0 dp0 nt0 ps0 as0 bo0 0 .norm) fun m=>.ret (yes true) m) (fun x=>m.put j (.loop F0 dp0 nt0 ps0 as0 bo0 1 x) fun m=>.ret (yes false) m) (.no 175)) (.no 176)) CO.no) (.no 177)) (.no 178)) (.no 179)) CO.no) (.no 180)) (.no 181)
def qBg (ne nz:Nat)(tb:Rec->Rec):Nat->Rec:=rN (A:=Tg) (B:=List Value->M->CO) (fun _ _ _=>.no 153) fun n ih t l m=>onTg t (fun f=>(func P ne nz f).f (tb ih) n l m) (fun j=>rnd P (tb ih) n j l m)
def call (ne nz:Nat):Nat->Rec:=qBg P ne nz fun ih=>ih
end
end E
end Go.Proofs.YtjnefcbeemkkeaaGreat
namespace Go.Proofs.YtjnefcbeemkkeaaGreat
namespace E
section
variable {α β:Type}
@[simp] theorem bi_eq (b)(x y:β):bi b x y=if b then x else y:=by cases b<;>rfl
@[simp] theorem cN_zero (z)(s:Nat->β):cN z s 0=z:=rfl
@[simp] theorem cN_succ (z)(s:Nat->β)(n):cN z s (n+1)=s n:=rfl
@[simp] theorem natF_eq (n)(k:Nat->β):natF n k=k n:=by cases n<;>rfl
@[simp] theorem cI_nat (z s:Nat->β)(n):cI z s (Int.ofNat n)=z n:=rfl
@[simp] theorem cI_neg (z s:Nat->β)(n):cI z s (Int.negSucc n)=s n:=rfl
@[simp] theorem intF_eq (n)(k:Int->β):intF n k=k n:=by
 cases n with
 |ofNat n=>exact natF_eq n (fun n=>k (.ofNat n))
 |negSucc n=>exact natF_eq n (fun n=>k (.negSucc n))
@[simp] theorem boolF_eq (b)(k:Bool->β):qB6 b k=k b:=by cases b<;>rfl
@[simp] theorem cL_nil (z)(s:α->List α->β):cL z s []=z:=rfl
@[simp] theorem cL_cons (z)(s:α->List α->β)(x)(l):cL z s (x::l)=s x l:=rfl
theorem qyI (z)(s:α->List α->β)(l):cL z s l=match l with|[]=>z|x::t=>s x t:=by cases l<;>rfl
@[simp] theorem rN_zero {A B}(z)(s:Nat->(A->B)->A->B):rN z s 0=z:=rfl
@[simp] theorem rN_succ {A B}(z)(s:Nat->(A->B)->A->B)(n):rN z s (n+1)=s n (rN z s n):=rfl
@[simp] theorem rL_nil {A B}(z)(s:α->List α->(A->B)->A->B):rL z s []=z:=rfl
@[simp] theorem rL_cons {A B}(z)(s:α->List α->(A->B)->A->B)(x)(l):rL z s (x::l)=s x l (rL z s l):=rfl
theorem qwP {j k}(h:kN j=kN k):j=k:=by cases j<;>cases k<;>first|rfl|(exact absurd h (by decide))
theorem qvg (v f)(z:β):qwn v f z=match v with|.int k n=>f k n|_=>z:=by cases v<;>rfl
theorem qvH (v f)(z:β):qxi v f z=match v with|.bool b=>f b|_=>z:=by cases v<;>rfl
theorem qvt (v f)(z:β):qxk v f z=match v with|.string s=>f s|_=>z:=by cases v<;>rfl
theorem qu5 (v f)(z:β):qvZ v f z=match v with|.pointer (some a)=>f a|_=>z:=by cases v<;>first|rfl|(rename_i o;cases o<;>rfl)
theorem qvx (v nil f)(z:β):onSl v nil f z=match v with|.slice none _ _=>nil|.slice (some a) n c=>f a n c|_=>z:=by cases v<;>first|rfl|(rename_i o _ _;cases o<;>rfl)
theorem qwx (v f)(z:β):qBv v f z=match v with|.agg l=>f l.toList|_=>z:=by cases v<;>rfl
theorem qzz (v f)(z:β):qCs v f z=match v with|.tuple l=>f l.toList|_=>z:=by cases v<;>rfl
theorem qvR (v nil f)(z:β):qyr v nil f z=match v with|.map none=>nil|.map (some i)=>f i|_=>z:=by cases v<;>first|rfl|(rename_i o;cases o<;>rfl)
theorem qxW (v f)(z:β):onFn v f z=match v with|.func (.func g) a b=>f g a.toList b.toList|_=>z:=by cases v<;>first|rfl|(rename_i o _ _;cases o<;>rfl)
theorem qyZ (v f)(z:β):onYd v f z=match v with|.func (.yield j) _ _=>f j|_=>z:=by cases v<;>first|rfl|(rename_i o _ _;cases o<;>rfl)
theorem qyY (v nil f)(z:β):onIf v nil f z=match v with|.nilIface=>nil|.iface t v=>f t v|_=>z:=by cases v<;>rfl
theorem qzX (o f)(z:β):onCells o f z=match o with|.cells r t c=>f r t c|_=>z:=by cases o<;>rfl
theorem qvh (o f)(z:β):qwb o f z=match o with|.map e c=>f e c|_=>z:=by cases o<;>rfl
theorem qwy (o f)(z:β):qyq o f z=match o with|.loop a b c d e g h i=>f a b c d e g h i|_=>z:=by cases o<;>rfl
theorem qxX (t)(f g:Nat->β):onTg t f g=match t with|.fn i=>f i|.yd j=>g j:=by cases t<;>rfl
theorem qCa (x f g)(z:β):endX x f g z=match x with|.norm=>f|.ret=>g .ret|.exit i=>g (.exit i)|.pan _=>z:=by cases x<;>rfl
theorem qxj (q f)(z:Nat->β):onQV q f z=match q with|.val v=>f v|.no w=>z w:=by cases q<;>rfl
theorem qvw (q f g)(z:Nat->β):onCO q f g z=match q with|.ret v m=>f v m|.pan v m=>g v m|.no w=>z w:=by cases q<;>rfl
theorem qvd (q f)(z:Nat->β):qwo q f z=match q with|.go x F m=>f x F m|.no w=>z w:=by cases q<;>rfl
theorem qxE (x)(f z:β):onX x f z=match x with|.norm=>f|_=>z:=by cases x<;>rfl
theorem qDo (id x)(f:X->β):inX id x f=match x with|.exit i=>if i=id then f .norm else f (.exit i)|x=>f x:=by cases x<;>first|rfl|(simp only[inX,bi_eq,Nat.beq_eq])
@[simp] theorem cM_mk (f:Nat->T O->β)(n)(t):cM f (.mk n t)=f n t:=rfl
@[simp] theorem dropL_eq (k)(l:List α):qxw k l=l.drop k:=by
 induction k generalizing l with
 |zero=>rfl
 |succ k ih=>cases l with
  |nil=>rfl
  |cons x l=>exact ih l
@[simp] theorem takeF_eq (k)(l)(c:List α->β)(no):qyz k l c no=if k<=l.length then c (l.take k)else no:=by
 unfold qyz
 induction k generalizing l c with
 |zero=>simp
 |succ k ih=>cases l with
  |nil=>simp
  |cons x l=>simp[ih]
def lay (k:Nat)(v l:List α):List α:=l.take k++v++l.drop (k+v.length)
theorem qCn (v l)(c:List α->β)(no):layV v l c no=if v.length<=l.length then c (v++l.drop v.length)else no:=by
 unfold layV
 induction v generalizing l c with
 |nil=>simp
 |cons x v ih=>cases l with
  |nil=>simp
  |cons y l=>simp[ih]
@[simp] theorem layF_eq (k)(v l)(c:List α->β)(no):layF k v l c no=if k+v.length<=l.length then c (lay k v l)else no:=by
 unfold layF
 induction k generalizing l c with
 |zero=>simp[qCn,lay]
 |succ k ih=>cases l with
  |nil=>simp
  |cons y l=>
   simp only[rN_succ,cL_cons,ih,List.length_cons];have:k+1+v.length<=l.length+1↔k+v.length<=l.length:=by omega
   simp only[this];congr 1;simp only[lay,List.take_succ_cons,List.cons_append];rw[show k+1+v.length=(k+v.length)+1 by omega,List.drop_succ_cons]
@[simp] theorem appF_eq (l m)(c:List α->β):appF l m c=c (l++m):=by
 unfold appF
 induction l generalizing c with
 |nil=>rfl
 |cons x l ih=>simp[ih]
@[simp] theorem lenF_eq (l:List α)(c:Nat->β):lenF l c=c l.length:=by
 unfold lenF;have:∀ (l:List α) (n:Nat),rL (A:=Nat) (B:=β) (fun n=>natF n c) (fun _ _ ih n=>ih (Nat.succ n)) l n=c (n+l.length):=by
  intro l
  induction l with
  |nil=>intro n;simp
  |cons x l ih=>intro n;simp only[rL_cons,ih,List.length_cons];congr 1;omega
 rw[this,Nat.zero_add]
def qwI (v:Value):Bool:=match v with
 |.tuple _|.chan _=>false
 |_=>true
@[simp] theorem cellsF_eq (v)(c)(no:β):qzk v c no=if qwI v then c v.cells.toList else no:=by cases v<;>rfl
theorem qAE {k}{v l:List α}(h:k+v.length<=l.length):(lay k v l).length=l.length:=by simp only[lay,List.length_append,List.length_take,List.length_drop];omega
theorem qCo {k}{v l:List α}(h:k+v.length<=l.length)(j):(lay k v l)[j]? = if k<=j/\j<k+v.length then v[j-k]? else l[j]?:=by
 unfold lay;rw[List.append_assoc];by_cases h1:j<k
 . rw[List.getElem?_append_left (by simp;omega),List.getElem?_take,if_pos h1,if_neg (by omega)]
 .
  rw[List.getElem?_append_right (by simp;omega)];simp only[List.length_take,Nat.min_eq_left (show k<=l.length by omega)];by_cases h2:j<k+v.length
  . rw[List.getElem?_append_left (by omega),if_pos ⟨by omega,h2⟩]
  . rw[List.getElem?_append_right (by omega),if_neg (by omega),List.getElem?_drop];congr 1;omega
namespace T
@[simp] theorem cT_n (z)(s:T α->T α->T α->T α->β)(a b c d):cT z s (.n a b c d)=s a b c d:=rfl
@[simp] theorem cT_e (z)(s:T α->T α->T α->T α->β):cT z s .e=z:=rfl
@[simp] theorem cT_l (z)(s:T α->T α->T α->T α->β)(a):cT z s (.l a)=z:=rfl
@[simp] theorem leafT_l (z)(c:α->β)(a):qBt z c (.l a)=c a:=rfl
@[simp] theorem leafT_e (z)(c:α->β):qBt z c (.e:T α)=z:=rfl
@[simp] theorem leafT_n (z)(c:α->β)(a b d e):qBt z c (.n a b d e)=z:=rfl
def kid (g:Nat):T α->T α
 |.n a b c d=>match g with|0=>a|1=>b|2=>c|_=>d
 |_=>.e
def mkK (g:Nat)(x:T α):T α->T α
 |.n a b c d=>match g with|0=>.n x b c d|1=>.n a x c d|2=>.n a b x d|_=>.n a b c x
 |_=>match g with|0=>.n x .e .e .e|1=>.n .e x .e .e|2=>.n .e .e x .e|_=>.n .e .e .e x
def look (z:α):Nat->Nat->T α->α
 |0,_,.l a=>a
 |0,_,_=>z
 |dp+1,k,t=>look z dp (k / 4) (kid (k % 4) t)
def put:Nat->Nat->α->T α->T α
 |0,_,v,_=>.l v
 |dp+1,k,v,t=>mkK (k % 4) (put dp (k / 4) v (kid (k % 4) t)) t
theorem look_e (z):∀ (dp k:Nat),look z dp k (.e:T α)=z
 |0,_=>rfl
 |dp+1,k=>look_e z dp (k / 4)
theorem qwZ (g)(hg:g<4)(x t:T α):kid g (mkK g x t)=x:=by
 have:g=0\/g=1\/g=2\/g=3:=by omega
 rcases this with rfl|rfl|rfl|rfl<;>cases t<;>rfl
theorem qxe (g h)(hg:g<4)(hh:h<4)(hne:g≠h)(x t:T α):kid h (mkK g x t)=kid h t:=by
 have a:g=0\/g=1\/g=2\/g=3:=by omega
 have b:h=0\/h=1\/h=2\/h=3:=by omega
 rcases a with rfl|rfl|rfl|rfl<;>rcases b with rfl|rfl|rfl|rfl<;>cases t<;>first|rfl|exact absurd rfl hne
theorem look_put_same (z)(v):∀ (dp k:Nat) (t:T α),look z dp k (put dp k v t)=v
 |0,_,_=>rfl
 |dp+1,k,t=>by simp only[look,put,qwZ _ (Nat.mod_lt k (by omega))];exact look_put_same z v dp (k / 4) _
theorem look_put_other (z)(v):∀ (dp j k:Nat) (t:T α),j<4 ^ dp->k<4 ^ dp->j≠k->look z dp j (put dp k v t)=look z dp j t
 |0,j,k,t,hj,hk,hne=>absurd (show j=k by simp at hj hk;omega) hne
 |dp+1,j,k,t,hj,hk,hne=>by
  simp only[look,put];by_cases h:k % 4=j % 4
  . rw[h,qwZ _ (Nat.mod_lt j (by omega))];have hj':j / 4<4 ^ dp:=by rw[Nat.pow_succ]at hj;omega
    have hk':k / 4<4 ^ dp:=by rw[Nat.pow_succ]at hk;omega
    exact look_put_other z v dp (j / 4) (k / 4) _ hj' hk' (fun e=>hne (by omega))
  . rw[qxe _ _ (Nat.mod_lt k (by omega)) (Nat.mod_lt j (by omega)) h]
theorem four (g)(hg:g<4):g=0\/g=1\/g=2\/g=3:=by omega
theorem qAv (z t)(c:α->β)(k):getL z t c=c (look z 0 k t):=by cases t<;>rfl
theorem qzo (z f dp k)(hf:∀ t c,f t c=c (look z dp (k / 4) t))(t)(c:α->β):sel f z (k % 4) t c=c (look z (dp+1) k t):=by
 rcases four (k % 4) (Nat.mod_lt k (by omega))with h|h|h|h <;>
  simp only[look,h]<;>cases t<;>simp[sel,getA,getB,getC,getD,kid,look_e,hf]
theorem get_eq (z):∀ (dp k:Nat) (t:T α) (c:α->β),get z dp k t c=c (look z dp k t)
 |0,k,t,c=>qAv z t c k
 |dp+1,k,t,c=>by
  have e:(get z (dp+1) k:GetF α β)=sel (get z dp (k / 4)) z (k % 4):=by show natF (k / 4) (fun k'=>sel (get z dp k') z (k % 4))=_;rw[natF_eq]
  rw[e];exact qzo z _ dp k (fun t c=>get_eq z dp (k / 4) t c) t c
theorem qCD (z)(f:GetF α β)(g)(hg:g<4):(cN (Bx.mk (getA f z)) (fun g=>cN ⟨getB f z⟩ (fun g=>cN ⟨getC f z⟩ (fun _=>⟨getD f z⟩) g) g) g).f=sel f z g:=by rcases four g hg with rfl|rfl|rfl|rfl<;>rfl
@[simp] theorem gets_eq (z):∀ (dp k:Nat) (t:T α) (c:α->β),(gets z dp k).f t c=c (look z dp k t)
 |0,k,t,c=>qAv z t c k
 |dp+1,k,t,c=>by
  have e:(gets z (dp+1) k:Bx (GetF α β)).f=sel (gets z dp (k / 4)).f z (k % 4):=by rw[<- qCD z _ _ (Nat.mod_lt k (by omega))];have e1:(gets z (dp+1) k:Bx (GetF α β))=natF (Nat.div k 4) fun k'=>cN ⟨getA (gets z dp k').f z⟩ (fun g=>cN ⟨getB (gets z dp k').f z⟩ (fun g=>cN ⟨getC (gets z dp k').f z⟩ (fun _=>⟨getD (gets z dp k').f z⟩) g) g) (Nat.mod k 4):=rfl;rw[e1,natF_eq];rfl
  rw[e];exact qzo z _ dp k (fun t c=>gets_eq z dp (k / 4) t c) t c
theorem qzL (f dp k v)(hf:∀ t c,f v t c=c (put dp (k / 4) v t))(t)(c:T α->β):upd f (k % 4) v t c=c (put (dp+1) k v t):=by
 rcases four (k % 4) (Nat.mod_lt k (by omega))with h|h|h|h <;>
  simp only[put,h]<;>cases t<;>simp[upd,updA,updB,updC,updD,kid,mkK,hf]
theorem set_eq (v):∀ (dp k:Nat) (t:T α) (c:T α->β),set dp k v t c=c (put dp k v t)
 |0,k,t,c=>rfl
 |dp+1,k,t,c=>by
  have e:(set (dp+1) k:SetF α β)=upd (set dp (k / 4)) (k % 4):=by show natF (k / 4) (fun k'=>upd (set dp k') (k % 4))=_;rw[natF_eq]
  rw[e];exact qzL _ dp k v (fun t c=>set_eq v dp (k / 4) t c) t c
theorem qCP (f:SetF α β)(g)(hg:g<4):(cN (Bx.mk (updA f)) (fun g=>cN ⟨updB f⟩ (fun g=>cN ⟨updC f⟩ (fun _=>⟨updD f⟩) g) g) g).f=upd f g:=by rcases four g hg with rfl|rfl|rfl|rfl<;>rfl
@[simp] theorem sets_eq (v):∀ (dp k:Nat) (t:T α) (c:T α->β),(sets dp k).f v t c=c (put dp k v t)
 |0,k,t,c=>rfl
 |dp+1,k,t,c=>by
  have e:(sets (dp+1) k:Bx (SetF α β)).f=upd (sets dp (k / 4)).f (k % 4):=by rw[<- qCP _ _ (Nat.mod_lt k (by omega))];have e1:(sets (dp+1) k:Bx (SetF α β))=natF (Nat.div k 4) fun k'=>cN ⟨updA (sets dp k').f⟩ (fun g=>cN ⟨updB (sets dp k').f⟩ (fun g=>cN ⟨updC (sets dp k').f⟩ (fun _=>⟨updD (sets dp k').f⟩) g) g) (Nat.mod k 4):=rfl;rw[e1,natF_eq];rfl
  rw[e];exact qzL _ dp k v (fun t c=>sets_eq v dp (k / 4) t c) t c
end T
def M.tr:M->T O|.mk _ t=>t
def M.at (m:M)(i:Nat):O:=T.look .dead hd i m.tr
def M.setA (m:M)(i:Nat)(o:O):M:=.mk m.next (T.put hd i o m.tr)
def M.push (m:M)(o:O):M:=.mk (m.next+1) (T.put hd m.next o m.tr)
@[simp] theorem M.get_eq (i)(m:M)(c:O->β):m.get i c=c (m.at i):=by cases m;simp[M.get,T.get_eq,M.at,M.tr]
@[simp] theorem M.put_eq (i)(o)(m:M)(c:M->β):m.put i o c=c (m.setA i o):=by cases m;simp[M.put,T.set_eq,M.setA,M.tr,M.next]
@[simp] theorem M.new_eq (o)(m:M)(c)(no:β):m.new o c no=if m.next<hdN then c m.next (m.push o)else no:=by
 cases m with
 |mk n t=>simp only[M.new,cM_mk,bi_eq,T.set_eq,natF_eq,M.next,M.push,M.tr];by_cases h:n<hdN<;>simp[h,Nat.blt_eq]
@[simp] theorem M.cells_eq (i)(m:M)(c)(no:β):m.cells i c no=match m.at i with|.cells r t l=>c r t l|_=>no:=by simp[M.cells,qzX]
@[simp] theorem M.next_setA (m:M)(i)(o):(m.setA i o).next=m.next:=rfl
@[simp] theorem M.next_push (m:M)(o):(m.push o).next=m.next+1:=rfl
theorem qwl:hdN<4 ^ hd:=by decide
theorem M.at_setA_same (m:M)(i)(o):(m.setA i o).at i=o:=T.look_put_same _ _ _ _ _
theorem M.at_setA_other (m:M)(i j o)(hi:i<4 ^ hd)(hj:j<4 ^ hd)(h:j≠i):(m.setA i o).at j=m.at j:=T.look_put_other _ _ _ _ _ _ hj hi h
theorem M.at_push_same (m:M)(o):(m.push o).at m.next=o:=T.look_put_same _ _ _ _ _
theorem M.at_push_other (m:M)(j o)(hn:m.next<4 ^ hd)(hj:j<4 ^ hd)(h:j≠m.next):(m.push o).at j=m.at j:=T.look_put_other _ _ _ _ _ _ hj hn h
end
end E
end Go.Proofs.YtjnefcbeemkkeaaGreat
namespace Go.Proofs.YtjnefcbeemkkeaaGreat
namespace E
structure Lc where
 b:Nat
 o:Nat
 S:Nat
abbrev Mu:=Nat->Option Lc
def one?: Value->Bool
 |.agg _|.tuple _|.chan _=>false
 |_=>true
inductive R (μ:Mu):Value->Value->Prop
 |sc (v) (h:sc v=true):R μ v v
 |any (V):R μ (.chan none) V
 |ptr (i k x) (h:μ i=some x):R μ (.pointer (some ⟨i,k,none⟩)) (.pointer (some ⟨x.b,x.o+k,none⟩))
 |sl (i k n z x cap) (h:μ i=some x) (hc:n<=cap) (hs:x.o+k+cap*z<=x.S):R μ (.slice (some ⟨i,k,none⟩) n z) (.slice (some ⟨x.b,x.o+k,none⟩) n cap)
 |sl0 (i k z x a) (h:μ i=some x):R μ (.slice (some ⟨i,k,none⟩) 0 z) (.slice (some a) 0 0)
 |map (i x) (h:μ i=some x):R μ (.map (some i)) (.map (some x.b))
 | func (f) (a b a' b':List Value) (la:a.length=a'.length) (ha:∀ (j:Nat) (v v':Value),a[j]? = some v->a'[j]? = some v'->R μ v v')
   (lb:b.length=b'.length) (hb:∀ (j:Nat) (v v':Value),b[j]? = some v->b'[j]? = some v'->R μ v v'):R μ (.func (.func f) ⟨a⟩ ⟨b⟩) (.func (.func f) ⟨a'⟩ ⟨b'⟩)
 |yd (j x) (h:μ j=some x):R μ (.func (.yield j) ⟨[]⟩ ⟨[]⟩) (.func (.yield x.b) ⟨[]⟩ ⟨[]⟩)
 |iface (t v v') (h:R μ v v'):R μ (.iface t v) (.iface t v')
 |agg (l l':List Value) (hl:l.length=l'.length) (h:∀ (j:Nat) (v v':Value),l[j]? = some v->l'[j]? = some v'->R μ v v') (h1:∀ v∈l,one? v=true):R μ (.agg ⟨l⟩) (.agg ⟨l'⟩)
 |tup (l l':List Value) (hl:l.length=l'.length) (h:∀ (j:Nat) (v v':Value),l[j]? = some v->l'[j]? = some v'->R μ v v'):R μ (.tuple ⟨l⟩) (.tuple ⟨l'⟩)
def RL (μ:Mu)(l l':List Value):Prop:=l.length=l'.length/\∀ (j:Nat) (v v':Value),l[j]? = some v->l'[j]? = some v'->R μ v v'
def ones (l:List Value):Prop:=∀ v∈l,one? v=true
def Ext (μ μ':Mu):Prop:=∀ i x,μ i=some x->μ' i=some x
theorem Ext.refl (μ):Ext μ μ:=fun _ _ h=>h
theorem Ext.trans {μ ν ξ}(h:Ext μ ν)(k:Ext ν ξ):Ext μ ξ:=fun i x e=>k i x (h i x e)
theorem R.mono {μ μ'}(he:Ext μ μ'){v V}(h:R μ v V):R μ' v V:=by
 induction h with
 |sc v h=>exact .sc v h
 |any V=>exact .any V
 |ptr i k x h=>exact .ptr i k x (he i x h)
 |sl i k n z x cap h hc hs=>exact .sl i k n z x cap (he i x h) hc hs
 |sl0 i k z x a h=>exact .sl0 i k z x a (he i x h)
 |map i x h=>exact .map i x (he i x h)
 |func f a b a' b' la ha lb hb iha ihb=>exact .func f a b a' b' la iha lb ihb
 |yd j x h=>exact .yd j x (he j x h)
 |iface t v v' h ih=>exact .iface t v v' ih
 |agg l l' hl h h1 ih=>exact .agg l l' hl ih h1
 |tup l l' hl h ih=>exact .tup l l' hl ih
theorem RL.mono {μ μ'}(he:Ext μ μ'){l l'}(h:RL μ l l'):RL μ' l l':=⟨h.1,fun j v v' e e'=>(h.2 j v v' e e').mono he⟩
section
variable {μ:Mu}
theorem RL.nil:RL μ [] []:=⟨rfl,by simp⟩
theorem RL.cons {v V l l'}(h:R μ v V)(hl:RL μ l l'):RL μ (v::l) (V::l'):=by
 refine⟨by simp[hl.1],fun j u u' e e'=>?_⟩;cases j with
 |zero=>simp at e e';subst e;subst e';exact h
 |succ j=>exact hl.2 j u u' (by simpa using e) (by simpa using e')
theorem RL.cons_inv {v l L}(h:RL μ (v::l) L):∃ V l',L=V::l'/\R μ v V/\RL μ l l':=by
 cases L with
 |nil=>exact absurd h.1 (by simp)
 |cons V l'=>exact⟨V,l',rfl,h.2 0 v V rfl rfl,by simpa using h.1,fun j u u' e e'=>h.2 (j+1) u u' (by simpa using e) (by simpa using e')⟩
theorem RL.nil_inv {L}(h:RL μ [] L):L=[]:=List.length_eq_zero_iff.1 h.1.symm
theorem RL.append {a b a' b'}(h:RL μ a a')(k:RL μ b b'):RL μ (a++b) (a'++b'):=by
 refine⟨by simp[h.1,k.1],fun j v v' e e'=>?_⟩;by_cases hj:j<a.length
 . rw[List.getElem?_append_left hj]at e;rw[List.getElem?_append_left (by rw[<- h.1];exact hj)]at e';exact h.2 j v v' e e'
 . rw[List.getElem?_append_right (by omega)]at e;rw[List.getElem?_append_right (by rw[<- h.1];omega)]at e';rw[<- h.1]at e';exact k.2 _ v v' e e'
theorem RL.drop {l l'}(h:RL μ l l')(n):RL μ (l.drop n) (l'.drop n):=by refine⟨by simp[h.1],fun j v v' e e'=>?_⟩;rw[List.getElem?_drop]at e e';exact h.2 _ v v' e e'
theorem RL.take {l l'}(h:RL μ l l')(n):RL μ (l.take n) (l'.take n):=by
 refine⟨by simp[h.1],fun j v v' e e'=>?_⟩;rw[List.getElem?_take]at e e';split at e
 . rw[if_pos (by assumption)]at e';exact h.2 _ v v' e e'
 . cases e
theorem RL.lay {v v' l l'}(hv:RL μ v v')(hl:RL μ l l')(k):RL μ (lay k v l) (E.lay k v' l'):=by unfold E.lay;rw[<- hv.1];exact((hl.take k).append hv).append (hl.drop _)
theorem RL.get {l l'}(h:RL μ l l'){j:Nat}{v}(e:l[j]? = some v):∃ V,l'[j]? = some V/\R μ v V:=by
 have hj:j<l'.length:=by rw[<- h.1];exact(List.getElem?_eq_some_iff.1 e).1
 exact⟨_,List.getElem?_eq_getElem hj,h.2 j v _ e (List.getElem?_eq_getElem hj)⟩
theorem ones.nil:ones []:=by intro v h;cases h
theorem ones.cons {v l}(h:one? v=true)(hl:ones l):ones (v::l):=by
 intro u hu;rcases List.mem_cons.1 hu with rfl|hu
 . exact h
 . exact hl u hu
theorem ones.append {a b}(h:ones a)(k:ones b):ones (a++b):=fun v hv=>(List.mem_append.1 hv).elim (h v) (k v)
theorem ones.drop {l}(h:ones l)(n):ones (l.drop n):=fun v hv=>h v (List.mem_of_mem_drop hv)
theorem ones.take {l}(h:ones l)(n):ones (l.take n):=fun v hv=>h v (List.mem_of_mem_take hv)
theorem ones.lay {v l}(h:ones v)(k:ones l)(n):ones (E.lay n v l):=((k.take n).append h).append (k.drop _)
theorem R.int {k n V}(h:R μ (.int k n) V):V=.int k n:=by cases h;rfl
theorem R.bool {b V}(h:R μ (.bool b) V):V=.bool b:=by cases h;rfl
theorem R.str {s V}(h:R μ (.string s) V):V=.string s:=by cases h;rfl
theorem R.nilptr {V}(h:R μ (.pointer none) V):V=.pointer none:=by cases h;rfl
theorem R.nilsl {n c V}(h:R μ (.slice none n c) V):n=0/\c=0/\V=.slice none 0 0:=by
 cases h with
 |sc _ h=>
  unfold E.sc at h;split at h<;>first|cases h|skip
  all_goals simp_all
theorem R.nilmap {V}(h:R μ (.map none) V):V=.map none:=by cases h;rfl
theorem R.nilIface {V}(h:R μ .nilIface V):V=.nilIface:=by cases h;rfl
theorem R.nilFunc {V}(h:R μ .nilFunc V):V=.nilFunc:=by cases h;rfl
theorem R.ptrI {a V}(h:R μ (.pointer (some a)) V):a.spot=none/\∃ x,μ a.block=some x/\V=.pointer (some ⟨x.b,x.o+a.off,none⟩):=by
 cases h with
 |sc _ h=>cases h
 |ptr i k x h=>exact⟨rfl,x,h,rfl⟩
theorem R.slI {a n z V}(h:R μ (.slice (some a) n z) V):a.spot=none/\((n=0/\(∃ x,μ a.block=some x)/\∃ a',V=.slice (some a') 0 0) \/
  ∃ x cap,μ a.block=some x/\n<=cap/\x.o+a.off+cap*z<=x.S/\V=.slice (some ⟨x.b,x.o+a.off,none⟩) n cap):=by
 cases h with
 |sc _ h=>cases h
 |sl i k n z x cap h hc hs=>exact⟨rfl,.inr ⟨x,cap,h,hc,hs,rfl⟩⟩
 |sl0 i k z x a h=>exact⟨rfl,.inl ⟨rfl,⟨x,h⟩,a,rfl⟩⟩
theorem R.mapI {i V}(h:R μ (.map (some i)) V):∃ x,μ i=some x/\V=.map (some x.b):=by
 cases h with
 |sc _ h=>cases h
 |map i x h=>exact⟨x,h,rfl⟩
theorem R.fnI {f a b V}(h:R μ (.func (.func f) a b) V):∃ a' b':Array Value,V=.func (.func f) a' b'/\RL μ a.toList a'.toList/\RL μ b.toList b'.toList:=by
 cases h with
 |sc _ h=>cases h
 |func f a b a' b' la ha lb hb=>exact⟨_,_,rfl,⟨la,ha⟩,⟨lb,hb⟩⟩
theorem R.ydI {j a b V}(h:R μ (.func (.yield j) a b) V):a=⟨[]⟩/\b=⟨[]⟩/\∃ x,μ j=some x/\V=.func (.yield x.b) ⟨[]⟩ ⟨[]⟩:=by
 cases h with
 |sc _ h=>cases h
 |yd j x h=>exact⟨rfl,rfl,x,h,rfl⟩
theorem R.ifI {t v V}(h:R μ (.iface t v) V):∃ v',V=.iface t v'/\R μ v v':=by
 cases h with
 |sc _ h=>cases h
 |iface t v v' h=>exact⟨v',rfl,h⟩
theorem R.aggI {l V}(h:R μ (.agg l) V):∃ l':Array Value,V=.agg l'/\RL μ l.toList l'.toList/\ones l.toList:=by
 cases h with
 |sc _ h=>cases h
 |agg l l' hl h h1=>exact⟨_,rfl,⟨hl,h⟩,h1⟩
theorem R.tupI {l V}(h:R μ (.tuple l) V):∃ l':Array Value,V=.tuple l'/\RL μ l.toList l'.toList:=by
 cases h with
 |sc _ h=>cases h
 |tup l l' hl h=>exact⟨_,rfl,hl,h⟩
theorem R.mkAgg {l l'}(h:RL μ l l')(h1:ones l):R μ (.agg ⟨l⟩) (.agg ⟨l'⟩):=.agg l l' h.1 h.2 h1
theorem R.mkTup {l l'}(h:RL μ l l'):R μ (.tuple ⟨l⟩) (.tuple ⟨l'⟩):=.tup l l' h.1 h.2
theorem R.undef:R μ undef Go.undef:=.tup [] [] rfl (by simp)
theorem R.one {v V}(h:R μ v V)(h1:one? v=true):one? V=true:=by cases h<;>first|exact h1|rfl|cases h1
theorem RL.ones {l l'}(h:RL μ l l')(h1:ones l):E.ones l':=by
 intro V hV;obtain⟨j,hj⟩:=List.getElem?_of_mem hV;have hlt:j<l.length:=by rw[h.1];exact(List.getElem?_eq_some_iff.1 hj).1
 exact(h.2 j _ V (List.getElem?_eq_getElem hlt) hj).one (h1 _ (List.getElem_mem hlt))
theorem qys {v}(h:one? v=true):v.cells = #[v]:=by cases v<;>first|rfl|cases h
theorem R.cells {v V}(h:R μ v V)(hok:qwI v=true):RL μ v.cells.toList V.cells.toList/\E.ones v.cells.toList:=by
 cases v with
 |agg l=>obtain⟨l',rfl,h1,h2⟩:=h.aggI;exact⟨h1,h2⟩
 |tuple _=>cases hok
 |chan _=>cases hok
 |_=>refine⟨?_,.cons rfl .nil⟩;have h1:=h.one rfl;rw[qys h1];exact .cons h .nil
theorem qB0 {v}(h:sc v=true):one? v=true:=by unfold sc at h;split at h<;>first|rfl|cases h
theorem R.scI {v V}(hs:E.sc v=true)(h:R μ v V):V=v:=by cases h<;>first|rfl|cases hs
theorem RL.scs {l L}(hs:l.all sc=true)(h:RL μ l L):L=l:=by
 induction l generalizing L with
 |nil=>exact h.nil_inv
 |cons v l ih=>obtain⟨V,l',rfl,h1,h2⟩:=h.cons_inv;simp only[List.all_cons,Bool.and_eq_true]at hs;rw[h1.scI hs.1,ih hs.2 h2]
theorem qv8 {l}(hs:l.all sc=true):RL μ l l:=by
 induction l with
 |nil=>exact .nil
 |cons v l ih=>simp only[List.all_cons,Bool.and_eq_true]at hs;exact .cons (.sc v hs.1) (ih hs.2)
theorem qwE {l}(hs:l.all sc=true):E.ones l:=fun v hv=>qB0 (List.all_eq_true.1 hs v hv)
theorem qvj {v}(h:qvq v=true):R μ v v:=by
 unfold qvq at h;split at h
 . exact .mkAgg (qv8 h) (qwE h)
 . exact .sc _ h
theorem qAr {v}(h:flat v=true):R μ v v:=by
 unfold flat at h;split at h
 . exact .iface _ _ _ (qvj h)
 . exact qvj h
theorem R.flat1I {v V}(hf:qvq v=true)(h:R μ v V):V=v:=by
 unfold qvq at hf;split at hf
 . obtain⟨l',rfl,h1,_⟩:=h.aggI;have:=h1.scs hf;obtain⟨l'⟩:=l';simp only at this;rw[this]
 . exact h.scI hf
theorem R.flatI {v V}(hf:flat v=true)(h:R μ v V):V=v:=by
 unfold flat at hf;split at hf
 . obtain⟨v',rfl,h1⟩:=h.ifI;rw[h1.flat1I hf]
 . exact h.flat1I hf
end
end E
end Go.Proofs.YtjnefcbeemkkeaaGreat
namespace Go.Proofs.YtjnefcbeemkkeaaGreat
namespace E
def RE (μ:Mu)(es es':List MapEntry):Prop:=es.length=es'.length/\∀ (j:Nat) (e e':MapEntry),es[j]? = some e->es'[j]? = some e'->e'.key=e.key/\qvq e.key=true/\e'.born=e.born/\R μ e.val e'.val
def Fr (ro:Nat)(fr:Nat×Nat)(n S:Nat):Prop:=fr.1=fr.2\/(ro=1/\fr.2<=n)\/(ro=2/\S<=fr.1)
theorem Fr.free {ro fr n S}(h:Fr ro fr n S){k}(hk:ro≠1\/n<=k)(hS:k<S):¬ (fr.1<=k/\k<fr.2):=by
 rcases h with h|⟨h,h'⟩|⟨h,h'⟩
 . omega
 .
  rcases hk with hk|hk
  . exact absurd h hk
  . omega
 . omega
theorem Fr.mv {ro fr n n' S}(h:Fr ro fr n S)(hk:n<=n'\/ro≠1):Fr ro fr n' S:=by
 rcases h with h|⟨h,h'⟩|h
 . exact .inl h
 .
  rcases hk with hk|hk
  . exact .inr (.inl ⟨h,by omega⟩)
  . exact absurd h hk
 . exact .inr (.inr h)
structure RF (μ:Mu) (dp nt:Nat) (F:T Value) (ts:Array Value):Prop where
 size:ts.size=nt
 le:nt<=4 ^ dp
 at_:∀ t,t<4 ^ dp->R μ (T.look undef dp t F) (ts.getD t Go.undef)
theorem RF.mono {μ μ' dp nt F ts}(he:Ext μ μ')(h:RF μ dp nt F ts):RF μ' dp nt F ts:=⟨h.size,h.le,fun t ht=>(h.at_ t ht).mono he⟩
def LS (st:Nat)(pend:X)(r:Loop):Prop:=match st with
 |0=>r.state=.ready/\pend=.norm/\r.pending=none
 |1=>r.state=.done/\((pend=.ret/\r.pending=some .ret)\/∃ id,pend=.exit id/\r.pending=some (.exit id))
 |_=>True
def OR (μ:Mu)(w:World)(i:Nat):O->Prop
 |.dead=>True
 | .cells ro t c=>∃ x vs fr,μ i=some x/\w.heap[x.b]? = some (.cells vs t fr)/\Fr ro fr (x.o+c.length) x.S/\vs.size=x.S/\x.o+c.length<=x.S/\ones c /\
   ∀ (j:Nat) (v:Value),c[j]? = some v->∃ u,vs[x.o+j]? = some u/\R μ v u
 |.map es clock=>∃ x ents,μ i=some x/\w.heap[x.b]? = some (.map ents clock)/\RE μ es ents.toList
 |.siter s pos=>∃ x S,μ i=some x/\x.o=0/\w.heap[x.b]? = some (.stringIter S pos)/\s=S.data.toList.drop pos
 |.miter j since seen st=>∃ x y,μ i=some x/\x.o=0/\μ j=some y/\w.heap[x.b]? = some (.mapIter (some y.b) since seen.toArray st)
 |.loop F dp nt ps as bo st pend=>∃ x r,μ i=some x/\w.heap[x.b]? = some (.loop r)/\r.params.toList=ps/\r.assign=as/\r.body=bo/\RF μ dp nt F r.tmps/\LS st pend r
noncomputable def qxx (P:Program):O->Bool
 |.cells _ t _=>qwQ P t
 |_=>false
def Rt (P:Program)(μ:Mu)(m:M):Prop:=∀ i x,μ i=some x->qxx P (m.at i)=true->x.o=0
def HO (μ:Mu)(w:World)(m:M):Prop:=∀ i x,μ i=some x->OR μ w i (m.at i)
def Gl (P:Program)(μ:Mu):Prop:=P=P/\μ=μ
theorem Gl.mono {P μ μ'}(he:Ext μ μ')(h:Gl P μ):Gl P μ':=⟨rfl,rfl⟩
section
variable {P:Program} {μ:Mu} {dp nt:Nat} {F:T Value} {a:Act} {w:World} {m:M}
theorem zf (hF:RF μ dp nt F a.tmps)(hG:Gl P μ)(x):∃ v,(∀ (β:Type) (c:Value->β),(ev P dp x).f F c=c v)/\R μ v (a.eval x):=by
 cases x with
 |tmp t=>
  by_cases h:t<4 ^ dp
  . exact⟨_,fun β c=>by simp[ev,h,Nat.blt_eq],hF.at_ t h⟩
  . exact⟨unk,fun β c=>by simp[ev,h,Nat.blt_eq],.any _⟩
 |const v=>
  by_cases h:flat v=true
  . exact⟨v,fun β c=>by simp[ev,h],qAr h⟩
  . exact⟨unk,fun β c=>by simp[ev,h],.any _⟩
 |global g=>exact⟨unk,fun β c=>rfl,.any _⟩
 |func f=>exact⟨.func (.func f) #[] #[],fun β c=>rfl,.func f [] [] [] [] rfl (by simp) rfl (by simp)⟩
theorem qvW (hF:RF μ dp nt F a.tmps)(hG:Gl P μ):∀ (l:List Operand),∃ r,(∀ (β:Type) (c:List Value->β),evs P dp l F c=c r)/\RL μ r (l.map a.eval)
 |[]=>⟨[],fun _ _=>rfl,.nil⟩
 |x::l=>by obtain⟨v,h1,h2⟩:=zf hF hG x;obtain⟨r,h3,h4⟩:=qvW hF hG l;exact⟨v::r,fun β c=>by simp[evs,h1,h3],.cons h2 h4⟩
theorem quZ {t}(h:okT P t=true):∃ i,P.info? t=some i:=by
 unfold okT Program.underlying at h;cases hi:P.info? t with
 |none=>simp[hi]at h
 |some i=>exact⟨i,rfl⟩
theorem run_sizeOf {t}(h:∃ i,P.info? t=some i)(w):(sizeOf t).run P w=.ok (szT P t) w:=by obtain⟨i,hi⟩:=h;simp[sizeOf,typeInfo,hi,szT]
theorem qv2 {t}(h:okT P t=true)(w):(isAgg t).run P w=.ok (aggT P t) w:=by unfold okT at h;obtain⟨d,hd⟩:=Option.isSome_iff_exists.1 h;cases d<;>simp[isAgg,run_underlying hd,aggT,hd]
theorem qcD {α s}{x:α}(h:qo P s=some x)(w):s.run P w=.ok x w:=by
 induction s with
 |pure b=>simp only[qo,Option.some.injEq]at h;subst h;rfl
 |program k ih=>exact ih P h
 |mark m k ih=>exact ih h
 |_=>simp[qo]at h
theorem qEb {β}(b)(c:UInt8->β):u8F b c=c b:=by simp[u8F]
theorem qAf {β}(l)(c:List UInt8->β):qAe l c=c l:=by
 unfold qAe
 induction l generalizing c with
 |nil=>rfl
 |cons x l ih=>rw[rL_cons,qEb];exact ih fun r=>c (x::r)
theorem qCQ {v no r}(hno:∀ r,no≠.val r)(h:valF v (fun v=>QV.val v) no=.val r):r=v/\sc v=true:=by
 cases v with
 |pointer o=>cases o with
  |none=>cases h;exact⟨rfl,rfl⟩
  |some a=>exact absurd h (hno r)
 |bool b=>simp[valF]at h;exact⟨h.symm,rfl⟩
 |int k n=>simp[valF]at h;exact⟨h.symm,rfl⟩
 |float k n=>simp[valF]at h;exact⟨h.symm,rfl⟩
 |string s=>simp[valF,strF,qAf]at h;exact⟨h.symm,rfl⟩
 |_=>exact absurd h (hno r)
theorem qw1 {s r}(h:qy2 P s=.val r)(w):s.run P w=.ok r w/\sc r=true:=by
 unfold qy2 at h;split at h
 . rename_i v hv;obtain⟨rfl,h2⟩:=qCQ (by intro r h;cases h) h;exact⟨qcD hv w,h2⟩
 . cases h
def Does (P:Program)(μ:Mu)(w:World)(s:Sem Value)(v:Value):Prop:=∃ V,s.run P w=.ok V w/\R μ v V
theorem qgk {t off l L v}(e:(qy1 P t).f off l=.val v)(h:RL μ l L)(h1:ones l):Does P μ w (part t ⟨L⟩ off) v:=by
 unfold qy1 at e;simp only[bi_eq]at e;split at e
 . cases e
 rename_i hok;have hok:okT P t=true:=by simpa [notB]using hok
 split at e
 .
  rename_i ha;simp only[dropL_eq,takeF_eq]at e;split at e
  . cases e;refine⟨.agg ⟨(L.drop off).take (szT P t)⟩,?_,.mkAgg ((h.drop _).take _) ((h1.drop _).take _)⟩;simp only[part,Sem.run_bind,qv2 hok,ha,Result.andThen_ok,if_true,run_sizeOf (quZ hok),Sem.run_pure];congr 2;apply Array.ext';simp[Array.toList_extract,List.extract_eq_take_drop]
  . cases e
 .
  rename_i ha;simp only[dropL_eq,qyI]at e;split at e
  . cases e
  . rename_i x r hd;cases e;have hx:l[off]? = some v:=by have:=congrArg (·[0]?) hd;simpa [List.getElem?_drop]using this
    obtain⟨V,hV,hr⟩:=h.get hx;refine⟨V,?_,hr⟩;have ha':aggT P t=false:=by simpa using ha
    simp[part,qv2 hok,ha',hV]
theorem addr_add (b o n):(⟨b,o,none⟩:Addr).add n=⟨b,o+n,none⟩:=by
 unfold Addr.add;split
 . rename_i h;simp[h]
 . rfl
theorem qfQ {i k n x ro t c}(hO:OR μ w i (.cells ro t c))(hx:μ i=some x)(hn:k+n<=c.length):
  ∃ us:List Value,us.length=n/\RL μ ((c.drop k).take n) us/\(∀ (j:Nat) (u:Value),us[j]? = some u->w.cell? ((⟨x.b,x.o+k,none⟩:Addr).add j)=some u)/\ones us:=by
 obtain⟨x',vs,fr,e1,e2,e3,e4,e5,e6,e7⟩:=hO;rw[hx]at e1;cases e1;have key:∀ j,j<n->∃ v u,c[k+j]? = some v/\vs[x.o+k+j]? = some u/\R μ v u:=by
  intro j hj;have hlt:k+j<c.length:=by omega
  obtain⟨u,hu,hr⟩:=e7 (k+j) _ (List.getElem?_eq_getElem hlt);exact⟨_,u,List.getElem?_eq_getElem hlt,by rw[Nat.add_assoc];exact hu,hr⟩
 have hrl:RL μ ((c.drop k).take n) ((List.range n).map fun j=>(vs[x.o+k+j]?).getD .nilIface):=by
  refine⟨by simp;omega,fun j v v' h1 h2=>?_⟩;have hj:j<n:=by have:=(List.getElem?_eq_some_iff.1 h2).1;simpa using this
  obtain⟨v0,u0,a1,a2,a3⟩:=key j hj;rw[List.getElem?_take,if_pos hj,List.getElem?_drop,a1]at h1;cases h1;simp only[List.getElem?_map,List.getElem?_range hj,Option.map_some,Option.some.injEq]at h2;rw[a2]at h2;cases h2;exact a3
 refine⟨_,by simp,hrl,fun j u hu=>?_,hrl.ones ((e6.drop _).take _)⟩;have hj:j<n:=by have:=(List.getElem?_eq_some_iff.1 hu).1;simpa using this
 obtain⟨v0,u0,a1,a2,a3⟩:=key j hj;simp only[List.getElem?_map,List.getElem?_range hj,Option.map_some,Option.some.injEq]at hu;rw[a2]at hu;cases hu;rw[addr_add];simp[World.cell?,e2,a2]
theorem qzs {t i k x v}(e:ldQ P t i k m=.val v)(hO:OR μ w i (m.at i))(hx:μ i=some x):Does P μ w (loadVar t ⟨x.b,x.o+k,none⟩) v:=by
 unfold ldQ at e;rw[M.cells_eq]at e;split at e
 .
  rename_i ro t' c hc;rw[hc]at hO;unfold qy1 at e;simp only[bi_eq]at e;split at e
  . cases e
  rename_i hok;have hok:okT P t=true:=by simpa [notB]using hok
  split at e
  .
   rename_i ha;simp only[dropL_eq,takeF_eq]at e;split at e
   .
    rename_i hle;cases e;simp only[List.length_drop]at hle;by_cases hk:k<=c.length
    . obtain⟨us,u1,u2,u3,u4⟩:=qfQ (k:=k) (n:=szT P t) hO hx (by omega);refine⟨.agg ⟨us⟩,?_,.mkAgg u2 ?_⟩
      . have:=run_loadCells_list (P:=P) (w:=w) ⟨x.b,x.o+k,none⟩ us u3;rw[u1]at this;simp only[loadVar,Sem.run_bind,qv2 hok,ha,Result.andThen_ok,if_true,run_sizeOf (quZ hok),this,Sem.run_pure]
      . obtain⟨_,_,_,_,_,_,_,_,h6,_⟩:=hO;exact(h6.drop _).take _
    . have h0:szT P t=0:=by omega
      refine⟨.agg ⟨[]⟩,?_,?_⟩
      . have:=run_loadCells_list (P:=P) (w:=w) ⟨x.b,x.o+k,none⟩ [] (by simp);simp only[List.length_nil]at this;simp only[loadVar,Sem.run_bind,qv2 hok,ha,Result.andThen_ok,if_true,run_sizeOf (quZ hok),h0,this,Sem.run_pure]
      . rw[h0];exact .mkAgg .nil .nil
   . cases e
  .
   rename_i ha;have ha':aggT P t=false:=by simpa using ha
   simp only[dropL_eq,qyI]at e;split at e
   . cases e
   . rename_i y r hd;cases e;have hlt:k+1<=c.length:=by have:=congrArg List.length hd;simp at this;omega
     obtain⟨us,u1,u2,u3,u4⟩:=qfQ (n:=1) hO hx hlt;rw[hd]at u2;obtain⟨V,l',rfl,hr,hl⟩:=RL.cons_inv u2;refine⟨V,?_,hr⟩;have:=u3 0 V rfl;rw[addr_add,Nat.add_zero]at this;simp only[loadVar,Sem.run_bind,qv2 hok,ha',Result.andThen_ok,Bool.false_eq_true,if_false];simp only[load,Sem.run,this]
 . cases e
end
end E
end Go.Proofs.YtjnefcbeemkkeaaGreat
namespace Go.Proofs.YtjnefcbeemkkeaaGreat
namespace E
section
variable {P:Program} {μ:Mu} {dp nt:Nat} {F:T Value} {a:Act} {w:World} {m:M}
theorem ve (b):notB b = !b:=by cases b<;>rfl
theorem qu1 (a b):andB a b=(a&&b):=by cases a<;>rfl
theorem qxm (a b):orB a b=(a||b):=by cases a<;>rfl
theorem qAH (x y):ltI x y=decide (x<y):=by cases x<;>cases y<;>simp only[ltI,cI_nat,cI_neg]<;>(rw[Bool.eq_iff_iff];simp[Nat.blt_eq])<;>omega
theorem qzm (x y):eqI x y=(x==y):=by cases x<;>cases y<;>simp only[eqI,cI_nat,cI_neg]<;>(rw[Bool.eq_iff_iff];simp)<;>omega
theorem qAR (b):qB b=.val (.bool b):=by simp[qB]
theorem qCx (k)(n):qI k n=.val (.int k n):=by simp[qI]
theorem wrap_small {n}(h1 : -9223372036854775808<=n)(h2:n<=9223372036854775807):IntKind.i64.wrap n=n:=by rw[IntKind.wrap_i64];omega
theorem qBb (n):wrap64 n=.val (.int .i64 (IntKind.i64.wrap n)):=by
 cases n with
 |ofNat m=>
  simp only[wrap64,cI_nat,bi_eq,natF_eq,qCx];split
  . rename_i h;have h:m<=9223372036854775807:=by simpa [qzp]using h
    rw[wrap_small (by simp) (by simp;omega)]
  . rfl
 |negSucc m=>
  simp only[wrap64,cI_neg,bi_eq,natF_eq,qCx];split
  . rename_i h;have h:m<=9223372036854775807:=by simpa [qzp]using h
    rw[wrap_small (by omega) (by omega)]
  . rfl
theorem qzM (k)(n):(wrapN k).f n=.val (.int k (k.wrap n)):=by
 simp only[wrapN,bi_eq];split
 . rename_i h;have:k=.i64:=qwP (Nat.eq_of_beq_eq_true h);subst this;exact qBb n
 . exact qCx _ _
theorem qBY {k v r f}(h:onK k v f=.val r):∃ n,v=.int k n/\f n=.val r:=by
 unfold onK at h;rw[qvg]at h;split at h
 .
  rename_i k' n;simp only[bi_eq]at h;split at h
  . rename_i hk;have:k'=k:=qwP (by simpa using hk);subst this;exact⟨n,rfl,h⟩
  . cases h
 . cases h
theorem qwp {v r c}(h:qyG v c=.val r):∃ k n,v=.int k (Int.ofNat n)/\c n=.val r:=by
 unfold qyG at h;rw[qvg]at h;split at h
 .
  rename_i k n;cases n with
  |ofNat n=>exact⟨k,n,rfl,h⟩
  |negSucc n=>cases h
 . cases h
theorem qyi (a b):eqS a b=(a==b):=by
 unfold eqS
 induction a generalizing b with
 |nil=>cases b<;>rfl
 |cons x a ih=>
  cases b with
  |nil=>rfl
  |cons y b=>
   rw[rL_cons,cL_cons,ih,bi_eq];by_cases h:x=y
   . subst h;simp
   . have:x.toNat≠y.toNat:=fun e=>h (UInt8.toNat_inj.1 e);simp[h,this]
theorem qxD {d v r}(h:nilK d v=some r):(∃ e o,d=.pointer e/\v=.pointer o/\r=o.isNone)\/(∃ e o n k,d=.slice e/\v=.slice o n k/\r=o.isNone) \/
  (∃ e f o,d=.map e f/\v=.map o/\r=o.isNone)\/(∃ p q b,d=.func p q b/\((v=.nilFunc/\r=true)\/∃ f a c,v=.func f a c/\r=false))\/(∃ ms,d=.interface ms/\((v=.nilIface/\r=true)\/∃ t u,v=.iface t u/\r=false)):=by
 unfold nilK at h;split at h
 . cases h;exact .inl ⟨_,_,rfl,rfl,rfl⟩
 . cases h;exact .inr (.inl ⟨_,_,_,_,rfl,rfl,rfl⟩)
 . cases h;exact .inr (.inr (.inl ⟨_,_,_,rfl,rfl,rfl⟩))
 . cases h;exact .inr (.inr (.inr (.inl ⟨_,_,_,rfl,.inl ⟨rfl,rfl⟩⟩)))
 . cases h;exact .inr (.inr (.inr (.inl ⟨_,_,_,rfl,.inr ⟨_,_,_,rfl,rfl⟩⟩)))
 . cases h;exact .inr (.inr (.inr (.inr ⟨_,rfl,.inl ⟨rfl,rfl⟩⟩)))
 . cases h;exact .inr (.inr (.inr (.inr ⟨_,rfl,.inr ⟨_,_,rfl,rfl⟩⟩)))
 . cases h
theorem qzx {d v c r}(h1:nilK d v=some r)(h2:nilK d c=some true):(∃ e o,d=.pointer e/\v=.pointer o/\c=.pointer none/\r=o.isNone) \/
  (∃ e o n k n' k',d=.slice e/\v=.slice o n k/\c=.slice none n' k'/\r=o.isNone)\/(∃ e f o,d=.map e f/\v=.map o/\c=.map none/\r=o.isNone) \/
  (∃ p q b,d=.func p q b/\c=.nilFunc/\((v=.nilFunc/\r=true)\/∃ f a c,v=.func f a c/\r=false))\/(∃ ms,d=.interface ms/\c=.nilIface/\((v=.nilIface/\r=true)\/∃ t u,v=.iface t u/\r=false)):=by
 rcases qxD h1 with⟨e,o,rfl,rfl,rfl⟩|⟨e,o,n,k,rfl,rfl,rfl⟩|⟨e,f,o,rfl,rfl,rfl⟩|⟨p,q,b,rfl,hv⟩|⟨ms,rfl,hv⟩ <;>
  rcases qxD h2 with⟨e',o',hd,rfl,hr⟩|⟨e',o',n',k',hd,rfl,hr⟩|⟨e',f',o',hd,rfl,hr⟩|⟨p',q',b',hd,hc⟩|⟨ms',hd,hc⟩<;>cases hd
 . cases o'<;>simp at hr;exact .inl ⟨_,_,rfl,rfl,rfl,rfl⟩
 . cases o'<;>simp at hr;exact .inr (.inl ⟨_,_,_,_,_,_,rfl,rfl,rfl,rfl⟩)
 . cases o'<;>simp at hr;exact .inr (.inr (.inl ⟨_,_,_,rfl,rfl,rfl,rfl⟩))
 .
  rcases hc with⟨rfl,_⟩|⟨_,_,_,_,h⟩
  . exact .inr (.inr (.inr (.inl ⟨_,_,_,rfl,rfl,hv⟩)))
  . cases h
 .
  rcases hc with⟨rfl,_⟩|⟨_,_,_,h⟩
  . exact .inr (.inr (.inr (.inr ⟨_,rfl,rfl,hv⟩)))
  . cases h
theorem qyP {t d}(hu:P.underlying t=some d){v c r}(h1:nilK d v=some r)(h2:nilK d c=some true)(k)(w):
  (Op.equalIn (k+1) t v c).run P w=.ok r w/\(Op.equalIn (k+1) t c v).run P w=.ok r w:=by
 rcases qzx h1 h2 with⟨e,o,rfl,rfl,rfl,rfl⟩|⟨e,o,n,k,n',k',rfl,rfl,rfl,rfl⟩|⟨e,f,o,rfl,rfl,rfl,rfl⟩|⟨p,q,b,rfl,rfl,⟨rfl,rfl⟩|⟨_,_,_,rfl,rfl⟩⟩|⟨ms,rfl,rfl,⟨rfl,rfl⟩|⟨_,_,rfl,rfl⟩⟩
 . cases o<;>simp[Op.equalIn,run_underlying hu]
 . cases o<;>simp[Op.equalIn,run_underlying hu]
 . cases o<;>simp[Op.equalIn,run_underlying hu]
 all_goals simp[Op.equalIn,run_underlying hu]
theorem qAo {t d}(hu:P.underlying t=some d){v c r}(h1:nilK d v=some r)(h2:nilK d c=some true)(w):
  (Op.equal t v c).run P w=.ok r w/\(Op.equal t c v).run P w=.ok r w:=qyP hu h1 h2 9999 w
theorem R.nilK {d v V r}(h:R μ v V)(e:E.nilK d v=some r):E.nilK d V=some r:=by
 cases h with
 |sc v h=>exact e
 |any V=>cases d<;>simp[E.nilK]at e
 |ptr i k x h=>cases d<;>simp_all[E.nilK]
 |sl i k n z x cap h hc hs=>cases d<;>simp_all[E.nilK]
 |sl0 i k z x a h=>cases d<;>simp_all[E.nilK]
 |map i x h=>cases d<;>simp_all[E.nilK]
 |func f a b a' b' la ha lb hb=>cases d<;>simp_all[E.nilK]
 |yd j x h=>cases d<;>simp_all[E.nilK]
 |iface t v v' h=>cases d<;>simp_all[E.nilK]
 |agg l l' hl h h1=>cases d<;>simp[E.nilK]at e
 |tup l l' hl h=>cases d<;>simp[E.nilK]at e
theorem qxR (op)(r):qAn op r=.val (.bool (if qym op then r else !r)):=by simp[qAn,qAR,ve]
theorem qAL {d y}(h:nilC d y=true):∃ c,y=.const c/\nilK d c=some true:=by
 cases y with
 |const c=>
  refine⟨c,rfl,?_⟩;unfold nilC at h;simp only at h;split at h
  . rename_i b hb;rw[hb,h]
  . cases h
 |_=>cases h
def isC (x:Operand):Bool:=x matches .const _
theorem qyO (op t){x y}(h:isC x=true\/isC y=true)(w):(eqGuard op t x y .nilIface .nilIface).run P w=.ok () w:=by
 cases op<;>first|rfl|skip
 all_goals (cases x<;>cases y<;>first|rfl|(exact absurd h (by decide))|(simp[isC]at h))
theorem qAM {t d}(hu:P.underlying t=some d){op}(hop:isEq op=true){x y V c r}(h1:nilK d V=some r)(h2:nilK d c=some true)(w)(hx:isC x=true\/isC y=true):
  ((do eqGuard op t x y V c;binOp op t V c:Sem Value).run P w=.ok (.bool (if qym op then r else !r)) w) /\
  ((do eqGuard op t x y c V;binOp op t c V:Sem Value).run P w=.ok (.bool (if qym op then r else !r)) w):=by
 obtain⟨e1,e2⟩:=qAo hu h1 h2 w;have gn:=qyO (P:=P) op t hx w;cases op<;>first|(exact absurd hop (by decide))|skip
 all_goals
  rcases qzx h1 h2 with⟨e,o,rfl,rfl,rfl,rfl⟩|⟨e,o,n,k,n',k',rfl,rfl,rfl,rfl⟩|⟨e,f,o,rfl,rfl,rfl,rfl⟩|⟨p,q,b,rfl,rfl,⟨rfl,rfl⟩|⟨_,_,_,rfl,rfl⟩⟩|⟨ms,rfl,rfl,⟨rfl,rfl⟩|⟨_,_,rfl,rfl⟩⟩
 all_goals first
  |(constructor<;>simp only[Sem.run_bind,gn,Result.andThen_ok,binOp,e1,e2,Sem.run_pure]<;>rfl)
  |(constructor<;>simp[eqGuard,binOp,e1,e2,qym])
end
end E
end Go.Proofs.YtjnefcbeemkkeaaGreat
namespace Go.Proofs.YtjnefcbeemkkeaaGreat
namespace E
section
variable {P:Program} {μ:Mu} {dp nt:Nat} {F:T Value} {a:Act} {w:World} {m:M}
theorem R.mkB (b):R μ (.bool b) (.bool b):=.sc _ rfl
theorem R.mkI (k)(n):R μ (.int k n) (.int k n):=.sc _ rfl
theorem R.mkS (s):R μ (.string s) (.string s):=.sc _ rfl
theorem qAw (op t x y j k p q)(w):(eqGuard op t x y (.int j p) (.int k q)).run P w=.ok () w:=by cases op<;>rfl
theorem qAy (op t x y p q)(w):(eqGuard op t x y (.string p) (.string q)).run P w=.ok () w:=by cases op<;>rfl
theorem qAx (op t x y p q)(w):(eqGuard op t x y (.pointer p) (.pointer q)).run P w=.ok () w:=by cases op<;>rfl
theorem qCm {op k p q v}(he:easy op=true)(e:(qAA k op).f p q=.val v)(t)(w):
  (binOp op t (.int k p) (.int k q)).run P w=.ok v w/\sc v=true:=by
 cases op<;>first|(exact absurd he (by decide))|skip
 all_goals
  simp only[qAA,qzM,qAR,ve,qzm,qAH,QV.val.injEq]at e;subst e;refine⟨?_,rfl⟩
 . simp[binOp,Op.intArith];try rfl
 . simp[binOp,Op.intArith];try rfl
 . simp[binOp,Op.intArith];try rfl
 . simp[binOp,Op.intCmp]
 . simp[binOp,Op.intCmp];rfl
 . simp[binOp,Op.intCmp]
 . simp only[binOp,Op.intCmp,ne_eq,not_true_eq_false,if_false,Sem.run_pure];congr 3;rw[Bool.eq_iff_iff];simp
 . simp[binOp,Op.intCmp]
 . simp only[binOp,Op.intCmp,ne_eq,not_true_eq_false,if_false,Sem.run_pure];congr 3;rw[Bool.eq_iff_iff];simp
theorem qCK {op p q v}(he:qC2 op=true)(e:(qyx op).f p q=.val v)(t)(w):
  (binOp op t (.string p) (.string q)).run P w=.ok v w/\sc v=true:=by
 cases op<;>first|(exact absurd he (by decide))|skip
 .
  simp only[qyx,appF_eq,lenF_eq,bi_eq,bytes,List.length_append,Array.length_toList]at e;split at e
  .
   rename_i hle;have hle:p.data.size+q.data.size<=1048576:=by simpa [room]using hle
   cases e;refine⟨?_,rfl⟩;have h:¬ (((p.size+q.size:Nat):Int)>IntKind.i64.max):=by
    have:p.size+q.size<=1048576:=hle;have h2:IntKind.i64.max=9223372036854775807:=by decide
    omega
   simp only[binOp,Op.stringOp,h,if_false,Sem.run_pure];congr 2
  . cases e
 . simp only[qyx,qAR,qyi,bytes,QV.val.injEq]at e;subst e;exact⟨by simp[binOp,Op.stringOp,ByteArray.toList_eq],rfl⟩
 . simp only[qyx,qAR,ve,qyi,bytes,QV.val.injEq]at e;subst e;exact⟨by simp[binOp,Op.stringOp,ByteArray.toList_eq],rfl⟩
theorem qCv {op}(he:isEq op=true){t e}(hu:P.underlying t=some (.pointer e))(hz:szT P e≠0)(b p q)(w):
  (binOp op t (.pointer (some ⟨b,p,none⟩)) (.pointer (some ⟨b,q,none⟩))).run P w=.ok (.bool (if qym op then Nat.beq p q else !(Nat.beq p q))) w:=by
 have hi:∃ i,P.info? e=some i:=by
  unfold szT at hz;cases hi:P.info? e with
  |none=>simp[hi]at hz
  |some i=>exact⟨i,rfl⟩
 have heq:∀ d,(Op.equalIn (d+1) t (.pointer (some ⟨b,p,none⟩)) (.pointer (some ⟨b,q,none⟩))).run P w=.ok (Nat.beq p q) w:=by
  intro d;have:((⟨b,p,none⟩:Addr)==⟨b,q,none⟩)=Nat.beq p q:=by rw[Bool.eq_iff_iff];simp
  simp[Op.equalIn,run_underlying hu,run_sizeOf hi,hz,sameAddr,this]
 have h1:(Op.equal t (.pointer (some ⟨b,p,none⟩)) (.pointer (some ⟨b,q,none⟩))).run P w=.ok (Nat.beq p q) w:=heq 9999;cases op<;>first|(exact absurd he (by decide))|skip
 . simp[binOp,h1,qym]
 . simp[binOp,h1,qym]
theorem qAb {op t x y A B V1 V2 v}(e:(binQ P op t x y).f A B=.val v)(h1:R μ A V1)(h2:R μ B V2)(hx:∀ c,x=.const c->V1=c)(hy:∀ c,y=.const c->V2=c):
  Does P μ w (do eqGuard op t x y V1 V2;binOp op t V1 V2) v:=by
 have slow:∀ {v},qwK P op t x y A B=.val v->Does P μ w (do eqGuard op t x y V1 V2;binOp op t V1 V2) v:=by
  intro v e;unfold qwK at e;split at e
  . rename_i hf;simp only[Bool.and_eq_true]at hf;have:=h1.flatI hf.1;subst this;have:=h2.flatI hf.2;subst this;obtain⟨r1,r2⟩:=qw1 e w;exact⟨v,r1,.sc v r2⟩
  . cases e
 unfold binQ at e;split at e
 . cases e
 rename_i d hu;simp only[bi_eq,qu1]at e;split at e
 .
  rename_i hc;simp only[Bool.and_eq_true]at hc;obtain⟨c,rfl,hc2⟩:=qAL hc.2;have:=hy c rfl;subst this;simp only at e;split at e
  . rename_i r hr;rw[qxR]at e;cases e;exact⟨_,(qAM hu hc.1 (h1.nilK hr) hc2 w (.inr rfl)).1,.mkB _⟩
  . cases e
 split at e
 .
  rename_i hc;simp only[Bool.and_eq_true]at hc;obtain⟨c,rfl,hc2⟩:=qAL hc.2;have:=hx c rfl;subst this;simp only at e;split at e
  . rename_i r hr;rw[qxR]at e;cases e;exact⟨_,(qAM hu hc.1 (h2.nilK hr) hc2 w (.inl rfl)).2,.mkB _⟩
  . cases e
 split at e
 .
  rename_i k;split at e
  . rename_i he;simp only at e;obtain⟨p,hp,e1⟩:=qBY e;obtain⟨q,hq,e2⟩:=qBY e1;clear e e1;subst hp;subst hq;have:=h1.int;subst this;have:=h2.int;subst this;obtain⟨r1,r2⟩:=qCm (P:=P) he e2 t w;exact⟨v,by simp only[Sem.run_bind,qAw,Result.andThen_ok,r1],.sc v r2⟩
  . exact slow e
 .
  split at e
  .
   rename_i he;simp only[qvt]at e;split at e
   . split at e
     . rename_i p _ q;have:=h1.str;subst this;have:=h2.str;subst this;obtain⟨r1,r2⟩:=qCK (P:=P) he e t w;exact⟨v,by simp only[Sem.run_bind,qAy,Result.andThen_ok,r1],.sc v r2⟩
     . cases e
   . cases e
  . exact slow e
 .
  rename_i el _ _;split at e
  .
   rename_i he;simp only[Bool.and_eq_true,ve,Bool.not_eq_true']at he;unfold qDB at e;simp only[qu5,bi_eq]at e;split at e
   .
    rename_i p;split at e
    .
     rename_i q;split at e
     . rename_i hb;have hb:p.block=q.block:=Nat.eq_of_beq_eq_true hb;rw[qxR]at e;cases e;obtain⟨_,z,hz,rfl⟩:=h1.ptrI;obtain⟨_,z',hz',rfl⟩:=h2.ptrI;rw[<- hb,hz]at hz';cases hz';have hs:szT P el≠0:=by intro h0;rw[h0]at he;simp at he
       have r:=qCv he.1 hu hs z.b (z.o+p.off) (z.o+q.off) w;have hbeq:Nat.beq (z.o+p.off) (z.o+q.off)=Nat.beq p.off q.off:=by rw[Bool.eq_iff_iff];simp
       rw[hbeq]at r;exact⟨_,by simp only[Sem.run_bind,qAx,Result.andThen_ok,r],.mkB _⟩
     . cases e
    . cases e
   . cases e
  . exact slow e
 . exact slow e
end
end E
end Go.Proofs.YtjnefcbeemkkeaaGreat
namespace Go.Proofs.YtjnefcbeemkkeaaGreat
namespace E
section
variable {P:Program} {μ:Mu} {dp nt:Nat} {F:T Value} {a:Act} {w:World} {m:M}
theorem splice (cells new:Array Value)(off)(h:off+new.size<=cells.size):
  (new.zipIdx.foldl (fun cs (c,j)=>cs.setIfInBounds (off+j) c) cells).toList=lay off new.toList cells.toList:=by
 have go:∀ (l:List Value) (k:Nat) (cs:Array Value),off+k+l.length<=cs.size ->
   ((l.zipIdx k).foldl (fun (cs:Array Value) (x:Value×Nat)=>cs.setIfInBounds (off+x.2) x.1) cs).toList=cs.toList.take (off+k)++l++cs.toList.drop (off+k+l.length):=by
  intro l
  induction l with
  |nil=>intro k cs _;simp
  |cons v l ih=>intro k cs hk;simp only[List.length_cons]at hk;simp only[List.zipIdx_cons,List.foldl_cons];rw[ih (k+1) _ (by simp;omega)];simp only[Array.toList_setIfInBounds,List.length_cons];rw[List.drop_set_of_lt (by omega)];rw[show cs.toList.set (off+k) v=cs.toList.set (off+k) v from rfl,show List.take (off+(k+1)) (cs.toList.set (off+k) v)=List.take (off+k) cs.toList++[v]from by rw[show off+(k+1)=off+k+1 from by omega,List.take_add_one,List.take_set_of_le (by omega),List.getElem?_set_self (by simp;omega)];rfl];rw[show off+(k+1)+l.length=off+k+(l.length+1)from by omega];simp
 have:=go new.toList 0 cells (by simpa using h);rw[<- Array.foldl_toList,Array.toList_zipIdx];simpa [lay]using this
theorem qv4 (hF:RF μ dp nt F a.tmps)(hG:Gl P μ){place}:∀ (ps:List (Nat×Operand)) (l L:List Value) {c:List Value->QV} {v:Value},(qwU P dp place ps).f F l c=.val v->RL μ l L->ones l ->
  ∃ l' L',Instr.fill place ⟨L⟩ (ps.map fun (i,x)=>(i,a.eval x))=some ⟨L'⟩/\RL μ l' L'/\ones l'/\c l'=.val v/\l'.length=l.length
 |[],l,L,c,v,e,h,h1=>⟨l,L,rfl,h,h1,e,rfl⟩
 |(i,x)::ps,l,L,c,v,e,h,h1=>by
  unfold qwU at e;split at e
  .
   rename_i off sz hpl;obtain⟨u,hu,hr⟩:=zf hF hG x;simp only[hu,cellsF_eq,lenF_eq,bi_eq,layF_eq]at e;split at e
   .
    rename_i hok;obtain⟨hc,ho⟩:=hr.cells hok;split at e
    . rename_i hsz;have hsz:u.cells.toList.length=sz:=Nat.eq_of_beq_eq_true hsz;split at e
      . rename_i hle;have hl:off+(a.eval x).cells.size<=L.length:=by have:=hc.1;have:=h.1;simp only[Array.length_toList]at *;omega
        obtain⟨l',L',f1,f2,f3,f4,f5⟩:=qv4 hF hG ps _ _ e (hc.lay h off) (ho.lay h1 off);refine⟨l',L',?_,f2,f3,f4,by rw[f5,qAE hle]⟩;rw[List.map_cons];unfold Instr.fill;simp only[hpl];rw[if_neg (by have:=hc.1;simp only[Array.length_toList]at this hsz;simp only[ne_eq,Bool.or_eq_true,decide_eq_true_eq,not_or,Decidable.not_not];refine⟨by omega,?_⟩;simpa using hl)];rw[<- f1];congr 1;apply Array.ext';rw[splice _ _ _ (by simpa using hl)]
      . cases e
    . cases e
   . cases e
  . cases e
theorem qz8 {t z}(h:zV P t=some z):qvq z=true/\z.cells.size=szT P t/\(∃ i,P.info? t=some i/\i.zero=some z)/\∀ w,(zeroValue t).run P w=.ok z w:=by
 unfold zV at h;split at h
 .
  rename_i i hi;split at h
  .
   rename_i z' hz;simp only[bi_eq]at h;split at h
   .
    rename_i hf;split at h
    . rename_i hs;cases h;refine⟨hf,?_,⟨i,hi,hz⟩,fun w=>?_⟩
      . rw[Nat.eq_of_beq_eq_true hs];simp[szT,hi]
      . simp[zeroValue,typeInfo,hi,hz]
    . cases h
   . cases h
  . cases h
 . cases h
theorem qyQ {z}(h:qvq z=true):z.cells.toList.all sc=true:=by
 unfold qvq at h;split at h
 . exact h
 . rename_i hn;have h1:=qB0 h;rw[qys h1];simpa using h
theorem qyD {t l}(h:zL P t=some l):l.all sc=true/\l.length=szT P t/\(∃ i z,P.info? t=some i/\i.zero=some z/\z.cells.toList=l)/\∃ z,z.cells.toList=l/\∀ w,(zeroValue t).run P w=.ok z w:=by
 unfold zL at h;cases hz:zV P t with
 |none=>simp[hz]at h
 |some z=>simp only[hz,Option.map_some,Option.some.injEq]at h;subst h;obtain⟨h1,h2,⟨i,h3,h4⟩,h5⟩:=qz8 hz;exact⟨qyQ h1,by simpa using h2,⟨i,z,h3,h4,rfl⟩,z,rfl,h5⟩
theorem Does.next {s v}(h:Does P μ w s v):∃ V,(do pure (.value (<- s)):Sem Next).run P w=.ok (.value V) w/\R μ v V:=by obtain⟨V,h1,h2⟩:=h;exact⟨V,by simp[h1],h2⟩
theorem qy7 {fields:Array Field}(h:fields.toList.all (fun f=>okT P f.type)=true)(w):
  (fields.mapM fun f=>do pure (f.offset,<- sizeOf f.type):Sem (Array (Nat×Nat))).run P w=.ok (fields.map fun f=>(f.offset,szT P f.type)) w:=by
 have go:∀ l:List Field,(∀ f∈l,okT P f.type=true) ->
   (l.mapM fun f=>(do pure (f.offset,<- sizeOf f.type):Sem (Nat×Nat))).run P w=.ok (l.map fun f=>(f.offset,szT P f.type)) w:=by
  intro l
  induction l with
  |nil=>intro _;rfl
  |cons f l ih=>intro hl;have hn:=quZ (hl f (by simp));simp only[List.mapM_cons,Sem.run_bind,run_sizeOf hn,Sem.run_pure,Result.andThen_ok,ih (fun f hf=>hl f (List.mem_cons_of_mem _ hf)),List.map_cons]
 rw[Array.mapM_eq_mapM_toList,<- bind_pure_comp];simp only[Sem.run_bind,go fields.toList (fun f hf=>List.all_eq_true.1 h f hf),Result.andThen_ok,Sem.run_pure];congr 1;apply Array.ext';simp
theorem qet (hF:RF μ dp nt F a.tmps)(hG:Gl P μ){t}{ps:Array (Nat×Operand)}{v}(e:(qya P t ps.toList dp).f F m=.val v):Does P μ w (Instr.build t (ps.map fun (i,x)=>(i,a.eval x))) v:=by
 unfold qya at e;split at e
 . cases e
 rename_i z hz;obtain⟨z1,z2,_,zz,z3,z4⟩:=qyD hz;have core:∀ {place:Nat->Option (Nat×Nat)},(qwU P dp place ps.toList).f F z (fun l=>.val (.agg ⟨l⟩))=.val v->∃ L',Instr.fill place zz.cells (ps.map fun (i,x)=>(i,a.eval x)).toList=some ⟨L'⟩/\R μ v (.agg ⟨L'⟩):=by intro place e;obtain⟨l',L',f1,f2,f3,f4,_⟩:=qv4 hF hG ps.toList z z e (qv8 z1) (qwE z1);cases f4;refine⟨L',?_,.mkAgg f2 f3⟩;rw[<- f1,Array.toList_map];congr 1;apply Array.ext';simp[z3]
 split at e
 .
  rename_i fs hu;simp only[bi_eq]at e;split at e
  . rename_i hall;obtain⟨L',f1,f2⟩:=core e;refine⟨_,?_,f2⟩;have hpl:placeOf P t=fun i=>(fs.map fun f=>(f.offset,szT P f.type))[i]?:=by unfold placeOf;simp only[hu];funext i;rw[Array.getElem?_map];cases fs[i]?<;>rfl
    rw[hpl]at f1;simp only[Instr.build,Sem.run_bind,z4,Result.andThen_ok,run_underlying hu,qy7 hall];rw[f1];rfl
  . cases e
 .
  rename_i n el hu;simp only[bi_eq]at e;split at e
  . rename_i hok;obtain⟨L',f1,f2⟩:=core e;refine⟨_,?_,f2⟩;have hpl:placeOf P t=fun i=>some (i*szT P el,szT P el):=by unfold placeOf;simp only[hu]
    rw[hpl]at f1;simp only[Instr.build,Sem.run_bind,z4,Result.andThen_ok,run_underlying hu,run_sizeOf (quZ hok)];rw[f1];rfl
  . cases e
 . cases e
theorem qvb (hF:RF μ dp nt F a.tmps)(hG:Gl P μ){x z c v}(e:(bound P dp x).f F z c=.val v):
  ∃ n:Nat,c n=.val v/\(x=none/\n=z\/∃ y k,x=some y/\a.eval y=.int k (Int.ofNat n)):=by
 unfold bound at e;split at e
 . exact⟨z,e,.inl ⟨rfl,rfl⟩⟩
 . rename_i y;obtain⟨u,hu,hr⟩:=zf hF hG y;simp only[hu]at e;obtain⟨k,n,rfl,e⟩:=qwp e;exact⟨n,e,.inr ⟨y,k,rfl,hr.int⟩⟩
theorem qzI {l h n c v}(e:subQ l h n c=.val v):l<=h/\h<=n/\c=.val v:=by
 simp only[subQ,bi_eq]at e;split at e
 .
  split at e
  . exact⟨Nat.le_of_ble_eq_true (by assumption),Nat.le_of_ble_eq_true (by assumption),e⟩
  . cases e
 . cases e
theorem qwB {k n y code}(h:n<=y)(w):(Instr.sliceBound (.int k ((n:Nat):Int)) y code).run P w=.ok n w:=by
 have:(0:Int)<=(n:Int)/\(n:Int)<=(y:Int):=⟨by omega,by omega⟩
 simp[Instr.sliceBound,asIntOf,this]
theorem qvI {isS len cap l h lo hi}(h1:lo=none/\l=0\/∃ y k,lo=some y/\a.eval y=.int k (Int.ofNat l))(h2:hi=none/\h=len\/∃ y k,hi=some y/\a.eval y=.int k (Int.ofNat h))(hlh:l<=h)(hhc:h<=cap)(w):(Instr.sliceBounds isS len cap (lo.map a.eval) (hi.map a.eval) none).run P w=.ok (l,h,cap) w:=by
 unfold Instr.sliceBounds;rcases h2 with⟨rfl,rfl⟩|⟨y2,k2,rfl,e2⟩<;>rcases h1 with⟨rfl,rfl⟩|⟨y1,k1,rfl,e1⟩
 . simp
 . simp[e1,qwB hlh]
 . simp[e2,qwB hhc]
 . simp[e1,e2,qwB hlh,qwB hhc]
theorem qyH (s:ByteArray){l h}(hlh:l<=h)(hh:h<=s.data.toList.length):(⟨⟨(s.data.toList.drop l).take (h-l)⟩⟩:ByteArray)=s.extract l h:=by apply ByteArray.ext;apply Array.ext';simp[ByteArray.data_extract,Array.toList_extract,List.extract_eq_take_drop]
theorem qem (hF:RF μ dp nt F a.tmps)(hG:Gl P μ)(hO:HO μ w m){t x lo hi v}(e:(qzH P t x lo hi dp).f F m=.val v):
  Does P μ w (Instr.sliceAt t (a.eval x) (lo.map a.eval) (hi.map a.eval) none) v:=by
 obtain⟨u,hu,hr⟩:=zf hF hG x;unfold qzH at e;split at e
 .
  rename_i ht;simp only[hu,qvt]at e;split at e
  .
   rename_i s;have:=hr.str;obtain⟨l,e,h1⟩:=qvb hF hG e;simp only[lenF_eq]at e;obtain⟨h,e,h2⟩:=qvb hF hG e;obtain⟨hlh,hhn,e⟩:=qzI e;simp only[natF_eq,takeF_eq,dropL_eq]at e;split at e
   .
    cases e;refine⟨.string (s.extract l h),?_,?_⟩
    . have hsz:s.size=(bytes s).length:=by simp[bytes]
      have:=qvI (P:=P) (a:=a) (isS:=false) (len:=s.size) (cap:=s.size) h1 (by rw[hsz];exact h2) hlh (by rw[hsz];exact hhn) w;simp[Instr.sliceAt,Instr.slice,run_underlying ht,‹a.eval x=_›,this]
    . have:=qyH s hlh hhn;simp only[bytes]at *;rw[show h.sub l=h-l from rfl,this];exact .mkS _
   . cases e
  . cases e
 .
  rename_i el ht;simp only[bi_eq,ve]at e;split at e
  . cases e
  rename_i hok;have hok:okT P el=true:=by simpa using hok
  simp only[hu,qvx]at e;split at e
  . rename_i n k;obtain⟨rfl,rfl,hV⟩:=hr.nilsl;obtain⟨l,e,h1⟩:=qvb hF hG e;obtain⟨h,e,h2⟩:=qvb hF hG e;obtain⟨hlh,hhn,e⟩:=qzI e;cases e;have hh:h=0:=by omega
    subst hh;have hl:l=0:=by omega
    subst hl;refine⟨.slice none 0 0,?_,.sc _ rfl⟩;have:=qvI (P:=P) (a:=a) (isS:=true) (len:=0) (cap:=0) h1 h2 (Nat.le_refl _) (Nat.le_refl _) w;simp[Instr.sliceAt,Instr.slice,run_underlying ht,hV,this,run_sizeOf (quZ hok)]
  .
   rename_i ad n z;obtain⟨l,e,h1⟩:=qvb hF hG e;obtain⟨h,e,h2⟩:=qvb hF hG e;obtain⟨hlh,hhn,e⟩:=qzI e;simp only[natF_eq,bi_eq]at e;split at e
   .
    rename_i hz;have hz:z=szT P el:=Nat.eq_of_beq_eq_true hz;cases e;obtain⟨hsp,⟨rfl,⟨y0,hy0⟩,a',hV⟩|⟨y,cap,hy,hc,hs,hV⟩⟩:=hr.slI
    . have hh:h=0:=by omega
      subst hh;have hl:l=0:=by omega
      subst hl;refine⟨.slice (some a') 0 0,?_,.sl0 _ _ _ _ _ hy0⟩;have:=qvI (P:=P) (a:=a) (isS:=true) (len:=0) (cap:=0) h1 h2 (Nat.le_refl _) (Nat.le_refl _) w;simp[Instr.sliceAt,Instr.slice,run_underlying ht,hV,this,run_sizeOf (quZ hok)]
    .
     have hb:=qvI (P:=P) (a:=a) (isS:=true) (len:=n) (cap:=cap) h1 h2 hlh (by omega) w;have run:(Instr.sliceAt t (a.eval x) (lo.map a.eval) (hi.map a.eval) none).run P w=.ok (.slice (if cap=l then some ⟨y.b,y.o+ad.off,none⟩else some ⟨y.b,y.o+ad.off+l*szT P el,none⟩) (h-l) (cap-l)) w:=by simp[Instr.sliceAt,Instr.slice,run_underlying ht,hV,hb,run_sizeOf (quZ hok),addr_add]
     refine⟨_,run,?_⟩;by_cases hcl:cap=l
     . rw[if_pos hcl,show h.sub l=0 from by show h-l=0;omega,show h-l=0 by omega,show cap-l=0 by omega];exact .sl0 _ _ _ _ _ hy
     . rw[if_neg hcl,hz,Nat.add_assoc];refine .sl _ _ _ _ y _ hy (by show h-l<=_;omega) ?_;show y.o+(ad.off+l*szT P el)+(cap-l)*szT P el<=y.S;rw[hz]at hs;have:l*szT P el+(cap-l)*szT P el=cap*szT P el:=by rw[<- Nat.add_mul];congr 1;omega
       omega
   . cases e
  . cases e
 .
  rename_i n el ht;simp only[bi_eq,ve]at e;split at e
  . cases e
  rename_i hok;have hok:okT P el=true:=by simpa using hok
  simp only[hu,qu5]at e;split at e
  .
   rename_i ad;obtain⟨_,y,hy,hV⟩:=hr.ptrI;rw[M.cells_eq]at e;split at e
   .
    rename_i ro t' c hc;have ho:=hO ad.block _ hy;rw[hc]at ho;obtain⟨y',vs,fr,o1,_,_,_,o5,_⟩:=ho;rw[hy]at o1;cases o1;simp only[lenF_eq,bi_eq]at e;split at e
    .
     rename_i hlen;have hlen:ad.off+n*szT P el<=c.length:=Nat.le_of_ble_eq_true hlen;obtain⟨l,e,h1⟩:=qvb hF hG e;obtain⟨h,e,h2⟩:=qvb hF hG e;obtain⟨hlh,hhn,e⟩:=qzI e;simp only[natF_eq]at e;cases e;have hb:=qvI (P:=P) (a:=a) (isS:=false) (len:=n) (cap:=n) h1 h2 hlh hhn w;have run:(Instr.sliceAt t (a.eval x) (lo.map a.eval) (hi.map a.eval) none).run P w=.ok (.slice (some (if n=l then⟨y.b,y.o+ad.off,none⟩else⟨y.b,y.o+ad.off+l*szT P el,none⟩)) (h-l) (n-l)) w:=by simp[Instr.sliceAt,Instr.sureAddr,run_underlying ht,hV,hb,run_sizeOf (quZ hok),addr_add]
     refine⟨_,run,?_⟩;by_cases hcl:n=l
     . rw[if_pos hcl,show h.sub l=0 from by show h-l=0;omega,show h-l=0 by omega,show n-l=0 by omega];exact .sl0 _ _ _ _ _ hy
     . rw[if_neg hcl,Nat.add_assoc];refine .sl _ _ _ _ y _ hy (by show h-l<=_;omega) ?_;show y.o+(ad.off+l*szT P el)+(n-l)*szT P el<=y.S;have:l*szT P el+(n-l)*szT P el=n*szT P el:=by rw[<- Nat.add_mul];congr 1;omega
       omega
    . cases e
   . cases e
  . cases e
 . cases e
end
end E
end Go.Proofs.YtjnefcbeemkkeaaGreat
