/-
  An interpreter of closed calls, and what its words say. No claim stands here.
-/
import GoSem.Claim
import GoSem.ClaimJoined
import GoSem.ClaimMapViews
import Derived.KernelRfl
import Derived.WalkKit
set_option linter.all false
namespace Go.Proofs.YtnnhdcidgfjfpaaGreatDoor
namespace E
noncomputable section
def bi {β:Type}(b:Bool)(x y:β):β:=Bool.rec y x b
def cN {β:Type}(z:β)(s:Nat->β)(n:Nat):β:=Nat.rec z (λm _=>s m) n
def cI {β:Type}(z s:Nat->β)(n:Int):β:=Int.rec z s n
def cL {α β:Type}(z:β)(s:α->List α->β)(l:List α):β:=List.rec z (λx t _=>s x t) l
def rN {A B:Type}(z:A->B)(s:Nat->(A->B)->A->B)(n:Nat):A->B:=Nat.rec z s n
def rL {α A B:Type}(z:A->B)(s:α->List α->(A->B)->A->B)(l:List α):A->B:=List.rec z s l
def kN (k:IntKind):Nat:=IntKind.rec 0 1 2 3 4 5 6 7 k
def qwJ {β:Type}(v:Value)(f:IntKind->Int->β)(z:β):β:=Value.rec (motive_1:=λ_=>β) (motive_2:=λ_=>PUnit) (motive_3:=λ_=>PUnit) (λ_=>z) f (λ_ _=>z) (λ_ _ _=>z) (λ_=>z) (λ_=>z) (λ_ _ _=>z) (λ_=>z) (λ_=>z) (λ_ _ _ _ _=>z) z (λ_ _ _=>z) z (λ_ _=>z) (λ_ _=>z) (λ_ _=>⟨⟩) ⟨⟩ (λ_ _ _ _=>⟨⟩) v
def qxX {β:Type}(v:Value)(f:Bool->β)(z:β):β:=Value.rec (motive_1:=λ_=>β) (motive_2:=λ_=>PUnit) (motive_3:=λ_=>PUnit) f (λ_ _=>z) (λ_ _=>z) (λ_ _ _=>z) (λ_=>z) (λ_=>z) (λ_ _ _=>z) (λ_=>z) (λ_=>z) (λ_ _ _ _ _=>z) z (λ_ _ _=>z) z (λ_ _=>z) (λ_ _=>z) (λ_ _=>⟨⟩) ⟨⟩ (λ_ _ _ _=>⟨⟩) v
def qxZ {β:Type}(v:Value)(f:ByteArray->β)(z:β):β:=Value.rec (motive_1:=λ_=>β) (motive_2:=λ_=>PUnit) (motive_3:=λ_=>PUnit) (λ_=>z) (λ_ _=>z) (λ_ _=>z) (λ_ _ _=>z) f (λ_=>z) (λ_ _ _=>z) (λ_=>z) (λ_=>z) (λ_ _ _ _ _=>z) z (λ_ _ _=>z) z (λ_ _=>z) (λ_ _=>z) (λ_ _=>⟨⟩) ⟨⟩ (λ_ _ _ _=>⟨⟩) v
def qwj {β:Type}(v:Value)(f:Addr->β)(z:β):β:=Value.rec (motive_1:=λ_=>β) (motive_2:=λ_=>PUnit) (motive_3:=λ_=>PUnit) (λ_=>z) (λ_ _=>z) (λ_ _=>z) (λ_ _ _=>z) (λ_=>z) (λo=>Option.rec z f o) (λ_ _ _=>z) (λ_=>z) (λ_=>z) (λ_ _ _ _ _=>z) z (λ_ _ _=>z) z (λ_ _=>z) (λ_ _=>z) (λ_ _=>⟨⟩) ⟨⟩ (λ_ _ _ _=>⟨⟩) v
def onSl {β:Type}(v:Value)(nil:β)(f:Addr->Nat->Nat->β)(z:β):β:=Value.rec (motive_1:=λ_=>β) (motive_2:=λ_=>PUnit) (motive_3:=λ_=>PUnit) (λ_=>z) (λ_ _=>z) (λ_ _=>z) (λ_ _ _=>z) (λ_=>z) (λ_=>z) (λo n c=>Option.rec nil (λa=>f a n c) o) (λ_=>z) (λ_=>z) (λ_ _ _ _ _=>z) z (λ_ _ _=>z) z (λ_ _=>z) (λ_ _=>z) (λ_ _=>⟨⟩) ⟨⟩ (λ_ _ _ _=>⟨⟩) v
def qC4 {β:Type}(v:Value)(f:List Value->β)(z:β):β:=Value.rec (motive_1:=λ_=>β) (motive_2:=λ_=>PUnit) (motive_3:=λ_=>PUnit) (λ_=>z) (λ_ _=>z) (λ_ _=>z) (λ_ _ _=>z) (λ_=>z) (λ_=>z) (λ_ _ _=>z) (λ_=>z) (λ_=>z) (λ_ _ _ _ _=>z) z (λ_ _ _=>z) z (λa _=>Array.rec f a) (λ_ _=>z) (λ_ _=>⟨⟩) ⟨⟩ (λ_ _ _ _=>⟨⟩) v
def qD3 {β:Type}(v:Value)(f:List Value->β)(z:β):β:=Value.rec (motive_1:=λ_=>β) (motive_2:=λ_=>PUnit) (motive_3:=λ_=>PUnit) (λ_=>z) (λ_ _=>z) (λ_ _=>z) (λ_ _ _=>z) (λ_=>z) (λ_=>z) (λ_ _ _=>z) (λ_=>z) (λ_=>z) (λ_ _ _ _ _=>z) z (λ_ _ _=>z) z (λ_ _=>z) (λa _=>Array.rec f a) (λ_ _=>⟨⟩) ⟨⟩ (λ_ _ _ _=>⟨⟩) v
def qzk {β:Type}(v:Value)(nil:β)(f:Nat->β)(z:β):β:=Value.rec (motive_1:=λ_=>β) (motive_2:=λ_=>PUnit) (motive_3:=λ_=>PUnit) (λ_=>z) (λ_ _=>z) (λ_ _=>z) (λ_ _ _=>z) (λ_=>z) (λ_=>z) (λ_ _ _=>z) (λo=>Option.rec nil f o) (λ_=>z) (λ_ _ _ _ _=>z) z (λ_ _ _=>z) z (λ_ _=>z) (λ_ _=>z) (λ_ _=>⟨⟩) ⟨⟩ (λ_ _ _ _=>⟨⟩) v
def onFn {β:Type}(v:Value)(f:FuncId->List Value->List Value->β)(z:β):β:=Value.rec (motive_1:=λ_=>β) (motive_2:=λ_=>PUnit) (motive_3:=λ_=>PUnit) (λ_=>z) (λ_ _=>z) (λ_ _=>z) (λ_ _ _=>z) (λ_=>z) (λ_=>z) (λ_ _ _=>z) (λ_=>z) (λ_=>z) (λg a b _ _=>Fn.rec (λg=>Array.rec (λa=>Array.rec (λb=>f g a b) b) a) (λ_=>z) (λ_ _=>z) (λ_ _ _ _=>z) (λ_=>z) g) z (λ_ _ _=>z) z (λ_ _=>z) (λ_ _=>z) (λ_ _=>⟨⟩) ⟨⟩ (λ_ _ _ _=>⟨⟩) v
def onYd {β:Type}(v:Value)(f:Nat->β)(z:β):β:=Value.rec (motive_1:=λ_=>β) (motive_2:=λ_=>PUnit) (motive_3:=λ_=>PUnit) (λ_=>z) (λ_ _=>z) (λ_ _=>z) (λ_ _ _=>z) (λ_=>z) (λ_=>z) (λ_ _ _=>z) (λ_=>z) (λ_=>z) (λg a b _ _=>Fn.rec (λ_=>z) (λ_=>z) (λ_ _=>z) (λ_ _ _ _=>z) (λj=>f j) g) z (λ_ _ _=>z) z (λ_ _=>z) (λ_ _=>z) (λ_ _=>⟨⟩) ⟨⟩ (λ_ _ _ _=>⟨⟩) v
def onIf {β:Type}(v:Value)(nil:β)(f:TypeId->Value->β)(z:β):β:=Value.rec (motive_1:=λ_=>β) (motive_2:=λ_=>PUnit) (motive_3:=λ_=>PUnit) (λ_=>z) (λ_ _=>z) (λ_ _=>z) (λ_ _ _=>z) (λ_=>z) (λ_=>z) (λ_ _ _=>z) (λ_=>z) (λ_=>z) (λ_ _ _ _ _=>z) z (λt v _=>f t v) nil (λ_ _=>z) (λ_ _=>z) (λ_ _=>⟨⟩) ⟨⟩ (λ_ _ _ _=>⟨⟩) v
def qE2 {β:Type}(v:Value)(f:List Value->β)(o no:β):β:=Value.rec (motive_1:=λ_=>β) (motive_2:=λ_=>PUnit) (motive_3:=λ_=>PUnit) (λ_=>o) (λ_ _=>o) (λ_ _=>o) (λ_ _ _=>o) (λ_=>o) (λ_=>o) (λ_ _ _=>o) (λ_=>o) (λ_=>no) (λ_ _ _ _ _=>o) o (λ_ _ _=>o) o (λa _=>Array.rec f a) (λ_ _=>no) (λ_ _=>⟨⟩) ⟨⟩ (λ_ _ _ _=>⟨⟩) v
def natF {β:Type}(n:Nat)(k:Nat->β):β:=cN (k 0) (λm=>k (Nat.succ m)) n
def intF {β:Type}(n:Int)(k:Int->β):β:=cI (λn=>natF n λn=>k (.ofNat n)) (λn=>natF n λn=>k (.negSucc n)) n
def qDA {β:Type}(b:Bool)(k:Bool->β):β:=bi b (k true) (k false)
structure Bx (α:Type) where
 f:α
inductive T (α:Type) where
 |e|l (a:α)|n (a b c d:T α)
def cT {α β:Type}(z:β)(s:T α->T α->T α->T α->β)(t:T α):β:=T.rec z (λ_=>z) (λa b c d _ _ _ _=>s a b c d) t
def qC3 {α β:Type}(z:β)(c:α->β)(t:T α):β:=T.rec z c (λ_ _ _ _ _ _ _ _=>z) t
namespace T
variable {α β:Type}
abbrev GetF (α β:Type):=T α->(α->β)->β
abbrev SetF (α β:Type):=α->T α->(T α->β)->β
def getL (z:α)(t:T α)(c:α->β):β:=qC3 (c z) c t
def getA (f:GetF α β)(z:α):GetF α β:=λt c=>cT (c z) (λx _ _ _=>f x c) t
def getB (f:GetF α β)(z:α):GetF α β:=λt c=>cT (c z) (λ_ x _ _=>f x c) t
def getC (f:GetF α β)(z:α):GetF α β:=λt c=>cT (c z) (λ_ _ x _=>f x c) t
def getD (f:GetF α β)(z:α):GetF α β:=λt c=>cT (c z) (λ_ _ _ x=>f x c) t
def sel (f:GetF α β)(z:α)(g:Nat):GetF α β:=cN (getA f z) (λg=>cN (getB f z) (λg=>cN (getC f z) (λ_=>getD f z) g) g) g
def updA (f:SetF α β):SetF α β:=λv t c=>cT (f v .e λx=>c (.n x .e .e .e)) (λa b e d=>f v a λx=>c (.n x b e d)) t
def updB (f:SetF α β):SetF α β:=λv t c=>cT (f v .e λx=>c (.n .e x .e .e)) (λa b e d=>f v b λx=>c (.n a x e d)) t
def updC (f:SetF α β):SetF α β:=λv t c=>cT (f v .e λx=>c (.n .e .e x .e)) (λa b e d=>f v e λx=>c (.n a b x d)) t
def updD (f:SetF α β):SetF α β:=λv t c=>cT (f v .e λx=>c (.n .e .e .e x)) (λa b e d=>f v d λx=>c (.n a b e x)) t
def upd (f:SetF α β)(g:Nat):SetF α β:=cN (updA f) (λg=>cN (updB f) (λg=>cN (updC f) (λ_=>updD f) g) g) g
def gets (z:α)(dp:Nat):Nat->Bx (GetF α β):=rN (λ_=>⟨getL z⟩) (λ_ b k=>natF (Nat.div k 4) λc=>cN ⟨getA (b c).f z⟩ (λg=>cN ⟨getB (b c).f z⟩ (λg=>cN ⟨getC (b c).f z⟩ (λ_=>⟨getD (b c).f z⟩) g) g) (Nat.mod k 4)) dp
def sets (dp:Nat):Nat->Bx (SetF α β):=rN (λ_=>⟨λv _ c=>c (.l v)⟩) (λ_ b k=>natF (Nat.div k 4) λd=>cN ⟨updA (b d).f⟩ (λg=>cN ⟨updB (b d).f⟩ (λg=>cN ⟨updC (b d).f⟩ (λ_=>⟨updD (b d).f⟩) g) g) (Nat.mod k 4)) dp
def get (z:α)(dp:Nat):Nat->GetF α β:=rN (λ_=>getL z) (λ_ b k=>natF (Nat.div k 4) λc=>sel (b c) z (Nat.mod k 4)) dp
def set (dp:Nat):Nat->SetF α β:=rN (λ_ v _ c=>c (.l v)) (λ_ b k=>natF (Nat.div k 4) λd=>upd (b d) (Nat.mod k 4)) dp
end T
inductive X where
 |norm|ret|exit (id:Nat)|pan (v:Value)
inductive O where
 |dead
 |cells (ro:Nat) (t:TypeId) (c:List Value)
 |map (es:List MapEntry) (clock:Nat)
 |siter (s:List UInt8) (pos:Nat)
 |miter (m:Nat) (since:Nat) (seen:List Nat) (stepped:Nat)
 |loop (F:T Value) (dp nt:Nat) (ps:List Tmp) (as bo:Code) (st:Nat) (pend:X)
def onCells {β:Type}(o:O)(f:Nat->TypeId->List Value->β)(z:β):β:=O.rec z f (λ_ _=>z) (λ_ _=>z) (λ_ _ _ _=>z) (λ_ _ _ _ _ _ _ _=>z) o
def qwv {β:Type}(o:O)(f:List MapEntry->Nat->β)(z:β):β:=O.rec z (λ_ _ _=>z) f (λ_ _=>z) (λ_ _ _ _=>z) (λ_ _ _ _ _ _ _ _=>z) o
inductive M where
 |mk (next:Nat) (t:T O)
def cM {β:Type}(f:Nat->T O->β)(m:M):β:=M.rec f m
def hd:Nat:=7
def hdN:Nat:=16383
variable {β:Type}
def M.get (i:Nat)(m:M)(c:O->β):β:=cM (λ_ t=>T.get .dead hd i t c) m
def M.put (i:Nat)(o:O)(m:M)(c:M->β):β:=cM (λn t=>T.set hd i o t λt=>c (.mk n t)) m
def M.new (o:O)(m:M)(c:Nat->M->β)(no:β):β:=cM (λn t=>bi (Nat.blt n hdN) (T.set hd n o t λt=>natF (Nat.succ n) λb=>c n (.mk b t)) no) m
def M.next:M->Nat|.mk n _=>n
def M.cells (i:Nat)(m:M)(c:Nat->TypeId->List Value->β)(no:β):β:=m.get i λo=>onCells o c no
def qyh {α:Type}(k:Nat):List α->List α:=rN (λl=>l) (λ_ b l=>cL [] (λ_ t=>b t) l) k
def qzt {α:Type}(k:Nat)(l:List α)(c:List α->β)(no:β):β:=rN (A:=List α) (B:=(List α->β)->β) (λ_ c=>c []) (λ_ b l c=>cL no (λx t=>b t λr=>c (x::r)) l) k l c
def layV {α:Type}(v:List α):List α->(List α->β)->β->β:=rL (λl c _=>c l) (λx _ b l c no=>cL no (λ_ t=>b t (λr=>c (x::r)) no) l) v
def layF {α:Type}(k:Nat)(v l:List α)(c:List α->β)(no:β):β:=rN (A:=List α) (B:=(List α->β)->β) (λl c=>layV v l c no) (λ_ b l c=>cL no (λx t=>b t λr=>c (x::r)) l) k l c
def appF {α:Type}(l m:List α)(c:List α->β):β:=rL (λc=>c m) (λx _ b c=>b λr=>c (x::r)) l c
def lenF {α:Type}(l:List α)(c:Nat->β):β:=rL (λn=>natF n c) (λ_ _ b n=>b (Nat.succ n)) l 0
def qAs (v:Value)(c:List Value->β)(no:β):β:=qE2 v c (c [v]) no
def undef:Value:=.tuple #[]
def room:Nat:=1048576
inductive Out where
 |no (why:Nat)
 |go (x:X) (F:T Value) (m:M)
inductive CO where
 |no (why:Nat)
 |ret (v:Value) (m:M)
 |pan (v:Value) (m:M)
inductive QV where
 |no (why:Nat)
 |val (v:Value)
inductive Tg where
 |fn (f:Nat)|yd (j:Nat)
def onGd {β:Type}(c:Bool)(v:Value)(a b z:β):β:=qxX v (λt=>bi t (bi c a b) (bi c b a)) (qD3 v (λ_=>b) z)
def onQV {β:Type}(q:QV)(f:Value->β)(z:Nat->β):β:=QV.rec z f q
def onCO {β:Type}(q:CO)(f g:Value->M->β)(z:Nat->β):β:=CO.rec z f g q
def qwK {β:Type}(q:Out)(f:X->T Value->M->β)(z:Nat->β):β:=Out.rec z f q
def onTg {β:Type}(t:Tg)(f g:Nat->β):β:=Tg.rec f g t
def onXP {β:Type}(x:X)(f:β)(g:Value->β)(z:β):β:=X.rec f f (λ_=>z) g x
def onX {β:Type}(x:X)(f z:β):β:=X.rec f z (λ_=>z) (λ_=>z) x
def inX {β:Type}(id:Nat)(x:X)(f:X->β):β:=X.rec (f .norm) (f .ret) (λi=>bi (Nat.beq i id) (f .norm) (f (.exit i))) (λv=>f (.pan v)) x
abbrev Rec:=Tg->List Value->M->CO
variable (P:Program)
def sc:Value->Bool
 |.bool _|.int _ _|.float _ _|.string _|.pointer none|.slice none 0 0|.map none|.nilFunc|.nilIface=>true
 |_=>false
def qvA:Value->Bool
 |.agg ⟨l⟩=>l.all sc
 |v=>sc v
def flat:Value->Bool
 |.iface _ v=>qvA v
 |v=>qvA v
def unk:Value:=.chan none
abbrev EvF (β:Type):=T Value->(Value->β)->β
def ev (P:Program)(dp:Nat):Operand->Bx (EvF β)
 |.tmp t=>bi (Nat.blt t (4 ^ dp)) (T.gets undef dp t) ⟨λ_ c=>c unk⟩
 |.const v=>bi (flat v) ⟨λ_ c=>c v⟩ ⟨λ_ c=>c unk⟩
 |.global _=>⟨λ_ c=>c unk⟩
 |.func f=>⟨λ_ c=>c (.func (.func f) #[] #[])⟩
def evs (dp:Nat):List Operand->T Value->(List Value->β)->β
 |[],_,c=>c []
 |x::l,F,c=>(ev P dp x).f F λv=>evs dp l F λr=>c (v::r)
def szT (t:TypeId):Nat:=match P.info? t with|some i=>i.size|none=>0
def aggT (t:TypeId):Bool:=match P.underlying t with|some (.struct _)|some (.array _ _)=>true|_=>false
def byT (t:TypeId):Nat:=match P.info? t with|some i=>i.bytes|none=>0
def okT (t:TypeId):Bool:=(P.underlying t).isSome
def zV (t:TypeId):Option Value:=match P.info? t with
 |some i=>match i.zero with
  |some z=>bi (qvA z) (bi (Nat.beq z.cells.size i.size) (some z) none) none
  |none=>none
 |none=>none
def zL (t:TypeId):Option (List Value):=(zV P t).map λz=>z.cells.toList
def u8F (b:UInt8)(c:UInt8->β):β:=natF b.toNat λn=>c (.ofNat n)
def qBs (l:List UInt8)(c:List UInt8->β):β:=rL (λc=>c []) (λx _ b c=>u8F x λx=>b λr=>c (x::r)) l c
def strF (s:ByteArray)(c:Value->β):β:=qBs s.data.toList λl=>c (.string ⟨⟨l⟩⟩)
def valF (v:Value)(c:Value->β)(no:β):β:=match v with
 |.bool b=>qDA b λb=>c (.bool b)
 |.int k n=>intF n λn=>c (.int k n)
 |.float k n=>natF n λn=>c (.float k n)
 |.string s=>strF s c
 |.pointer none=>c (.pointer none)
 |_=>no
def qo {α:Type}:Sem α->Option α
 |.pure a=>some a
 |.program k=>qo (k P)
 |.mark _ k=>qo k
 |_=>none
def qz1 (s:Sem Value):QV:=match qo P s with
 |some v=>valF v (λv=>.val v) (.no 3)
 |none=>.no 4
def qI (k:IntKind)(n:Int):QV:=intF n λn=>.val (.int k n)
def qB (b:Bool):QV:=qDA b λb=>.val (.bool b)
def qAy:Nat:=9223372036854775807
def wrap64 (n:Int):QV:=cI (λm=>bi (Nat.ble m qAy) (natF m λm=>.val (.int .i64 (.ofNat m))) (qI .i64 (IntKind.i64.wrap (.ofNat m)))) (λm=>bi (Nat.ble m qAy) (natF m λm=>.val (.int .i64 (.negSucc m))) (qI .i64 (IntKind.i64.wrap (.negSucc m)))) n
def wrapN (k:IntKind):Bx (Int->QV):=bi (Nat.beq (kN k) 3) ⟨wrap64⟩ ⟨λn=>qI k (k.wrap n)⟩
def ltI (x y:Int):Bool:=cI (λa=>cI (λb=>Nat.blt a b) (λ_=>false) y) (λa=>cI (λ_=>true) (λb=>Nat.blt b a) y) x
def eqI (x y:Int):Bool:=cI (λa=>cI (λb=>Nat.beq a b) (λ_=>false) y) (λa=>cI (λ_=>false) (λb=>Nat.beq a b) y) x
def notB (b:Bool):Bool:=bi b false true
def andB (a b:Bool):Bool:=bi a b false
def orB (a b:Bool):Bool:=bi a true b
def qxp (t:TypeId):Bool:=match P.underlying t with
 |some (.struct fs)=>(match fs[0]? with
  |some f=>(match P.underlying f.type with
   |some (.pointer u)=>andB (Nat.beq u t) (notB (Nat.beq (szT P t) 0))
   |_=>false)
  |none=>false)
 |_=>false
def qBS (k:IntKind):BinOp->Bx (Int->Int->QV)
 |.add=>⟨λx y=>(wrapN k).f (Int.add x y)⟩
 |.sub=>⟨λx y=>(wrapN k).f (Int.sub x y)⟩
 |.mul=>⟨λx y=>(wrapN k).f (Int.mul x y)⟩
 |.eql=>⟨λx y=>qB (eqI x y)⟩
 |.neq=>⟨λx y=>qB (notB (eqI x y))⟩
 |.lss=>⟨λx y=>qB (ltI x y)⟩
 |.leq=>⟨λx y=>qB (notB (ltI y x))⟩
 |.gtr=>⟨λx y=>qB (ltI y x)⟩
 |.geq=>⟨λx y=>qB (notB (ltI x y))⟩
 |_=>⟨λ_ _=>.no 1⟩
def eqS (a b:List UInt8):Bool:=rL (A:=List UInt8) (B:=Bool) (λb=>cL true (λ_ _=>false) b) (λx _ c b=>cL false (λy b=>bi (Nat.beq x.toNat y.toNat) (c b) false) b) a b
def bytes (s:ByteArray):List UInt8:=s.data.toList
def qzs:BinOp->Bx (ByteArray->ByteArray->QV)
 |.add=>⟨λx y=>appF (bytes x) (bytes y) λl=>lenF l λn=>bi (Nat.ble n room) (.val (.string ⟨⟨l⟩⟩)) (.no 2)⟩
 |.eql=>⟨λx y=>qB (eqS (bytes x) (bytes y))⟩
 |.neq=>⟨λx y=>qB (notB (eqS (bytes x) (bytes y)))⟩
 |_=>⟨λ_ _=>.no 2⟩
def nilK:TypeDesc->Value->Option Bool
 |.pointer _,.pointer o=>some o.isNone
 |.slice _,.slice o _ _=>some o.isNone
 |.map _ _,.map o=>some o.isNone
 |.func _ _ _,.nilFunc=>some true
 |.func _ _ _,.func _ _ _=>some false
 |.interface _,.nilIface=>some true
 |.interface _,.iface _ _=>some false
 |_,_=>none
def nilC (d:TypeDesc):Operand->Bool
 |.const v=>(match nilK d v with|some b=>b|none=>false)
 |_=>false
def isEq:BinOp->Bool
 |.eql|.neq=>true
 |_=>false
def easy:BinOp->Bool
 |.add|.sub|.mul|.eql|.neq|.lss|.leq|.gtr|.geq=>true
 |_=>false
def qEI:BinOp->Bool
 |.add|.eql|.neq=>true
 |_=>false
def onK (b:IntKind)(v:Value)(f:Int->QV):QV:=qwJ v (λk n=>bi (Nat.beq (kN k) (kN b)) (f n) (.no 7)) (.no 7)
def qxg (op:BinOp)(t:TypeId)(x y:Operand)(a b:Value):QV:=match flat a&&flat b with
 |true=>qz1 P (do eqGuard op t x y a b;binOp op t a b)
 |false=>.no 5
def qzf:BinOp->Bool
 |.eql=>true
 |_=>false
def qE4 (a b:Value)(c:Bool->QV)(no:QV):QV:=qwj a (λa=>qwj b (λb=>bi (Nat.beq a.block b.block) (c (Nat.beq a.off b.off)) no) no) no
def qBE (op:BinOp)(r:Bool):QV:=qB (bi (qzf op) r (notB r))
def binQ (op:BinOp)(t:TypeId)(x y:Operand):Bx (Value->Value->QV):=match P.underlying t with
 |none=>⟨λ_ _=>.no 5⟩
 |some d=>
  bi (andB (isEq op) (nilC d y)) ⟨λa _=>match nilK d a with|some r=>qBE op r|none=>.no 6⟩ <|
  bi (andB (isEq op) (nilC d x)) ⟨λ_ a=>match nilK d a with|some r=>qBE op r|none=>.no 6⟩ <|
  match d with
  |.int k=>bi (easy op) ⟨λa b=>onK k a λm=>onK k b λn=>(qBS k op).f m n⟩ ⟨qxg P op t x y⟩
  |.string=>bi (qEI op) ⟨λa b=>qxZ a (λm=>qxZ b (λn=>(qzs op).f m n) (.no 5)) (.no 5)⟩ ⟨qxg P op t x y⟩
  |.pointer e=>bi (andB (isEq op) (notB (Nat.beq (szT P e) 0))) ⟨λa b=>qE4 a b (qBE op) (.no 4)⟩ ⟨qxg P op t x y⟩
  |_=>⟨qxg P op t x y⟩
def qz0 (t:TypeId):Bx (Nat->List Value->QV):=bi (notB (okT P t)) ⟨λ_ _=>.no 8⟩<|bi (aggT P t) ⟨λb l=>qzt (szT P t) (qyh b l) (λr=>.val (.agg ⟨r⟩)) (.no 8)⟩ ⟨λb l=>cL (.no 9) (λx _=>.val x) (qyh b l)⟩
def qzE (v:Value)(c:Nat->QV):QV:=qwJ v (λ_ n=>cI c (λ_=>.no 10) n) (.no 11)
def qxw (t:TypeId)(f:Nat):Option (Nat×TypeId):=match P.underlying t with
 |some (.struct fs)=>match fs[f]? with|some x=>some (x.offset,x.type)|none=>none
 |_=>none
def qxu (dp:Nat)(b:Nat->Option (Nat×Nat)):List (Nat×Operand)->Bx (T Value->List Value->(List Value->QV)->QV)
 |[]=>⟨λ_ l c=>c l⟩
 |(i,x)::r=>match b i with
  |some (d,sz)=>⟨λF l c=>(ev P dp x).f F λv=>qAs v (λv=>lenF v λn=>bi (Nat.beq n sz) (layF d v l (λl=>(qxu dp b r).f F l c) (.no 12)) (.no 13)) (.no 13)⟩
  |none=>⟨λ_ _ _=>.no 14⟩
def placeOf (t:TypeId):Nat->Option (Nat×Nat):=match P.underlying t with
 |some (.struct fs)=>λi=>match fs[i]? with|some x=>some (x.offset,szT P x.type)|none=>none
 |some (.array _ e)=>λi=>some (i*szT P e,szT P e)
 |_=>λ_=>none
def qAZ (i k:Nat):QV:=natF k λk=>.val (.pointer (some ⟨i,k,none⟩))
def ldQ (t:TypeId)(i k:Nat)(m:M):QV:=m.cells i (λ_ _ c=>(qz0 P t).f k c) (.no 15)
def qFE (s:List UInt8)(i:Nat):QV:=cL (.no 16) (λb _=>natF b.toNat λn=>.val (.int .u8 (.ofNat n))) (qyh i s)
def bound (dp:Nat)(x:Option Operand):Bx (T Value->Nat->(Nat->QV)->QV):=match x with
 |none=>⟨λ_ z c=>c z⟩
 |some x=>⟨λF _ c=>(ev P dp x).f F λv=>qzE v c⟩
def subQ (l h n:Nat)(c:QV):QV:=bi (Nat.ble l h) (bi (Nat.ble h n) c (.no 17)) (.no 17)
def qbk (k v:Value):Option Bool:=match k,v with
 |.int j a,.int k b=>bi (Nat.beq (kN j) (kN k)) (some (eqI a b)) none
 |.string a,.string b=>some (eqS (bytes a) (bytes b))
 |.bool a,.bool b=>some (a==b)
 |_,_=>none
def qdG (t:TypeId):Bx (Value->Bool):=match P.underlying t with
 |some (.int k)=>⟨λv=>qwJ v (λj _=>Nat.beq (kN j) (kN k)) false⟩
 |some .string=>⟨λv=>qxZ v (λ_=>true) false⟩
 |some .bool=>⟨λv=>qxX v (λ_=>true) false⟩
 |_=>⟨λ_=>false⟩
def qDM (k:Value)(b:List MapEntry)(c:Option Value->β)(no:β):β:=rL (A:=Option Value->β) (B:=β) (λc=>c none) (λe _ d c=>match qbk k e.key with
 |some true=>c (some e.val)
 |some false=>d c
 |none=>no) b c
def putE (k v:Value)(clock:Nat)(d:List MapEntry)(c:List MapEntry->Bool->β)(no:β):β:=rL (A:=List MapEntry->Bool->β) (B:=β) (λc=>c [⟨k,v,clock⟩] true) (λe t f c=>match qbk k e.key with
 |some true=>c (⟨k,v,e.born⟩::t) false
 |some false=>f λd b=>c (e::d) b
 |none=>no) d c
def mapT (t:TypeId):Option (TypeId×TypeId):=match P.underlying t with|some (.map k e)=>some (k,e)|_=>none
def qDT (t:TypeId)(ok:Bool):Bx (M->Value->Value->QV):=match mapT P t with
 |none=>⟨λ_ _ _=>.no 18⟩
 |some (c,d)=>
  let b:QV:=match zV P d with
   |some z=>bi ok (.val (.tuple #[z,.bool false])) (.val z)
   |none=>.no 19
  ⟨λm x k=>bi ((qdG P c).f k) (qzk x b (λi=>m.get i λo=>qwv o (λe _=>qDM k e (λr=>match r with
    |some v=>bi ok (.val (.tuple #[v,.bool true])) (.val v)
    |none=>b) (.no 21)) (.no 19)) (.no 20)) (.no 21)⟩
def qBu (l:List Value)(c:List UInt8->QV):QV:=rL (A:=List UInt8->QV) (B:=QV) (λc=>c []) (λx _ d c=>qwJ x (λk n=>bi (Nat.beq (kN k) 4) (cI (λb=>natF b λb=>bi (Nat.blt b 256) (d λr=>c (.ofNat b::r)) (.no 28)) (λ_=>.no 28) n) (.no 28)) (.no 28)) l c
abbrev QF:=T Value->M->QV
def noQ (n:Nat):Bx QF:=⟨λ_ _=>.no n⟩
def lenQ (t:TypeId)(x:Operand)(dp:Nat):Bx QF:=match P.underlying t with
 |some .string=>⟨λF _=>(ev P dp x).f F λv=>qxZ v (λs=>lenF (bytes s) λn=>.val (.int .i64 (.ofNat n))) (.no 63)⟩
 |some (.slice _)=>⟨λF _=>(ev P dp x).f F λv=>onSl v (.val (.int .i64 (.ofNat 0))) (λ_ n _=>.val (.int .i64 (.ofNat n))) (.no 64)⟩
 |_=>noQ 67
def isU8 (t:TypeId):Bool:=match P.underlying t with|some (.int .u8)=>true|_=>false
def qCS (s t:TypeId)(x:Operand)(dp:Nat):Bx QF:=match P.underlying s,P.underlying t with
 |some (.int _),some (.int k)=>⟨λF _=>(ev P dp x).f F λv=>qwJ v (λ_ n=>(wrapN k).f n) (.no 27)⟩
 |some .string,some .string=>⟨λF _=>(ev P dp x).f F λv=>qxZ v (λs=>.val (.string s)) (.no 27)⟩
 |some (.slice b),some .string=>bi (notB (isU8 P b)) (noQ 32) ⟨λF m=>(ev P dp x).f F λv=>onSl v (.val (.string ⟨⟨[]⟩⟩)) (λa n _=>m.cells a.block (λ_ _ c=>qzt n (qyh a.off c) (λl=>qBu l λl=>.val (.string ⟨⟨l⟩⟩)) (.no 29)) (.no 30)) (.no 31)⟩
 |some (.slice _),some (.slice _)=>noQ 32
 |some .string,some (.slice _)=>noQ 33
 |some (.pointer e),some .unsafePointer=>bi (Nat.beq (szT P e) 0) (noQ 34) ⟨λF m=>(ev P dp x).f F λv=>qwj v (λa=>m.cells a.block (λ_ _ c=>lenF c λn=>bi (Nat.blt a.off n) (.val (.pointer (some a))) (.no 34)) (.no 34)) (.no 34)⟩
 |some .unsafePointer,some (.pointer e)=>bi (notB (qxp P e)) (noQ 34) ⟨λF m=>(ev P dp x).f F λv=>qwj v (λa=>m.cells a.block (λ_ t c=>lenF c λn=>bi (andB (Nat.beq t e) (andB (Nat.beq a.off 0) (Nat.ble (szT P e) n))) (.val (.pointer (some a))) (.no 34)) (.no 34)) (.no 34)⟩
 |_,_=>⟨λF _=>(ev P dp x).f F λv=>match flat v with|true=>qz1 P (convert s t v)|false=>.no 34⟩
def qAR (t:TypeId)(x:Operand)(b f:Option Operand)(dp:Nat):Bx QF:=match P.underlying t with
 |some .string=>⟨λF _=>(ev P dp x).f F λv=>qxZ v (λs=>(bound P dp b).f F 0 λl=>lenF (bytes s) λn=>(bound P dp f).f F n λh=>subQ l h n (natF (Nat.sub h l) λd=>qzt d (qyh l (bytes s)) (λr=>.val (.string ⟨⟨r⟩⟩)) (.no 37))) (.no 38)⟩
 | some (.slice e)=>bi (notB (okT P e)) (noQ 41) ⟨λF _=>(ev P dp x).f F λv=>onSl v ((bound P dp b).f F 0 λl=>(bound P dp f).f F 0 λh=>subQ l h 0 (.val (.slice none 0 0)))
   (λa n z=>(bound P dp b).f F 0 λl=>(bound P dp f).f F n λh=>subQ l h n (bi (Nat.beq z (szT P e)) (natF (Nat.sub h l) λd=>natF (Nat.add a.off (Nat.mul l z)) λk=>.val (.slice (some ⟨a.block,k,none⟩) d z)) (.no 39))) (.no 39)⟩
 |some (.array n e)=>bi (notB (okT P e)) (noQ 41) ⟨λF m=>(ev P dp x).f F λv=>qwj v (λa=>m.cells a.block (λ_ _ c=>lenF c λlen=>bi (Nat.ble (Nat.add a.off (Nat.mul n (szT P e))) len) ((bound P dp b).f F 0 λl=>(bound P dp f).f F n λh=>subQ l h n (natF (Nat.sub h l) λd=>natF (Nat.add a.off (Nat.mul l (szT P e))) λk=>natF (szT P e) λz=>.val (.slice (some ⟨a.block,k,none⟩) d z))) (.no 40)) (.no 40)) (.no 40)⟩
 |_=>noQ 41
def ixQ (t:TypeId)(x b:Operand)(dp:Nat):Bx QF:=match P.underlying t with
 |some (.array n e)=>bi (notB (okT P e)) (noQ 51) ⟨λF _=>(ev P dp x).f F λv=>qwj v (λa=>(ev P dp b).f F λj=>qzE j λj=>bi (Nat.blt j n) (qAZ a.block (Nat.add a.off (Nat.mul j (szT P e)))) (.no 47)) (.no 48)⟩
 |some (.slice e)=>bi (notB (okT P e)) (noQ 51) ⟨λF _=>(ev P dp x).f F λv=>onSl v (.no 49) (λa n _=>(ev P dp b).f F λj=>qzE j λj=>bi (Nat.blt j n) (qAZ a.block (Nat.add a.off (Nat.mul j (szT P e)))) (.no 49)) (.no 50)⟩
 |_=>noQ 51
def qze (t:TypeId)(x b:Operand)(dp:Nat):Bx QF:=match P.underlying t with
 |some (.array n e)=>⟨λF _=>(ev P dp x).f F λv=>qC4 v (λl=>(ev P dp b).f F λj=>qzE j λj=>bi (Nat.blt j n) (natF (Nat.mul j (szT P e)) λo=>(qz0 P e).f o l) (.no 52)) (.no 53)⟩
 |some .string=>⟨λF _=>(ev P dp x).f F λv=>qxZ v (λs=>(ev P dp b).f F λj=>qzE j λj=>qFE (bytes s) j) (.no 54)⟩
 |_=>noQ 55
def qy0 (t:TypeId)(b:List (Nat×Operand))(dp:Nat):Bx QF:=match zL P t with
 |none=>noQ 23
 |some z=>match P.underlying t with
  |some (.struct fs)=>bi (fs.toList.all λf=>okT P f.type) ⟨λF _=>(qxu P dp (placeOf P t) b).f F z λl=>.val (.agg ⟨l⟩)⟩ (noQ 23)
  |some (.array _ e)=>bi (okT P e) ⟨λF _=>(qxu P dp (placeOf P t) b).f F z λl=>.val (.agg ⟨l⟩)⟩ (noQ 23)
  |_=>noQ 23
def quiet (dp:Nat)(op:Op):Bx QF:=match op with
 |.move x|.assign x=>⟨λF _=>(ev P dp x).f F λv=>.val v⟩
 |.pick c a b=>⟨λF _=>(ev P dp c).f F λc=>qxX c (λt=>bi t ((ev P dp a).f F λv=>.val v) ((ev P dp b).f F λv=>.val v)) (.no 22)⟩
 |.build t h=>qy0 P t h.toList dp
 |.load t a=>⟨λF m=>(ev P dp a).f F λv=>qwj v (λa=>ldQ P t a.block a.off m) (.no 24)⟩
 |.nilCheck x=>⟨λF _=>(ev P dp x).f F λv=>qwj v (λa=>.val (.pointer (some a))) (onFn v (λf a b=>.val (.func (.func f) ⟨a⟩ ⟨b⟩)) (onYd v (λj=>.val (.func (.yield j) ⟨[]⟩ ⟨[]⟩)) (onIf v (.no 25) (λt v=>.val (.iface t v)) (.no 25))))⟩
 |.binOp op t x y _=>⟨λF _=>(ev P dp x).f F λa=>(ev P dp y).f F λb=>(binQ P op t x y).f a b⟩
 |.unOp op _ x=>match op with
  |.not=>⟨λF _=>(ev P dp x).f F λv=>qxX v (λb=>qB (notB b)) (.no 26)⟩
  |op=>⟨λF _=>(ev P dp x).f F λv=>match flat v with|true=>qz1 P (Op.unary op v)|false=>.no 26⟩
 |.convert s t x=>qCS P s t x dp
 |.makeInterface t x=>match P.underlying t with
  |some (.interface _)=>noQ 35
  |some _=>⟨λF _=>(ev P dp x).f F λv=>.val (.iface t v)⟩
  |none=>noQ 36
 |.makeFunc (.func f) a b=>⟨λF _=>evs P dp a.toList F λa=>evs P dp b.toList F λb=>.val (.func (.func f) ⟨a⟩ ⟨b⟩)⟩
 |.slice t x p q none=>qAR P t x p q dp
 |.fieldAddr t x f=>match qxw P t f with
  |some (o,e)=>bi (Nat.beq (szT P e) 0) (noQ 42) ⟨λF _=>(ev P dp x).f F λv=>qwj v (λa=>qAZ a.block (Nat.add a.off o)) (.no 43)⟩
  |none=>noQ 44
 |.field t x f=>match qxw P t f with
  |some (o,e)=>⟨λF _=>(ev P dp x).f F λv=>qC4 v (λl=>(qz0 P e).f o l) (.no 45)⟩
  |none=>noQ 46
 |.indexAddr t x g=>ixQ P t x g dp
 |.index t x g=>qze P t x g dp
 |.lookup t x k ok=>⟨λF m=>(ev P dp x).f F λv=>(ev P dp k).f F λk=>(qDT P t ok).f m v k⟩
 |.typeAssert x r t ok=>match P.underlying t with
  |some (.interface _)=>noQ 56
  | some _=>let d:QV:=match zV P t with
    |some z=>bi ok (.val (.tuple #[z,.bool false])) (.no 57)
    |none=>.no 57
   ⟨λF _=>(ev P dp x).f F λv=>onIf v d (λu v=>bi (Nat.beq u t) (bi ok (.val (.tuple #[v,.bool true])) (.val v)) d) (.no 59)⟩
  |none=>noQ 60
 |.extract x i=>⟨λF _=>(ev P dp x).f F λv=>qD3 v (λl=>cL (.no 61) (λv _=>.val v) (qyh i l)) (.no 62)⟩
 |.call { callee:=.builtin .len,args:=⟨[x]⟩,argTypes:=⟨t::_⟩ }=>lenQ P t x dp
 |.call { callee:=.builtin .cap,args:=⟨[x]⟩,argTypes:=⟨t::_⟩ }=>match P.underlying t with
  |some (.slice _)=>⟨λF _=>(ev P dp x).f F λv=>onSl v (.val (.int .i64 (.ofNat 0))) (λ_ _ _=>.no 72) (.no 72)⟩
  |_=>noQ 72
 |.call { callee:=.builtin .unsafeSliceData,args:=⟨[x]⟩,.. }=>⟨λF _=>(ev P dp x).f F λv=>onSl v (.val (.pointer none)) (λa n _=>bi (Nat.beq n 0) (.no 71) (.val (.pointer (some a)))) (.no 71)⟩
 |.call { callee:=.builtin .max,args:=⟨[x,y]⟩,.. }=>⟨λF _=>(ev P dp x).f F λa=>(ev P dp y).f F λb=>qwJ a (λk m=>qwJ b (λ_ n=>bi (ltI m n) (.val (.int k n)) (.val (.int k m))) (.no 69)) (.no 69)⟩
 |_=>noQ 70
def qza (t:TypeId):Option TypeId:=match P.underlying t with|some (.slice e)=>bi (okT P e) (some e) none|_=>none
abbrev CF:=T Value->M->CO
def noC (n:Nat):Bx CF:=⟨λ_ _=>.no n⟩
def byteCells (l:List UInt8)(c:List Value->CO):CO:=rL (A:=List Value->CO) (B:=CO) (λf=>f []) (λb _ d f=>natF b.toNat λb=>d λr=>f (.int .u8 (.ofNat b)::r)) l c
def srcF (sz:Nat)(v:Value)(m:M)(c:Nat->List Value->CO):CO:=onSl v (c 0 []) (λa n _=>natF (Nat.mul n sz) λd=>m.cells a.block (λ_ _ l=>qzt d (qyh a.off l) (λr=>c n r) (.no 80)) (.no 81)) (qxZ v (λs=>bi (Nat.beq sz 1) (byteCells (bytes s) λr=>lenF r λn=>c n r) (.no 82)) (.no 82))
def qBr (l:List Value)(c:List UInt8->CO):CO:=rL (A:=List UInt8->CO) (B:=CO) (λc=>c []) (λx _ d c=>qwJ x (λk n=>bi (Nat.beq (kN k) 4) (cI (λb=>natF b λb=>bi (Nat.blt b 256) (d λr=>c (.ofNat b::r)) (.no 119)) (λ_=>.no 119) n) (.no 119)) (.no 119)) l c
def ptrT (t:TypeId):Option TypeId:=match P.underlying t with|some (.pointer e)=>some e|_=>none
def srcT (t:TypeId):Bool:=match P.underlying t with|some (.slice _)|some .string=>true|_=>false
def newC (o:O)(v:Nat->Value)(m:M):CO:=m.new o (λj m=>.ret (v j) m) (.no 79)
def slV (n z j:Nat):Value:=.slice (some ⟨j,0,none⟩) n z
def ptV (j:Nat):Value:=.pointer (some ⟨j,0,none⟩)
def appR (b:TypeId)(sz by_:Nat)(s x:Value)(m:M):CO:=srcF sz x m λn new=>
 onSl s (cN (.ret s m) (λe=>natF (Nat.succ e) λn=>bi (Nat.ble (Nat.mul n (Nat.succ by_)) room) (newC (.cells 0 b new) (slV n sz) m) (.no 83)) n)
  (λa l z=>cN (.ret s m) (λe=>natF (Nat.succ e) λn=>natF (Nat.add l n) λt=>bi (andB (Nat.beq z sz) (Nat.ble (Nat.mul t (Nat.succ by_)) room)) (m.cells a.block (λro f c=>bi (Nat.beq b f) (natF (Nat.mul l sz) λd=>bi (orB (notB (Nat.beq ro 1)) (lenF c λlen=>Nat.beq (Nat.add a.off d) len)) (qzt d (qyh a.off c) (λold=>appF old new λall=>m.put a.block .dead λm=>newC (.cells ro b all) (slV t sz) m) (.no 84)) (.no 77)) (.no 78)) (.no 86)) (.no 85)) n) (.no 87)
def qwd (sz:Nat)(a v:Value)(m:M):CO:=qwj a (λa=>m.cells a.block (λro t l=>bi (Nat.beq ro 1) (.no 90) (qAs v (λv=>lenF v λn=>bi (Nat.beq n sz) (layF a.off v l (λl=>m.put a.block (.cells ro t l) λm=>.ret undef m) (.no 88)) (.no 89)) (.no 89))) (.no 90)) (.no 91)
def mapR (d:TypeId)(x k v:Value)(m:M):CO:=bi ((qdG P d).f k) (qzk x (.no 92) (λi=>m.get i λo=>qwv o (λc clock=>putE k v clock c (λc b=>natF (bi b (Nat.succ clock) clock) λclock=>m.put i (.map c clock) λm=>.ret undef m) (.no 92)) (.no 92)) (.no 93)) (.no 93)
def zeros (z:List Value)(n:Nat)(c:List Value->CO):CO:=rN (A:=List Value->CO) (B:=CO) (λc=>c []) (λ_ b c=>b λr=>appF z r c) n c
def qEW (str:Bool)(i:Nat)(m:M):CO:=m.get i λo=>match o with
 |.siter s pos=>bi str (cL (.ret (.tuple #[.bool false]) m) (λb r=>natF b.toNat λn=>bi (Nat.blt n 128) (natF (Nat.succ pos) λp=>m.put i (.siter r p) λm=>.ret (.tuple #[.bool true,.int .i64 (.ofNat pos),.int .i32 (.ofNat n)]) m) (.no 104)) s) (.no 104)
 |_=>.no 110
def strM (e:TypeId)(v:Value)(n:Nat)(m:M):CO:=qwj v (λa=>m.cells a.block (λro t c=>bi (orB (Nat.beq ro 2) (orB (notB (Nat.beq t e)) (notB (Nat.ble n room)))) (.no 121) (natF n λn=>qzt n (qyh a.off c) (λl=>qBr l λl=>m.put a.block (.cells 1 t c) λm=>.ret (.string ⟨⟨l⟩⟩) m) (.no 120))) (.no 121)) (.no 121)
def sbR (e:TypeId)(v:Value)(m:M):CO:=qxZ v (λs=>byteCells (bytes s) λl=>lenF l λn=>bi (Nat.ble n room) (newC (.cells 2 e l) (slV n 1) m) (.no 191)) (.no 192)
def bslQ (e:TypeId)(n:Nat)(b:List (Nat×Operand))(dp:Nat):Bx CF:=match zL P e with
 |none=>noC 94
 |some z=>bi (notB (Nat.ble (n*szT P e) room)) (noC 94) ⟨λF m=>zeros z n λz=>match (qxu P dp (λi=>some (i*szT P e,szT P e)) b).f F z λl=>.val (.agg ⟨l⟩)with
  |.val v=>qC4 v (λl=>natF (szT P e) λsz=>newC (.cells 0 e l) (slV n sz) m) (.no 94)
  |.no w=>.no w⟩
def loud (dp:Nat)(op:Op):Bx CF:=match op with
 |.alloc t=>match zL P t with
  |some z=>⟨λ_ m=>appF z [] λz=>newC (.cells 0 t z) ptV m⟩
  |none=>noC 94
 |.box t x=>⟨λF m=>(ev P dp x).f F λv=>qAs v (λl=>newC (.cells 0 t l) ptV m) (.no 76)⟩
 |.buildSlice t n c=>match qza P t with
  |some e=>bslQ P e n c.toList dp
  |none=>noC 95
 |.makeMap t none=>⟨λ_ m=>newC (.map [] 0) (λj=>.map (some j)) m⟩
 |.store t a v=>bi (notB (okT P t)) (noC 91) ⟨λF m=>(ev P dp a).f F λa=>(ev P dp v).f F λv=>qwd (szT P t) a v m⟩
 |.mapUpdate t x k v=>match mapT P t with
  |some (d,_)=>⟨λF m=>(ev P dp x).f F λx=>(ev P dp k).f F λk=>(ev P dp v).f F λv=>mapR P d x k v m⟩
  |none=>noC 99
 |.range t x=>match P.underlying t with
  |some .string=>⟨λF m=>(ev P dp x).f F λv=>qxZ v (λs=>newC (.siter (bytes s) 0) ptV m) (.no 100)⟩
  |_=>noC 103
 |.convert s t x=>(match P.underlying s,P.underlying t with
  |some .string,some (.slice e)=>bi (isU8 P e) ⟨λF m=>(ev P dp x).f F λv=>sbR e v m⟩ (noC 197)
  |_,_=>noC 199)
 |.next f b=>⟨λF m=>(ev P dp f).f F λv=>qwj v (λa=>bi (Nat.beq a.off 0) (qEW b a.block m) (.no 106)) (.no 106)⟩
 |.call { callee:=.builtin .append,args:=⟨[s,x]⟩,argTypes:=⟨[t,t1]⟩ }=>match qza P t with
  |some e=>bi (notB (andB (srcT P t1) (andB (zL P e).isSome (notB (orB (qxp P e) (Nat.beq (szT P e) 0)))))) (noC 114) ⟨λF m=>(ev P dp s).f F λs=>(ev P dp x).f F λx=>appR e (szT P e) (byT P e) s x m⟩
  |none=>noC 114
 |.call { callee:=.builtin .copy,args:=⟨[x,y]⟩,argTypes:=⟨[t,t1]⟩ }=>match qza P t with
  |some e=>bi (notB (srcT P t1)) (noC 214) ⟨λF m=>(ev P dp x).f F λx=>(ev P dp y).f F λy=>onSl y (onSl x (.ret (.int .i64 (.ofNat 0)) m) (λ_ _ _=>.ret (.int .i64 (.ofNat 0)) m) (.no 215)) (λ_ _ _=>.no 216) (.no 217)⟩
  |none=>noC 214
 |.call { callee:=.builtin .unsafeString,args:=⟨[x,n]⟩,argTypes:=⟨t::_⟩ }=>match ptrT P t with
  |some e=>bi (notB (Nat.beq (szT P e) 1)) (noC 123) ⟨λF m=>(ev P dp x).f F λv=>(ev P dp n).f F λn=>qwJ n (λ_ n=>cI (cN (match v with|.pointer _=>.ret (.string ⟨⟨[]⟩⟩) m|_=>.no 118) (λn=>strM e v (Nat.succ n) m)) (λ_=>.no 122) n) (.no 122)⟩
  |none=>noC 123
 |_=>noC 124
def isQ (op:Op):Bool:=match op with
 |.move _|.assign _|.pick _ _ _|.build _ _|.load _ _|.nilCheck _|.binOp _ _ _ _ _|.unOp _ _ _|.makeInterface _ _|.makeFunc _ _ _|.slice _ _ _ _ _|.fieldAddr _ _ _|.field _ _ _|.indexAddr _ _ _|.index _ _ _|.lookup _ _ _ _|.typeAssert _ _ _ _|.extract _ _=>true
 |.call { callee:=.builtin .len,.. }|.call { callee:=.builtin .cap,.. }|.call { callee:=.builtin .unsafeSliceData,.. }|.call { callee:=.builtin .min,.. }|.call { callee:=.builtin .max,.. }=>true
 |.convert s t _=>(match P.underlying s,P.underlying t with
  |some .string,some (.slice _)=>false
  |some (.slice _),some (.slice _)=>false
  |_,_=>true)
 |_=>false
abbrev PutF (β:Type):=Value->T Value->(T Value->β)->β
def putD (dp nt:Nat):Option Tmp->Bx (PutF β)
 |none=>⟨λ_ F c=>c F⟩
 |some d=>bi (Nat.blt d nt) (T.sets dp d) ⟨λ_ F c=>c F⟩
def qwS (dp:Nat)(c:Call):Bx (T Value->(Tg->List Value->β)->β->β):=match c.callee with
 |.value g=>⟨λF k no=>(ev P dp g).f F λv=>onFn v (λf a b=>evs P dp c.args.toList F λl=>appF l b λl=>appF a l λl=>k (.fn f) l) (onYd v (λj=>evs P dp c.args.toList F λl=>k (.yd j) l) no)⟩
 |_=>⟨λ_ _ no=>no⟩
def isR (op:Op):Bool:=match op with
 |.call c=>(match c.callee with
  |.value _=>true
  |_=>false)
 |.panic _=>true
 |_=>false
def recR (dp:Nat)(op:Op):Bx (Rec->CF):=match op with
 |.call c=>⟨λrec F m=>(qwS P dp c).f F (λf l=>rec f l m) (.no 130)⟩
 |.panic x=>⟨λ_ F m=>(ev P dp x).f F λv=>onIf v (.no 134) (λt v=>.pan (.iface t v) m) (.no 134)⟩
 |_=>⟨λ_ _ _=>.no 136⟩
abbrev Go1:=T Value->M->Out
def oper (dp nt:Nat)(o:Oper):Bx (Rec->Go1->Go1):=
 bi (isQ P o.op) ⟨λ_ k F m=>onQV ((quiet P dp o.op).f F m) (λv=>(putD dp nt o.dst).f v F λF=>k F m) Out.no⟩ <|
 bi (isR o.op) ⟨λrec k F m=>onCO ((recR P dp o.op).f rec F m) (λv m=>(putD dp nt o.dst).f v F λF=>k F m) (λv m=>.go (.pan v) F m) Out.no⟩
  ⟨λ_ k F m=>onCO ((loud P dp o.op).f F m) (λv m=>(putD dp nt o.dst).f v F λF=>k F m) (λ_ _=>.no 135) Out.no⟩
def guardOf (dp:Nat)(ops:List Oper)(g:Nat×Bool):Bx (EvF Out):=match (ops[g.1]?).bind (·.dst)with
 |some d=>ev P dp (.tmp d)
 |none=>⟨λ_ c=>c unk⟩
def one1 (dp nt:Nat)(ops:List Oper)(o:Oper):Bx (Rec->Go1->Go1):=match o.guard with
 |none=>oper P dp nt o
 |some g=>⟨λrec k F m=>(guardOf P dp ops g).f F λv=>onGd g.2 v ((oper P dp nt o).f rec k F m) ((putD dp nt o.dst).f undef F λF=>k F m) (.no 133)⟩
def opers (dp nt:Nat)(ops:List Oper):List Oper->Bx (Rec->Go1)
 |[]=>⟨λ_ F m=>.go .norm F m⟩
 |o::l=>⟨λrec=>(one1 P dp nt ops o).f rec λF m=>(opers dp nt ops l).f rec F m⟩
def inL (n:Nat):List Nat->Bool
 |[]=>false
 |x::l=>bi (Nat.beq x n) true (inL n l)
def inD:Option Nat->List Nat->Bool
 |none,_=>false
 |some d,l=>inL d l
def eqD:Option Nat->Option Nat->Bool
 |some a,some b=>Nat.beq a b
 |_,_=>false
def isA (op:Op):Bool:=match op with
 |.alloc _|.box _ _|.buildSlice _ _ _|.makeMap _ none=>true
 |_=>false
def noM (op:Op):Bool:=match op with
 |.move _|.assign _|.pick _ _ _|.build _ _|.nilCheck _|.binOp _ _ _ _ _|.unOp _ _ _|.makeInterface _ _|.makeFunc _ _ _|.fieldAddr _ _ _|.field _ _ _|.indexAddr _ _ _|.index _ _ _|.typeAssert _ _ _ _|.extract _ _=>true
 |_=>false
structure Info where
 rd:List Nat
 dst:Option Nat
 k:Nat
def kindOf (op:Op):Nat:=bi (isQ P op) (bi (noM op) 0 1) (bi (isA op) 2 3)
def tmpsOf:List Operand->List Nat
 |[]=>[]
 |.tmp t::l=>t::tmpsOf l
 |_::l=>tmpsOf l
def readsOf (ops:List Oper)(o:Oper):List Nat:=match o.guard with
 |none=>tmpsOf o.op.operands.toList
 |some g=>(match (ops[g.1]?).bind (·.dst)with
  |some d=>d::tmpsOf o.op.operands.toList
  |none=>tmpsOf o.op.operands.toList)
def QT (ops:List Oper)(o:Oper):Info:=⟨readsOf ops o,o.dst,kindOf P o.op⟩
def befE (b:List Nat):List Edge->Nat
 |[]=>0
 |e::l=>bi (Region.binds .any e) (Nat.lor (2 ^ e.on) (Nat.lor ((b[e.on]?).getD 0) (befE b l))) (befE b l)
def befL:List Oper->List Nat->List Nat
 |[],b=>b
 |o::rest,b=>befL rest (b++[befE b o.after.toList])
def vw:Nat->List Oper->Bool
 |_,[]=>true
 |j,o::l=>andB (o.after.toList.all λe=>orB (notB (Region.binds .any e)) (Nat.blt e.on j)) (vw (j+1) l)
def at_ (is:List Info)(i:Nat):Info:=(is[i]?).getD ⟨[],none,3⟩
def bef (b:List Nat)(j i:Nat):Bool:=((b[j]?).getD 0).testBit i
def insA (b:List Nat)(i:Nat):List Nat->List Nat
 |[]=>[i]
 |x::l=>bi (bef b i x) (i::x::l) (x::insA b i l)
def ordR (c:List Nat)(is:List Info):List Nat->List Nat->List Nat
 |[],b=>b
 |i::l,b=>ordR c is l (bi (Nat.beq (at_ is i).k 2) (insA c i b) (i::b))
def rng:Nat->Nat->List Nat
 |_,0=>[]
 |i,n+1=>i::rng (i+1) n
def qzn (b:List Nat)(is:List Info)(x y:Nat):Bool:=
 andB (notB (Nat.beq x y))<|andB (notB (eqD (at_ is x).dst (at_ is y).dst))<|andB (orB (notB (inD (at_ is y).dst (at_ is x).rd)) (andB (bef b y x) (notB (Nat.beq (at_ is x).k 1)))) <|
 orB (bef b y x) (notB (orB (inD (at_ is x).dst (at_ is y).rd) (andB (Nat.beq (at_ is x).k 3) (Nat.ble 2 (at_ is y).k))))
def qB7 (b:List Nat)(is:List Info)(n:Nat):List Nat->Bool
 |[]=>true
 |x::l=>andB (Nat.blt x n)<|andB (notB (andB (inD (at_ is x).dst (at_ is x).rd) (Nat.beq (at_ is x).k 1)))<|andB (l.all λy=>qzn b is x y) (qB7 b is n l)
def louds (is:List Info)(b:List Nat):List Nat:=b.filter λi=>Nat.beq (at_ is i).k 3
def cnt (p:Nat->Bool):List Nat->Nat
 |[]=>0
 |x::l=>bi (p x) (cnt p l+1) (cnt p l)
def loOf (b cs:List Nat)(i:Nat):Nat:=cnt (λc=>bef b i c) cs
def hiOf (b cs:List Nat)(i:Nat):Nat:=cnt (λc=>notB (bef b c i)) cs
def allV (f:Value->Value->Bool):List Value->List Value->Bool
 |[],[]=>true
 |a::l,b::m=>bi (f a b) (allV f l m) false
 |_,_=>false
def veq:Nat->Value->Value->Bool
 |0,_,_=>false
 |n+1,a,b=>match a,b with
  |.bool a,.bool b=>bi a b (notB b)
  |.int j a,.int k b=>bi (Nat.beq (kN j) (kN k)) (eqI a b) false
  |.string a,.string b=>eqS (bytes a) (bytes b)
  |.pointer none,.pointer none=>true
  |.pointer (some ⟨a,i,none⟩),.pointer (some ⟨b,j,none⟩)=>bi (Nat.beq a b) (Nat.beq i j) false
  |.slice none a i,.slice none b j=>bi (Nat.beq a b) (Nat.beq i j) false
  |.slice (some ⟨a,i,none⟩) l z,.slice (some ⟨b,j,none⟩) c d=>bi (Nat.beq a b) (bi (Nat.beq i j) (bi (Nat.beq l c) (Nat.beq z d) false) false) false
  |.map none,.map none=>true
  |.map (some a),.map (some b)=>Nat.beq a b
  |.nilFunc,.nilFunc=>true
  |.nilIface,.nilIface=>true
  |.func (.func f) ⟨a⟩ ⟨b⟩,.func (.func g) ⟨e⟩ ⟨h⟩=>bi (Nat.beq f g) (bi (allV (veq n) a e) (allV (veq n) b h) false) false
  |.iface t v,.iface o v'=>bi (Nat.beq t o) (veq n v v') false
  |.agg ⟨l⟩,.agg ⟨c⟩=>allV (veq n) l c
  |.tuple ⟨l⟩,.tuple ⟨c⟩=>allV (veq n) l c
  |_,_=>false
def oeq:O->O->Bool
 |.cells r t l,.cells r' c d=>bi (andB (Nat.beq r 0) (Nat.beq r' 0)) (bi (Nat.beq t c) (allV (veq 6) l d) false) false
 |.map [] a,.map [] b=>Nat.beq a b
 |_,_=>false
abbrev RunF:=Rec->T Value->M->(T Value->M->List M->List M->List (Nat×Nat×O)->Out)->Out
def runD (dp nt:Nat)(ops:List Oper)(is:List Info):List Nat->Bx RunF
 |[]=>⟨λ_ F m k=>k F m [] [m] []⟩
 |i::l=>match ops[i]? with
  |none=>⟨λ_ _ _ _=>.no 162⟩
  |some o=>bi (Nat.beq (at_ is i).k 3) ⟨λrec F m k=>(one1 P dp nt ops o).f rec (λF' m'=>(runD dp nt ops is l).f rec F' m' λFn b as c d=>k Fn b (m'::as) (m::c) d) F m⟩ <|
   bi (Nat.beq (at_ is i).k 2) ⟨λrec F m k=>(one1 P dp nt ops o).f rec (λF' m'=>bi (Nat.beq m.next m'.next) ((runD dp nt ops is l).f rec F' m' k) (m'.get m.next λx=>natF m.next λa=>(runD dp nt ops is l).f rec F' m' λFn b as c d=>k Fn b as c ((i,a,x)::d))) F m⟩
    ⟨λrec F m k=>(one1 P dp nt ops o).f rec (λF' m'=>(runD dp nt ops is l).f rec F' m' k) F m⟩
def qBc {α:Type}(b c:Nat)(l:List α):List α:=(l.drop b).take (c+1-b)
def qCm (dp nt:Nat)(ops:List Oper)(o:Oper)(F:T Value)(rec:Rec):List M->Bool
 |[]=>true
 | m::l=>bi (qwK ((one1 P dp nt ops o).f rec (λF' m'=>.go .norm F' m') F m) (λx F' _=>onX x (match o.dst with
   |some d=>bi (Nat.blt d nt) (T.get undef dp d F λa=>T.get undef dp d F' λb=>veq 6 a b) true
   |none=>true) false) (λ_=>false)) (qCm dp nt ops o F rec l) false
def qCl (a:Nat)(b:O):List M->Bool
 |[]=>true
 |m::l=>bi (Nat.blt a m.next) (bi (m.get a λo=>oeq b o) (qCl a b l) false) false
def qzi (n:Nat):List (Nat×Nat×O)->Bool
 |[]=>true
 |(_,a,_)::l=>andB (Nat.ble n a) (andB (l.all λr=>notB (Nat.beq a r.2.1)) (qzi n l))
def qy6 (b cs:List Nat)(as c:List M):List (Nat×Nat×O)->Bool
 |[]=>true
 |(i,a,x)::l=>andB (match as[loOf b cs i]? with
   |some m=>andB (Nat.ble m.next a) (qCl a x (qBc (loOf b cs i) (hiOf b cs i) c))
   |none=>false) (qy6 b cs as c l)
def qy4 (dp nt:Nat)(ops:List Oper)(b:List Nat)(is:List Info)(cs:List Nat)(rec:Rec)(F:T Value)(c:List M):List Nat->Bool
 |[]=>true
 | i::l=>andB (bi (Nat.beq (at_ is i).k 1) (match ops[i]? with
   |some o=>qCm P dp nt ops o F rec (qBc (loOf b cs i) (hiOf b cs i) c)
   |none=>false) true) (qy4 dp nt ops b is cs rec F c l)
def augB (b:List Nat)(p q:Nat):List Nat:=b.set q (Nat.lor ((b[q]?).getD 0) (2 ^ p))
def last2:List Nat->Option (Nat×Nat)
 |[]=>none
 |p::l=>match l with
  |[q]=>some (p,q)
  |_=>last2 l
def stA (ops:List Oper)(i:Nat):Option Operand:=match ops[i]? with
 |some o=>(match o.op,o.guard,o.dst with
  |.store _ a _,none,none=>some a
  |_,_,_=>none)
 |none=>none
def qAU (b:List Nat)(is:List Info)(ord:List Nat)(p q:Nat):Bool:=
 andB (notB (Nat.beq p q))<|andB (ord.all λi=>orB (Nat.beq i p) (orB (Nat.beq i q) (orB (Nat.beq (at_ is i).k 0) (bef b q i)))) <|
 ord.all λy=>andB (orB (notB (inD (at_ is y).dst (at_ is p).rd)) (bef b p y)) (orB (notB (inD (at_ is y).dst (at_ is q).rd)) (bef b q y))
def qBn (dp:Nat)(a b:Operand)(F:T Value):Bool:=(ev P dp a).f F λa=>(ev P dp b).f F λb=>qwj a (λa=>qwj b (λb=>andB (notB (Nat.beq a.block b.block)) (andB (Nat.blt a.block hdN) (Nat.blt b.block hdN))) false) false
def qB2:List M->Bool
 |[]=>false
 |a::l=>match l with
  |[b,c]=>andB (Nat.beq a.next b.next) (Nat.beq b.next c.next)
  |_=>qB2 l
def qCU (dp nt:Nat)(ops:List Oper)(c:List Nat)(is:List Info)(b:List Nat)(g:Bool)(d:T Value->List M->Bool):Bx (Rec->Go1):=bi (andB (vw 0 ops) (andB ((rng 0 ops.length).all λi=>inL i b) (andB (qB7 c is ops.length b) g))) ⟨λrec F m=>qwK ((runD P dp nt ops is b).f rec F m λF' m' as e f=>bi (andB (qzi m.next f) (andB (qy6 c (louds is b) (m::as) e f) (andB (d F' e) (qy4 P dp nt ops c is (louds is b) rec F' e b)))) (.go .norm F' m') (.no 163)) (λx F m=>onX x (.go .norm F m) (.no 164)) Out.no⟩ ⟨λ_ _ _=>.no 161⟩
def qEH (dp nt:Nat)(ops:List Oper)(c:List Nat)(is:List Info)(d:List Nat):Bx (Rec->Go1):=match last2 (louds is d)with
 |some (p,q)=>(match stA ops p,stA ops q with
  |some a,some b=>qCU P dp nt ops (augB c p q) is d (qAU c is d p q) (λF e=>andB (qBn P dp a b F) (qB2 e))
  |_,_=>⟨λ_ _ _=>.no 166⟩)
 |none=>⟨λ_ _ _=>.no 167⟩
def qEG (dp nt:Nat)(ops:List Oper)(b:List Nat)(is:List Info)(c:List Nat):Bx (Rec->Go1):=bi (qB7 b is ops.length c) (qCU P dp nt ops b is c true λ_ _=>true) (qEH P dp nt ops b is c)
def qDJ (dp nt:Nat)(ops:List Oper):Bx (Rec->Go1):=qEG P dp nt ops (befL ops []) (ops.map (QT P ops)) (ordR (befL ops []) (ops.map (QT P ops)) (rng 0 ops.length) []).reverse
abbrev Cd:=Rec->Nat->Go1
def seqC (a b:Cd):Cd:=λrec n F m=>qwK (a rec n F m) (λx F m=>onX x (b rec n F m) (.go x F m)) Out.no
def condC (c:EvF Out)(a b:Cd):Cd:=λrec n F m=>c F λv=>qxX v (λt=>bi t (a rec n F m) (b rec n F m)) (.no 140)
def qDa (id:Nat)(a:Cd):Cd:=λrec n F m=>qwK (a rec n F m) (λx F m=>inX id x (λx=>.go x F m)) Out.no
def qET (a:Cd):Cd:=λrec n=>rN (A:=T Value) (B:=M->Out) (λ_ _=>.no 141) (λ_ b F m=>qwK (a rec n F m) (λx F m=>onX x (b F m) (.go x F m)) Out.no) n
def code (dp nt:Nat)(rg:Bool):Code->Bx Cd
 |.skip=>⟨λ_ _ F m=>.go .norm F m⟩
 |.region id ops d=>bi d ⟨λrec _=>(qDJ P dp nt ops.toList).f rec⟩ ⟨λrec _=>(opers P dp nt ops.toList ops.toList).f rec⟩
 |.seq a b=>⟨seqC (code dp nt rg a).f (code dp nt rg b).f⟩
 |.cond c a b=>⟨condC (ev P dp c).f (code dp nt rg a).f (code dp nt rg b).f⟩
 |.block id a=>⟨qDa id (code dp nt rg a).f⟩
 |.loop a=>⟨qET (code dp nt rg a).f⟩
 |.exit id=>⟨λ_ _ F m=>.go (.exit id) F m⟩
 |.ret=>⟨λ_ _ F m=>.go .ret F m⟩
 |.rangeFunc _ _ _ _=>⟨λ_ _ _ _=>.no 142⟩
 |.scope _=>⟨λ_ _ _ _=>.no 143⟩
 |.label _=>⟨λ_ _ _ _=>.no 144⟩
 |.goto _=>⟨λ_ _ _ _=>.no 145⟩
 |.refuse _=>⟨λ_ _ _ _=>.no 146⟩
def resV (dp:Nat):ResultVar->Bx QF
 |.tmp t=>⟨λF _=>(ev P dp (.tmp t)).f F λv=>.val v⟩
 |.cell a t=>⟨λF m=>(ev P dp (.tmp a)).f F λv=>qwj v (λa=>ldQ P t a.block a.off m) (.no 147)⟩
def resL (dp:Nat):List ResultVar->Bx (T Value->M->(List Value->CO)->CO)
 |[]=>⟨λ_ _ c=>c []⟩
 |r::l=>⟨λF m c=>onQV ((resV P dp r).f F m) (λv=>(resL dp l).f F m λvs=>c (v::vs)) CO.no⟩
def one (l:List Value):Value:=cL (.tuple ⟨[]⟩) (λv r=>cL v (λ_ _=>.tuple ⟨l⟩) r) l
def qzD (dp nt:Nat):List Value->Nat->T Value->(T Value->CO)->CO
 |[],_,F,c=>c F
 |v::l,k,F,c=>bi (Nat.blt k nt) (T.set dp k v F λF=>qzD dp nt l (Nat.succ k) F c) (.no 149)
def dpOf (n:Nat):Nat:=bi (Nat.ble n 64) 3 (bi (Nat.ble n 256) 4 5)
def leave (x:X)(m:M)(r:(List Value->CO)->CO):CO:=match x with
 |.norm|.ret=>r λvs=>.ret (one vs) m
 |.pan v=>.pan v m
 |.exit _=>.no 152
inductive DO where
 |no (why:Nat)
 |go (x:X) (F:T Value) (m:M) (d:Option (Nat×List Value))
def onDO {β:Type}(q:DO)(f:X->T Value->M->Option (Nat×List Value)->β)(z:Nat->β):β:=DO.rec z f q
def qAH (q:Out)(f:X->T Value->M->DO)(z:Nat->DO):DO:=qwK q f z
def onXD (x:X)(f z:DO):DO:=onX x f z
def qC1 (ops:List Oper):Option (Oper×Call):=match ops.getLast? with
 |some o=>(match o.op,o.guard with
  |.defer c,none=>some (o,c)
  |_,_=>none)
 |none=>none
abbrev Dc:=Rec->Nat->T Value->M->DO
def qD7 (dp nt:Nat)(o:Oper)(c:Call)(k:T Value->M->Option (Nat×List Value)->DO):T Value->M->DO:=λF m=>(qwS P dp c).f F (λt l=>onTg t (λf=>(putD dp nt o.dst).f undef F λF=>k F m (some (f,l))) (λ_=>.no 201)) (.no 202)
def qCR (dp nt:Nat):Code->Option (Bx Dc)
 | .seq a b=>match (match a with
   |.region _ ops false=>(qC1 ops.toList).map λe=>(ops.toList,e)
   |_=>none)with
  |some (ops,o,c)=>some ⟨λrec n F m=>qwK ((opers P dp nt ops ops.dropLast).f rec F m) (λx F m=>onXD x (qD7 P dp nt o c (λF m d=>qAH ((code P dp nt false b).f rec n F m) (λx F m=>.go x F m d) DO.no) F m) (.no 203)) DO.no⟩
  |none=>match qCR dp nt b with
   |some k=>some ⟨λrec n F m=>qAH ((code P dp nt false a).f rec n F m) (λx F m=>onXD x (k.f rec n F m) (.go x F m none)) DO.no⟩
   |none=>none
 |_=>none
def qD9:Code->Option (Option Tmp×Oper×Code)
 |.seq (.region _ ops false) b=>match ops.toList with
  |[r,o]=>(match r.op,r.guard,o.guard with
   |.call { callee:=.builtin .recover,.. },none,none=>some (r.dst,o,b)
   |_,_,_=>none)
  |_=>none
 |_=>none
def qCi (f:Nat):Bx (Rec->Nat->List Value->Value->M->CO):=match P.funcs[f]? with
 |none=>⟨λ_ _ _ _ _=>.no 204⟩
 |some e=>match e.body with
  |none=>⟨λ_ _ _ _ _=>.no 204⟩
  |some c=>match qD9 c with
   |none=>⟨λ_ _ _ _ _=>.no 205⟩
   | some (d,o,b)=>bi (notB (andB (isQ P o.op) (Nat.ble e.ntmps 1024))) ⟨λ_ _ _ _ _=>.no 206⟩ ⟨λrec n l v m=>qzD (dpOf e.ntmps) e.ntmps l 0 .e λF=>(putD (dpOf e.ntmps) e.ntmps d).f v F λF=>onQV ((quiet P (dpOf e.ntmps) o.op).f F m)
     (λv=>(putD (dpOf e.ntmps) e.ntmps o.dst).f v F λF=>qwK ((code P (dpOf e.ntmps) e.ntmps false b).f rec n F m) (λx F m=>leave x m λc=>(resL P (dpOf e.ntmps) e.results.toList).f F m c) CO.no) CO.no⟩
def nilV:Value:=.nilIface
def leaveD (rec:Rec)(n:Nat)(x:X)(m:M)(d:Option (Nat×List Value))(r:M->(List Value->CO)->CO):CO:=match d with
 |none=>leave x m (r m)
 |some (f,l)=>onXP x (onCO ((qCi P f).f rec n l nilV m) (λ_ m=>r m λvs=>.ret (one vs) m) (λ_ _=>.no 207) CO.no) (λv=>onCO ((qCi P f).f rec n l v m) (λ_ m=>r m λvs=>.ret (one vs) m) (λ_ _=>.no 208) CO.no) (.no 209)
def extF (b:Func):Bx (List Value->M->CO):=match Extern.findNext b with
 |some _=>⟨λ_ _=>.no 218⟩
 |none=>match Extern.find b with
  |some row=>⟨λl m=>match l.all flat with|true=>(match qz1 P (row ⟨l⟩)with|.val v=>.ret v m|.no w=>.no w)|false=>.no 219⟩
  |none=>⟨λ_ _=>.no 151⟩
def noZ (ts:List TypeId):Bx (List Value->M->CO):=match ts with
 |[t]=>(match P.underlying t with
  |some (.slice e)=>bi (Nat.beq (szT P e) 1) ⟨λl m=>cL (.no 211) (λv r=>cL (qwJ v (λk n=>bi (Nat.beq (kN k) 3) (cI (λn=>bi (Nat.ble n room) (natF n λn=>newC (.cells 0 e []) (slV n 1) m) (.no 212)) (λ_=>.no 212) n) (.no 212)) (.no 212)) (λ_ _=>.no 211) r) l⟩ ⟨λ_ _=>.no 213⟩
  |_=>⟨λ_ _=>.no 213⟩)
 |_=>⟨λ_ _=>.no 213⟩
def func (e g:Nat)(f:FuncId):Bx (Rec->Nat->List Value->M->CO):=match P.funcs[f]? with
 |none=>⟨λ_ _ _ _=>.no 150⟩
 |some b=>match b.body with
  |none=>bi (Nat.beq f e) ⟨λ_ _ l m=>cL (.no 151) (λv r=>cL (.ret v m) (λ_ _=>.no 151) r) l⟩ (bi (Nat.beq f g) ⟨λ_ _ l m=>(noZ P b.resultTypes.toList).f l m⟩ ⟨λ_ _ l m=>(extF P b).f l m⟩)
  |some c=>bi (notB (Nat.ble b.ntmps 1024)) ⟨λ_ _ _ _=>.no 148⟩<|match qCR P (dpOf b.ntmps) b.ntmps c with
   |some k=>⟨λrec n l m=>qzD (dpOf b.ntmps) b.ntmps l 0 .e λF=>onDO (k.f rec n F m) (λx F m d=>leaveD P rec n x m d λm c=>(resL P (dpOf b.ntmps) b.results.toList).f F m c) CO.no⟩
   |none=>⟨λrec n l m=>qzD (dpOf b.ntmps) b.ntmps l 0 .e λF=>qwK ((code P (dpOf b.ntmps) b.ntmps true c).f rec n F m) (λx F m=>leave x m λc=>(resL P (dpOf b.ntmps) b.results.toList).f F m c) CO.no⟩
def qED (b c:Nat)(d:Rec->Rec):Nat->Rec:=rN (A:=Tg) (B:=List Value->M->CO) (λ_ _ _=>.no 153) λn e t l m=>onTg t (λf=>(func P b c f).f (d e) n l m) (λ_=>.no 175)
def call (b c:Nat):Nat->Rec:=qED P b c λd=>d
end
end E
end Go.Proofs.YtnnhdcidgfjfpaaGreatDoor
namespace Go.Proofs.YtnnhdcidgfjfpaaGreatDoor
namespace E
section
variable {α β:Type}
@[simp] theorem bi_eq (b)(x y:β):bi b x y=if b then x else y:=by cases b<;>rfl
@[simp] theorem cN_zero (z)(s:Nat->β):cN z s 0=z:=rfl
@[simp] theorem cN_succ (z)(s:Nat->β)(n):cN z s (n+1)=s n:=rfl
@[simp] theorem natF_eq (n)(k:Nat->β):natF n k=k n:=by cases n<;>rfl
@[simp] theorem cI_nat (z s:Nat->β)(n):cI z s (Int.ofNat n)=z n:=rfl
@[simp] theorem cI_neg (z s:Nat->β)(n):cI z s (Int.negSucc n)=s n:=rfl
@[simp] theorem intF_eq (n)(k:Int->β):intF n k=k n:=by
 cases n with
 |ofNat n=>exact natF_eq n (λn=>k (.ofNat n))
 |negSucc n=>exact natF_eq n (λn=>k (.negSucc n))
@[simp] theorem boolF_eq (b)(k:Bool->β):qDA b k=k b:=by cases b<;>rfl
@[simp] theorem cL_nil (z)(s:α->List α->β):cL z s []=z:=rfl
@[simp] theorem cL_cons (z)(s:α->List α->β)(x)(l):cL z s (x::l)=s x l:=rfl
theorem qzG (z)(s:α->List α->β)(l):cL z s l=match l with|[]=>z|x::t=>s x t:=by cases l<;>rfl
@[simp] theorem rN_zero {A B}(z)(s:Nat->(A->B)->A->B):rN z s 0=z:=rfl
@[simp] theorem rN_succ {A B}(z)(s:Nat->(A->B)->A->B)(n):rN z s (n+1)=s n (rN z s n):=rfl
@[simp] theorem rL_nil {A B}(z)(s:α->List α->(A->B)->A->B):rL z s []=z:=rfl
@[simp] theorem rL_cons {A B}(z)(s:α->List α->(A->B)->A->B)(x)(l):rL z s (x::l)=s x l (rL z s l):=rfl
theorem qxm {j k}(h:kN j=kN k):j=k:=by cases j<;>cases k<;>first|rfl|(exact absurd h (by decide))
theorem qvt (v f)(z:β):qwJ v f z=match v with|.int k n=>f k n|_=>z:=by cases v<;>rfl
theorem qvV (v f)(z:β):qxX v f z=match v with|.bool b=>f b|_=>z:=by cases v<;>rfl
theorem qvE (v f)(z:β):qxZ v f z=match v with|.string s=>f s|_=>z:=by cases v<;>rfl
theorem qu9 (v f)(z:β):qwj v f z=match v with|.pointer (some a)=>f a|_=>z:=by cases v<;>first|rfl|(rename_i o;cases o<;>rfl)
theorem qvH (v nil f)(z:β):onSl v nil f z=match v with|.slice none _ _=>nil|.slice (some a) n c=>f a n c|_=>z:=by cases v<;>first|rfl|(rename_i o _ _;cases o<;>rfl)
theorem qwX (v f)(z:β):qC4 v f z=match v with|.agg l=>f l.toList|_=>z:=by cases v<;>rfl
theorem qAI (v f)(z:β):qD3 v f z=match v with|.tuple l=>f l.toList|_=>z:=by cases v<;>rfl
theorem qv2 (v nil f)(z:β):qzk v nil f z=match v with|.map none=>nil|.map (some i)=>f i|_=>z:=by cases v<;>first|rfl|(rename_i o;cases o<;>rfl)
theorem qyM (v f)(z:β):onFn v f z=match v with|.func (.func g) a b=>f g a.toList b.toList|_=>z:=by cases v<;>first|rfl|(rename_i o _ _;cases o<;>rfl)
theorem qzY (v f)(z:β):onYd v f z=match v with|.func (.yield j) _ _=>f j|_=>z:=by cases v<;>first|rfl|(rename_i o _ _;cases o<;>rfl)
theorem qzW (v nil f)(z:β):onIf v nil f z=match v with|.nilIface=>nil|.iface t v=>f t v|_=>z:=by cases v<;>rfl
theorem qBa (o f)(z:β):onCells o f z=match o with|.cells r t c=>f r t c|_=>z:=by cases o<;>rfl
theorem qvu (o f)(z:β):qwv o f z=match o with|.map e c=>f e c|_=>z:=by cases o<;>rfl
theorem qzX (t)(f g:Nat->β):onTg t f g=match t with|.fn i=>f i|.yd j=>g j:=by cases t<;>rfl
theorem qxY (q f)(z:Nat->β):onQV q f z=match q with|.val v=>f v|.no w=>z w:=by cases q<;>rfl
theorem qvP (q f g)(z:Nat->β):onCO q f g z=match q with|.ret v m=>f v m|.pan v m=>g v m|.no w=>z w:=by cases q<;>rfl
theorem qvo (q f)(z:Nat->β):qwK q f z=match q with|.go x F m=>f x F m|.no w=>z w:=by cases q<;>rfl
theorem qyo (x)(f z:β):onX x f z=match x with|.norm=>f|_=>z:=by cases x<;>rfl
theorem qEQ (id x)(f:X->β):inX id x f=match x with|.exit i=>if i=id then f .norm else f (.exit i)|x=>f x:=by cases x<;>first|rfl|(simp only[inX,bi_eq,Nat.beq_eq])
@[simp] theorem cM_mk (f:Nat->T O->β)(n)(t):cM f (.mk n t)=f n t:=rfl
@[simp] theorem dropL_eq (k)(l:List α):qyh k l=l.drop k:=by
 induction k generalizing l with
 |zero=>rfl
 |succ k b=>cases l with
  |nil=>rfl
  |cons x l=>exact b l
@[simp] theorem takeF_eq (k)(l)(c:List α->β)(no):qzt k l c no=if k<=l.length then c (l.take k)else no:=by
 unfold qzt
 induction k generalizing l c with
 |zero=>simp
 |succ k b=>cases l with
  |nil=>simp
  |cons x l=>simp[b]
def lay (k:Nat)(v l:List α):List α:=l.take k++v++l.drop (k+v.length)
theorem qDR (v l)(c:List α->β)(no):layV v l c no=if v.length<=l.length then c (v++l.drop v.length)else no:=by
 unfold layV
 induction v generalizing l c with
 |nil=>simp
 |cons x v b=>cases l with
  |nil=>simp
  |cons y l=>simp[b]
@[simp] theorem layF_eq (k)(v l)(c:List α->β)(no):layF k v l c no=if k+v.length<=l.length then c (lay k v l)else no:=by
 unfold layF
 induction k generalizing l c with
 |zero=>simp[qDR,lay]
 |succ k b=>cases l with
  |nil=>simp
  |cons y l=>
   simp only[rN_succ,cL_cons,b,List.length_cons];have:k+1+v.length<=l.length+1↔k+v.length<=l.length:=by omega
   simp only[this];congr 1;simp only[lay,List.take_succ_cons,List.cons_append];rw[show k+1+v.length=(k+v.length)+1 by omega,List.drop_succ_cons]
@[simp] theorem appF_eq (l m)(c:List α->β):appF l m c=c (l++m):=by
 unfold appF
 induction l generalizing c with
 |nil=>rfl
 |cons x l b=>simp[b]
@[simp] theorem lenF_eq (l:List α)(c:Nat->β):lenF l c=c l.length:=by
 unfold lenF;have:∀ (l:List α) (n:Nat),rL (A:=Nat) (B:=β) (λn=>natF n c) (λ_ _ b n=>b (Nat.succ n)) l n=c (n+l.length):=by
  intro l
  induction l with
  |nil=>intro n;simp
  |cons x l b=>intro n;simp only[rL_cons,b,List.length_cons];congr 1;omega
 rw[this,Nat.zero_add]
def qxd (v:Value):Bool:=match v with
 |.tuple _|.chan _=>false
 |_=>true
@[simp] theorem cellsF_eq (v)(c)(no:β):qAs v c no=if qxd v then c v.cells.toList else no:=by cases v<;>rfl
theorem qBW {k}{v l:List α}(h:k+v.length<=l.length):(lay k v l).length=l.length:=by simp only[lay,List.length_append,List.length_take,List.length_drop];omega
theorem qDS {k}{v l:List α}(h:k+v.length<=l.length)(j):(lay k v l)[j]? = if k<=j/\j<k+v.length then v[j-k]? else l[j]?:=by
 unfold lay;rw[List.append_assoc]
 grind
namespace T
@[simp] theorem cT_n (z)(s:T α->T α->T α->T α->β)(a b c d):cT z s (.n a b c d)=s a b c d:=rfl
@[simp] theorem cT_e (z)(s:T α->T α->T α->T α->β):cT z s .e=z:=rfl
@[simp] theorem cT_l (z)(s:T α->T α->T α->T α->β)(a):cT z s (.l a)=z:=rfl
@[simp] theorem leafT_l (z)(c:α->β)(a):qC3 z c (.l a)=c a:=rfl
@[simp] theorem leafT_e (z)(c:α->β):qC3 z c (.e:T α)=z:=rfl
@[simp] theorem leafT_n (z)(c:α->β)(a b d e):qC3 z c (.n a b d e)=z:=rfl
def kid (g:Nat):T α->T α
 |.n a b c d=>match g with|0=>a|1=>b|2=>c|_=>d
 |_=>.e
def mkK (g:Nat)(x:T α):T α->T α
 |.n a b c d=>match g with|0=>.n x b c d|1=>.n a x c d|2=>.n a b x d|_=>.n a b c x
 |_=>match g with|0=>.n x .e .e .e|1=>.n .e x .e .e|2=>.n .e .e x .e|_=>.n .e .e .e x
def look (z:α):Nat->Nat->T α->α
 |0,_,.l a=>a
 |0,_,_=>z
 |dp+1,k,t=>look z dp (k / 4) (kid (k % 4) t)
def put:Nat->Nat->α->T α->T α
 |0,_,v,_=>.l v
 |dp+1,k,v,t=>mkK (k % 4) (put dp (k / 4) v (kid (k % 4) t)) t
theorem qzg (z):∀ (dp k:Nat),look z dp k (.e:T α)=z
 |0,_=>rfl
 |dp+1,k=>qzg z dp (k / 4)
theorem qxy (g)(b:g<4)(x t:T α):kid g (mkK g x t)=x:=by
 have:g=0\/g=1\/g=2\/g=3:=by omega
 rcases this with rfl|rfl|rfl|rfl<;>cases t<;>rfl
theorem qxT (g h)(d:g<4)(e:h<4)(c:g≠h)(x t:T α):kid h (mkK g x t)=kid h t:=by
 have a:g=0\/g=1\/g=2\/g=3:=by omega
 have b:h=0\/h=1\/h=2\/h=3:=by omega
 rcases a with rfl|rfl|rfl|rfl<;>rcases b with rfl|rfl|rfl|rfl<;>cases t<;>first|rfl|omega
theorem look_put_same (z)(v):∀ (dp k:Nat) (t:T α),look z dp k (put dp k v t)=v
 |0,_,_=>rfl
 |dp+1,k,t=>by simp only[look,put,qxy _ (Nat.mod_lt k (by omega))];exact look_put_same z v dp (k / 4) _
theorem look_put_other (z)(v):∀ (dp j k:Nat) (t:T α),j<4 ^ dp->k<4 ^ dp->j≠k->look z dp j (put dp k v t)=look z dp j t
 |0,j,k,t,f,g,b=>absurd (show j=k by omega) b
 |dp+1,j,k,t,f,g,b=>by
  simp only[look,put];by_cases h:k % 4=j % 4
  . rw[h,qxy _ (Nat.mod_lt j (by omega))];have c:j / 4<4 ^ dp:=by omega
    have d:k / 4<4 ^ dp:=by omega
    exact look_put_other z v dp (j / 4) (k / 4) _ c d (λe=>b (by omega))
  . rw[qxT _ _ (Nat.mod_lt k (by omega)) (Nat.mod_lt j (by omega)) h]
theorem four (g)(b:g<4):g=0\/g=1\/g=2\/g=3:=by omega
theorem qBM (z t)(c:α->β)(k):getL z t c=c (look z 0 k t):=by cases t<;>rfl
theorem qAx (z f dp k)(b:∀ t c,f t c=c (look z dp (k / 4) t))(t)(c:α->β):sel f z (k % 4) t c=c (look z (dp+1) k t):=by
 rcases four (k % 4) (Nat.mod_lt k (by omega))with h|h|h|h <;>
  simp only[look,h]<;>cases t<;>simp[sel,getA,getB,getC,getD,kid,qzg,b]
theorem get_eq (z):∀ (dp k:Nat) (t:T α) (c:α->β),get z dp k t c=c (look z dp k t)
 |0,k,t,c=>qBM z t c k
 |dp+1,k,t,c=>by
  have e:(get z (dp+1) k:GetF α β)=sel (get z dp (k / 4)) z (k % 4):=by show natF (k / 4) (λb=>sel (get z dp b) z (k % 4))=_;simp_all
  rw[e];exact qAx z _ dp k (λt c=>get_eq z dp (k / 4) t c) t c
theorem qEc (z)(f:GetF α β)(g)(b:g<4):(cN (Bx.mk (getA f z)) (λg=>cN ⟨getB f z⟩ (λg=>cN ⟨getC f z⟩ (λ_=>⟨getD f z⟩) g) g) g).f=sel f z g:=by rcases four g b with rfl|rfl|rfl|rfl<;>rfl
@[simp] theorem gets_eq (z):∀ (dp k:Nat) (t:T α) (c:α->β),(gets z dp k).f t c=c (look z dp k t)
 |0,k,t,c=>qBM z t c k
 |dp+1,k,t,c=>by
  have e:(gets z (dp+1) k:Bx (GetF α β)).f=sel (gets z dp (k / 4)).f z (k % 4):=by rw[<- qEc z _ _ (Nat.mod_lt k (by omega))];have d:(gets z (dp+1) k:Bx (GetF α β))=natF (Nat.div k 4) λb=>cN ⟨getA (gets z dp b).f z⟩ (λg=>cN ⟨getB (gets z dp b).f z⟩ (λg=>cN ⟨getC (gets z dp b).f z⟩ (λ_=>⟨getD (gets z dp b).f z⟩) g) g) (Nat.mod k 4):=rfl;rw[d,natF_eq];rfl
  rw[e];exact qAx z _ dp k (λt c=>gets_eq z dp (k / 4) t c) t c
theorem qAV (f dp k v)(b:∀ t c,f v t c=c (put dp (k / 4) v t))(t)(c:T α->β):upd f (k % 4) v t c=c (put (dp+1) k v t):=by
 rcases four (k % 4) (Nat.mod_lt k (by omega))with h|h|h|h <;>
  simp only[put,h]<;>cases t<;>simp[upd,updA,updB,updC,updD,kid,mkK,b]
theorem set_eq (v):∀ (dp k:Nat) (t:T α) (c:T α->β),set dp k v t c=c (put dp k v t)
 |0,k,t,c=>rfl
 |dp+1,k,t,c=>by
  have e:(set (dp+1) k:SetF α β)=upd (set dp (k / 4)) (k % 4):=by show natF (k / 4) (λb=>upd (set dp b) (k % 4))=_;simp_all
  rw[e];exact qAV _ dp k v (λt c=>set_eq v dp (k / 4) t c) t c
theorem qEk (f:SetF α β)(g)(b:g<4):(cN (Bx.mk (updA f)) (λg=>cN ⟨updB f⟩ (λg=>cN ⟨updC f⟩ (λ_=>⟨updD f⟩) g) g) g).f=upd f g:=by rcases four g b with rfl|rfl|rfl|rfl<;>rfl
@[simp] theorem sets_eq (v):∀ (dp k:Nat) (t:T α) (c:T α->β),(sets dp k).f v t c=c (put dp k v t)
 |0,k,t,c=>rfl
 |dp+1,k,t,c=>by
  have e:(sets (dp+1) k:Bx (SetF α β)).f=upd (sets dp (k / 4)).f (k % 4):=by rw[<- qEk _ _ (Nat.mod_lt k (by omega))];have d:(sets (dp+1) k:Bx (SetF α β))=natF (Nat.div k 4) λb=>cN ⟨updA (sets dp b).f⟩ (λg=>cN ⟨updB (sets dp b).f⟩ (λg=>cN ⟨updC (sets dp b).f⟩ (λ_=>⟨updD (sets dp b).f⟩) g) g) (Nat.mod k 4):=rfl;rw[d,natF_eq];rfl
  rw[e];exact qAV _ dp k v (λt c=>sets_eq v dp (k / 4) t c) t c
end T
def M.tr:M->T O|.mk _ t=>t
def M.at (m:M)(i:Nat):O:=T.look .dead hd i m.tr
def M.setA (m:M)(i:Nat)(o:O):M:=.mk m.next (T.put hd i o m.tr)
def M.push (m:M)(o:O):M:=.mk (m.next+1) (T.put hd m.next o m.tr)
@[simp] theorem M.get_eq (i)(m:M)(c:O->β):m.get i c=c (m.at i):=by cases m;simp[M.get,T.get_eq,M.at,M.tr]
@[simp] theorem M.put_eq (i)(o)(m:M)(c:M->β):m.put i o c=c (m.setA i o):=by cases m;simp[M.put,T.set_eq,M.setA,M.tr,M.next]
@[simp] theorem M.new_eq (o)(m:M)(c)(no:β):m.new o c no=if m.next<hdN then c m.next (m.push o)else no:=by
 cases m with
 |mk n t=>simp only[M.new,cM_mk,bi_eq,T.set_eq,natF_eq,M.next,M.push,M.tr];by_cases h:n<hdN<;>simp[h,Nat.blt_eq]
@[simp] theorem M.cells_eq (i)(m:M)(c)(no:β):m.cells i c no=match m.at i with|.cells r t l=>c r t l|_=>no:=by simp[M.cells,qBa]
@[simp] theorem M.next_setA (m:M)(i)(o):(m.setA i o).next=m.next:=rfl
@[simp] theorem M.next_push (m:M)(o):(m.push o).next=m.next+1:=rfl
theorem qwG:hdN<4 ^ hd:=by decide
theorem M.at_setA_same (m:M)(i)(o):(m.setA i o).at i=o:=T.look_put_same _ _ _ _ _
theorem M.at_setA_other (m:M)(i j o)(b:i<4 ^ hd)(c:j<4 ^ hd)(h:j≠i):(m.setA i o).at j=m.at j:=T.look_put_other _ _ _ _ _ _ c b h
theorem M.at_push_same (m:M)(o):(m.push o).at m.next=o:=T.look_put_same _ _ _ _ _
theorem M.at_push_other (m:M)(j o)(b:m.next<4 ^ hd)(c:j<4 ^ hd)(h:j≠m.next):(m.push o).at j=m.at j:=T.look_put_other _ _ _ _ _ _ c b h
end
end E
end Go.Proofs.YtnnhdcidgfjfpaaGreatDoor
namespace Go.Proofs.YtnnhdcidgfjfpaaGreatDoor
namespace E
structure Lc where
 b:Nat
 o:Nat
 S:Nat
abbrev Mu:=Nat->Option Lc
def one?: Value->Bool
 |.agg _|.tuple _|.chan _=>false
 |_=>true
inductive R (μ:Mu):Value->Value->Prop
 |sc (v) (h:sc v=true):R μ v v
 |any (V):R μ (.chan none) V
 |ptr (i k x) (h:μ i=some x):R μ (.pointer (some ⟨i,k,none⟩)) (.pointer (some ⟨x.b,x.o+k,none⟩))
 |sl (i k n z x cap) (h:μ i=some x) (hc:n<=cap) (hs:x.o+k+cap*z<=x.S):R μ (.slice (some ⟨i,k,none⟩) n z) (.slice (some ⟨x.b,x.o+k,none⟩) n cap)
 |sl0 (i k z x a) (h:μ i=some x):R μ (.slice (some ⟨i,k,none⟩) 0 z) (.slice (some a) 0 0)
 |map (i x) (h:μ i=some x):R μ (.map (some i)) (.map (some x.b))
 | func (f) (a b a' b':List Value) (la:a.length=a'.length) (ha:∀ (j:Nat) (v v':Value),a[j]? = some v->a'[j]? = some v'->R μ v v')
   (lb:b.length=b'.length) (hb:∀ (j:Nat) (v v':Value),b[j]? = some v->b'[j]? = some v'->R μ v v'):R μ (.func (.func f) ⟨a⟩ ⟨b⟩) (.func (.func f) ⟨a'⟩ ⟨b'⟩)
 |yd (j x) (h:μ j=some x):R μ (.func (.yield j) ⟨[]⟩ ⟨[]⟩) (.func (.yield x.b) ⟨[]⟩ ⟨[]⟩)
 |iface (t v v') (h:R μ v v'):R μ (.iface t v) (.iface t v')
 |agg (l l':List Value) (hl:l.length=l'.length) (h:∀ (j:Nat) (v v':Value),l[j]? = some v->l'[j]? = some v'->R μ v v') (h1:∀ v∈l,one? v=true):R μ (.agg ⟨l⟩) (.agg ⟨l'⟩)
 |tup (l l':List Value) (hl:l.length=l'.length) (h:∀ (j:Nat) (v v':Value),l[j]? = some v->l'[j]? = some v'->R μ v v'):R μ (.tuple ⟨l⟩) (.tuple ⟨l'⟩)
def RL (μ:Mu)(l b:List Value):Prop:=l.length=b.length/\∀ (j:Nat) (v v':Value),l[j]? = some v->b[j]? = some v'->R μ v v'
def ones (l:List Value):Prop:=∀ v∈l,one? v=true
def Ext (μ b:Mu):Prop:=∀ i x,μ i=some x->b i=some x
theorem Ext.refl (μ):Ext μ μ:=λ_ _ h=>h
theorem Ext.trans {μ ν ξ}(h:Ext μ ν)(k:Ext ν ξ):Ext μ ξ:=λi x e=>k i x (h i x e)
theorem R.mono {μ c}(d:Ext μ c){v V}(h:R μ v V):R c v V:=by
 induction h with
 |sc v h=>exact .sc v h
 |any V=>exact .any V
 |ptr i k x h=>exact .ptr i k x (d i x h)
 |sl i k n z x cap h r s=>exact .sl i k n z x cap (d i x h) r s
 |sl0 i k z x a h=>exact .sl0 i k z x a (d i x h)
 |map i x h=>exact .map i x (d i x h)
 |func f a b u y A D B E g o=>exact .func f a b u y A g B o
 |yd j x h=>exact .yd j x (d j x h)
 |iface t v v' h e=>exact .iface t v v' e
 |agg l p q h C e=>exact .agg l p q e C
 |tup l p q h e=>exact .tup l p q e
theorem RL.mono {μ b}(d:Ext μ b){l c}(h:RL μ l c):RL b l c:=⟨h.1,λj v v' e f=>(h.2 j v v' e f).mono d⟩
section
variable {μ:Mu}
theorem RL.nil:RL μ [] []:=⟨rfl,by simp⟩
theorem RL.cons {v V l b}(h:R μ v V)(c:RL μ l b):RL μ (v::l) (V::b):=by
 refine⟨by simp[c.1],λj u d e f=>?_⟩;cases j with
 |zero=>grind
 |succ j=>exact c.2 j u d (by grind) (by grind)
theorem RL.cons_inv {v l L}(h:RL μ (v::l) L):∃ V b,L=V::b/\R μ v V/\RL μ l b:=by
 cases L with
 |nil=>exact absurd h.1 (by simp)
 |cons V b=>exact⟨V,b,rfl,h.2 0 v V rfl rfl,by simpa using h.1,λj u c e d=>h.2 (j+1) u c (by grind) (by grind)⟩
theorem RL.nil_inv {L}(h:RL μ [] L):L=[]:=List.length_eq_zero_iff.1 h.1.symm
theorem RL.append {a b d f}(h:RL μ a d)(k:RL μ b f):RL μ (a++b) (d++f):=by
 refine⟨by simp[h.1,k.1],λj v v' e c=>?_⟩;by_cases g:j<a.length
 . rw[List.getElem?_append_left g]at e;rw[List.getElem?_append_left (by rw[<- h.1];exact g)]at c;exact h.2 j v v' e c
 . rw[List.getElem?_append_right (by omega)]at e;rw[List.getElem?_append_right (by rw[<- h.1];omega)]at c;rw[<- h.1]at c;exact k.2 _ v v' e c
theorem RL.drop {l b}(h:RL μ l b)(n):RL μ (l.drop n) (b.drop n):=by refine⟨by simp[h.1],λj v v' e c=>?_⟩;rw[List.getElem?_drop]at e c;exact h.2 _ v v' e c
theorem RL.take {l c}(h:RL μ l c)(n):RL μ (l.take n) (c.take n):=by
 refine⟨by simp[h.1],λj v v' e b=>?_⟩;rw[List.getElem?_take]at e b;split at e
 . rw[if_pos (by omega)]at b;exact h.2 _ v v' e b
 grind
theorem RL.lay {v v' l b}(c:RL μ v v')(d:RL μ l b)(k):RL μ (lay k v l) (E.lay k v' b):=by unfold E.lay;rw[<- c.1];exact((d.take k).append c).append (d.drop _)
theorem RL.get {l b}(h:RL μ l b){j:Nat}{v}(e:l[j]? = some v):∃ V,b[j]? = some V/\R μ v V:=by
 have c:j<b.length:=by rw[<- h.1];grind
 exact⟨_,List.getElem?_eq_getElem c,h.2 j v _ e (List.getElem?_eq_getElem c)⟩
theorem ones.nil:ones []:=by intro v h;cases h
theorem ones.cons {v l}(h:one? v=true)(b:ones l):ones (v::l):=by
 intro u hu;rcases List.mem_cons.1 hu with rfl|hu
 . exact h
 . exact b u hu
theorem ones.append {a b}(h:ones a)(k:ones b):ones (a++b):=λv c=>(List.mem_append.1 c).elim (h v) (k v)
theorem ones.drop {l}(h:ones l)(n):ones (l.drop n):=λv b=>h v (List.mem_of_mem_drop b)
theorem ones.take {l}(h:ones l)(n):ones (l.take n):=λv b=>h v (List.mem_of_mem_take b)
theorem ones.lay {v l}(h:ones v)(k:ones l)(n):ones (E.lay n v l):=((k.take n).append h).append (k.drop _)
theorem R.int {k n V}(h:R μ (.int k n) V):V=.int k n:=by cases h;rfl
theorem R.bool {b V}(h:R μ (.bool b) V):V=.bool b:=by cases h;rfl
theorem R.str {s V}(h:R μ (.string s) V):V=.string s:=by cases h;rfl
theorem R.nilptr {V}(h:R μ (.pointer none) V):V=.pointer none:=by cases h;rfl
theorem R.nilsl {n c V}(h:R μ (.slice none n c) V):n=0/\c=0/\V=.slice none 0 0:=by
 cases h with
 |sc _ h=>
  unfold E.sc at h;split at h<;>first|cases h|skip
  all_goals simp_all
theorem R.nilmap {V}(h:R μ (.map none) V):V=.map none:=by cases h;rfl
theorem R.nilIface {V}(h:R μ .nilIface V):V=.nilIface:=by cases h;rfl
theorem R.nilFunc {V}(h:R μ .nilFunc V):V=.nilFunc:=by cases h;rfl
theorem R.ptrI {a V}(h:R μ (.pointer (some a)) V):a.spot=none/\∃ x,μ a.block=some x/\V=.pointer (some ⟨x.b,x.o+a.off,none⟩):=by
 cases h with
 |sc _ h=>cases h
 |ptr i k x h=>grind
theorem R.slI {a n z V}(h:R μ (.slice (some a) n z) V):a.spot=none/\((n=0/\(∃ x,μ a.block=some x)/\∃ b,V=.slice (some b) 0 0) \/
  ∃ x cap,μ a.block=some x/\n<=cap/\x.o+a.off+cap*z<=x.S/\V=.slice (some ⟨x.b,x.o+a.off,none⟩) n cap):=by
 cases h with
 |sc _ h=>cases h
 |sl i k n z x cap h c d=>simp_all
 |sl0 i k z x a h=>grind
theorem R.mapI {i V}(h:R μ (.map (some i)) V):∃ x,μ i=some x/\V=.map (some x.b):=by
 cases h with
 |sc _ h=>cases h
 |map i x h=>grind
theorem R.fnI {f a b V}(h:R μ (.func (.func f) a b) V):∃ c d:Array Value,V=.func (.func f) c d/\RL μ a.toList c.toList/\RL μ b.toList d.toList:=by
 cases h with
 |sc _ h=>cases h
 |func f a b c d e g i j=>exact⟨_,_,rfl,⟨e,g⟩,⟨i,j⟩⟩
theorem R.ydI {j a b V}(h:R μ (.func (.yield j) a b) V):a=⟨[]⟩/\b=⟨[]⟩/\∃ x,μ j=some x/\V=.func (.yield x.b) ⟨[]⟩ ⟨[]⟩:=by
 cases h with
 |sc _ h=>cases h
 |yd j x h=>grind
theorem R.ifI {t v V}(h:R μ (.iface t v) V):∃ v',V=.iface t v'/\R μ v v':=by
 cases h with
 |sc _ h=>cases h
 |iface t v v' h=>grind
theorem R.aggI {l V}(h:R μ (.agg l) V):∃ b:Array Value,V=.agg b/\RL μ l.toList b.toList/\ones l.toList:=by
 cases h with
 |sc _ h=>cases h
 |agg l b c h d=>exact⟨_,rfl,⟨c,h⟩,d⟩
theorem R.tupI {l V}(h:R μ (.tuple l) V):∃ b:Array Value,V=.tuple b/\RL μ l.toList b.toList:=by
 cases h with
 |sc _ h=>cases h
 |tup l b c h=>exact⟨_,rfl,c,h⟩
theorem R.mkAgg {l b}(h:RL μ l b)(c:ones l):R μ (.agg ⟨l⟩) (.agg ⟨b⟩):=.agg l b h.1 h.2 c
theorem R.mkTup {l b}(h:RL μ l b):R μ (.tuple ⟨l⟩) (.tuple ⟨b⟩):=.tup l b h.1 h.2
theorem R.undef:R μ undef Go.undef:=.tup [] [] rfl (by simp)
theorem R.one {v V}(h:R μ v V)(b:one? v=true):one? V=true:=by cases h<;>first|exact b|rfl|cases b
theorem RL.ones {l c}(h:RL μ l c)(d:ones l):E.ones c:=by
 intro V e;obtain⟨j,f⟩:=List.getElem?_of_mem e;have b:j<l.length:=by rw[h.1];grind
 exact(h.2 j _ V (List.getElem?_eq_getElem b) f).one (d _ (List.getElem_mem b))
theorem qzl {v}(h:one? v=true):v.cells = #[v]:=by cases v<;>first|rfl|cases h
theorem R.cells {v V}(h:R μ v V)(b:qxd v=true):RL μ v.cells.toList V.cells.toList/\E.ones v.cells.toList:=by
 cases v with
 |agg l=>obtain⟨e,rfl,c,d⟩:=h.aggI;exact⟨c,d⟩
 |tuple _=>cases b
 |chan _=>cases b
 |_=>refine⟨?_,.cons rfl .nil⟩;have c:=h.one rfl;rw[qzl c];exact .cons h .nil
theorem qDt {v}(h:sc v=true):one? v=true:=by unfold sc at h;split at h<;>first|rfl|cases h
theorem R.scI {v V}(b:E.sc v=true)(h:R μ v V):V=v:=by cases h<;>first|rfl|cases b
theorem RL.scs {l L}(b:l.all sc=true)(h:RL μ l L):L=l:=by
 induction l generalizing L with
 |nil=>exact h.nil_inv
 |cons v l c=>obtain⟨V,f,rfl,d,e⟩:=h.cons_inv;simp only[List.all_cons,Bool.and_eq_true]at b;rw[d.scI b.1,c b.2 e]
theorem qwp {l}(b:l.all sc=true):RL μ l l:=by
 induction l with
 |nil=>exact .nil
 |cons v l c=>simp only[List.all_cons,Bool.and_eq_true]at b;exact .cons (.sc v b.1) (c b.2)
theorem qw3 {l}(b:l.all sc=true):E.ones l:=λv c=>qDt (List.all_eq_true.1 b v c)
theorem qvv {v}(h:qvA v=true):R μ v v:=by
 unfold qvA at h;split at h
 . exact .mkAgg (qwp h) (qw3 h)
 . exact .sc _ h
theorem qBK {v}(h:flat v=true):R μ v v:=by
 unfold flat at h;split at h
 . exact .iface _ _ _ (qvv h)
 . exact qvv h
theorem R.flat1I {v V}(b:qvA v=true)(h:R μ v V):V=v:=by
 unfold qvA at b;split at b
 . obtain⟨c,rfl,d,_⟩:=h.aggI;have:=d.scs b;obtain⟨c⟩:=c
   grind
 . exact h.scI b
theorem R.flatI {v V}(b:flat v=true)(h:R μ v V):V=v:=by
 unfold flat at b;split at b
 . obtain⟨v',rfl,c⟩:=h.ifI;rw[c.flat1I b]
 . exact h.flat1I b
end
end E
end Go.Proofs.YtnnhdcidgfjfpaaGreatDoor
namespace Go.Proofs.YtnnhdcidgfjfpaaGreatDoor
namespace E
def RE (μ:Mu)(d b:List MapEntry):Prop:=d.length=b.length/\∀ (j:Nat) (e c:MapEntry),d[j]? = some e->b[j]? = some c->c.key=e.key/\qvA e.key=true/\c.born=e.born/\R μ e.val c.val
def Fr (ro:Nat)(fr:Nat×Nat)(n S:Nat):Prop:=fr.1=fr.2\/(ro=1/\fr.2<=n)\/(ro=2/\S<=fr.1)
theorem Fr.free {ro fr n S}(h:Fr ro fr n S){k}(c:ro≠1\/n<=k)(d:k<S):¬ (fr.1<=k/\k<fr.2):=by
 rcases h with h|⟨h,b⟩|⟨h,b⟩
 . omega
 . omega
 . omega
theorem Fr.mv {ro fr n c S}(h:Fr ro fr n S)(b:n<=c\/ro≠1):Fr ro fr c S:=by
 rcases h with h|⟨h,d⟩|h
 . exact .inl h
 .
  rcases b with b|b
  . exact .inr (.inl ⟨h,by omega⟩)
  omega
 . exact .inr (.inr h)
structure RF (μ:Mu) (dp nt:Nat) (F:T Value) (ts:Array Value):Prop where
 size:ts.size=nt
 le:nt<=4 ^ dp
 at_:∀ t,t<4 ^ dp->R μ (T.look undef dp t F) (ts.getD t Go.undef)
theorem RF.mono {μ b dp nt F ts}(c:Ext μ b)(h:RF μ dp nt F ts):RF b dp nt F ts:=⟨h.size,h.le,λt d=>(h.at_ t d).mono c⟩
def LS (c:Nat)(b:X)(r:Loop):Prop:=match c with
 |0=>r.state=.ready/\b=.norm/\r.pending=none
 |1=>r.state=.done/\((b=.ret/\r.pending=some .ret)\/∃ id,b=.exit id/\r.pending=some (.exit id))
 |_=>True
def OR (μ:Mu)(w:World)(i:Nat):O->Prop
 |.dead=>True
 | .cells ro t c=>∃ x vs fr,μ i=some x/\w.heap[x.b]? = some (.cells vs t fr)/\Fr ro fr (x.o+c.length) x.S/\vs.size=x.S/\x.o+c.length<=x.S/\ones c /\
   ∀ (j:Nat) (v:Value),c[j]? = some v->∃ u,vs[x.o+j]? = some u/\R μ v u
 |.map g clock=>∃ x b,μ i=some x/\w.heap[x.b]? = some (.map b clock)/\RE μ g b.toList
 |.siter s pos=>∃ x S,μ i=some x/\x.o=0/\w.heap[x.b]? = some (.stringIter S pos)/\s=S.data.toList.drop pos
 |.miter j d seen f=>∃ x y,μ i=some x/\x.o=0/\μ j=some y/\w.heap[x.b]? = some (.mapIter (some y.b) d seen.toArray f)
 |.loop F dp nt h as k f e=>∃ x r,μ i=some x/\w.heap[x.b]? = some (.loop r)/\r.params.toList=h/\r.assign=as/\r.body=k/\RF μ dp nt F r.tmps/\LS f e r
noncomputable def qyi (P:Program):O->Bool
 |.cells _ t _=>qxp P t
 |_=>false
def Rt (P:Program)(μ:Mu)(m:M):Prop:=∀ i x,μ i=some x->qyi P (m.at i)=true->x.o=0
def HO (μ:Mu)(w:World)(m:M):Prop:=∀ i x,μ i=some x->OR μ w i (m.at i)
def Gl (P:Program)(μ:Mu):Prop:=P=P/\μ=μ
theorem Gl.mono {P μ b}(c:Ext μ b)(h:Gl P μ):Gl P b:=⟨rfl,rfl⟩
section
variable {P:Program} {μ:Mu} {dp nt:Nat} {F:T Value} {a:Act} {w:World} {m:M}
theorem zt (b:RF μ dp nt F a.tmps)(d:Gl P μ)(x):∃ v,(∀ (β:Type) (c:Value->β),(ev P dp x).f F c=c v)/\R μ v (a.eval x):=by
 cases x with
 |tmp t=>
  by_cases h:t<4 ^ dp
  . exact⟨_,λβ c=>by simp[ev,h,Nat.blt_eq],b.at_ t h⟩
  . exact⟨unk,λβ c=>by simp[ev,h,Nat.blt_eq],.any _⟩
 |const v=>
  by_cases h:flat v=true
  . exact⟨v,λβ c=>by simp[ev,h],qBK h⟩
  . exact⟨unk,λβ c=>by simp[ev,h],.any _⟩
 |global g=>exact⟨unk,λβ c=>rfl,.any _⟩
 |func f=>exact⟨.func (.func f) #[] #[],λβ c=>rfl,.func f [] [] [] [] rfl (by simp) rfl (by simp)⟩
theorem qwf (b:RF μ dp nt F a.tmps)(d:Gl P μ):∀ (l:List Operand),∃ r,(∀ (β:Type) (c:List Value->β),evs P dp l F c=c r)/\RL μ r (l.map a.eval)
 |[]=>⟨[],λ_ _=>rfl,.nil⟩
 |x::l=>by obtain⟨v,e,f⟩:=zt b d x;obtain⟨r,g,h⟩:=qwf b d l;exact⟨v::r,λβ c=>by simp[evs,e,g],.cons f h⟩
theorem qu0 {t}(h:okT P t=true):∃ i,P.info? t=some i:=by
 unfold okT Program.underlying at h
 grind
theorem run_sizeOf {t}(h:∃ i,P.info? t=some i)(w):(sizeOf t).run P w=.ok (szT P t) w:=by obtain⟨i,b⟩:=h;simp[sizeOf,typeInfo,b,szT]
theorem qwl {t}(h:okT P t=true)(w):(isAgg t).run P w=.ok (aggT P t) w:=by unfold okT at h;obtain⟨d,hd⟩:=Option.isSome_iff_exists.1 h;cases d<;>simp[isAgg,run_underlying hd,aggT,hd]
theorem qcD {α s}{x:α}(h:qo P s=some x)(w):s.run P w=.ok x w:=by
 induction s with
 |pure b=>simp only[qo,Option.some.injEq]at h;simp_all
 |program k c=>exact c P h
 |mark m k c=>exact c h
 |_=>simp[qo]at h
theorem qFI {β}(b)(c:UInt8->β):u8F b c=c b:=by simp[u8F]
theorem qBt {β}(l)(c:List UInt8->β):qBs l c=c l:=by
 unfold qBs
 induction l generalizing c with
 |nil=>rfl
 |cons x l b=>
  rw[rL_cons,qFI]
  grind
theorem qEl {v no r}(c:∀ r,no≠.val r)(h:valF v (λv=>QV.val v) no=.val r):r=v/\sc v=true:=by
 cases v with
 |pointer o=>cases o with
  |none=>cases h;exact⟨rfl,rfl⟩
  |some a=>exact absurd h (c r)
 |bool b=>simp[valF]at h;exact⟨h.symm,rfl⟩
 |int k n=>simp[valF]at h;exact⟨h.symm,rfl⟩
 |float k n=>simp[valF]at h;exact⟨h.symm,rfl⟩
 |string s=>simp[valF,strF,qBt]at h;exact⟨h.symm,rfl⟩
 |_=>exact absurd h (c r)
theorem qxA {s r}(h:qz1 P s=.val r)(w):s.run P w=.ok r w/\sc r=true:=by
 unfold qz1 at h;split at h
 . rename_i v b;obtain⟨rfl,c⟩:=qEl (by grind) h;exact⟨qcD b w,c⟩
 grind
def Does (P:Program)(μ:Mu)(w:World)(s:Sem Value)(v:Value):Prop:=∃ V,s.run P w=.ok V w/\R μ v V
theorem qgk {t c l L v}(e:(qz0 P t).f c l=.val v)(h:RL μ l L)(g:ones l):Does P μ w (part t ⟨L⟩ c) v:=by
 unfold qz0 at e;simp only[bi_eq]at e;split at e
 . cases e
 rename_i b;have b:okT P t=true:=by simpa [notB]using b
 split at e
 .
  rename_i f;simp only[dropL_eq,takeF_eq]at e;split at e
  . cases e;refine⟨.agg ⟨(L.drop c).take (szT P t)⟩,?_,.mkAgg ((h.drop _).take _) ((g.drop _).take _)⟩;simp only[part,Sem.run_bind,qwl b,f,Result.andThen_ok,if_true,run_sizeOf (qu0 b),Sem.run_pure]
    grind
  grind
 .
  rename_i f;simp only[dropL_eq,qzG]at e;split at e
  . cases e
  .
   rename_i x r hd;cases e;have i:l[c]? = some v:=by
    have:=congrArg (·[0]?) hd
    grind
   obtain⟨V,j,k⟩:=h.get i;refine⟨V,?_,k⟩;have d:aggT P t=false:=by grind
   simp[part,qwl b,d,j]
theorem addr_add (b o n):(⟨b,o,none⟩:Addr).add n=⟨b,o+n,none⟩:=by
 unfold Addr.add
 grind
theorem qfQ {i k n x ro t c}(l:OR μ w i (.cells ro t c))(o:μ i=some x)(s:k+n<=c.length):
  ∃ us:List Value,us.length=n/\RL μ ((c.drop k).take n) us/\(∀ (j:Nat) (u:Value),us[j]? = some u->w.cell? ((⟨x.b,x.o+k,none⟩:Addr).add j)=some u)/\ones us:=by
 obtain⟨x',vs,fr,g,p,y,z,A,q,r⟩:=l;rw[o]at g;cases g;have key:∀ j,j<n->∃ v u,c[k+j]? = some v/\vs[x.o+k+j]? = some u/\R μ v u:=by
  intro j e;have f:k+j<c.length:=by omega
  obtain⟨u,d,B⟩:=r (k+j) _ (List.getElem?_eq_getElem f)
  grind
 have b:RL μ ((c.drop k).take n) ((List.range n).map λj=>(vs[x.o+k+j]?).getD .nilIface):=by
  refine⟨by grind,λj v v' C D=>?_⟩
  grind
 refine⟨_,by simp,b,λj u d=>?_,b.ones ((q.drop _).take _)⟩;have e:j<n:=by grind
 obtain⟨E,G,H,h,I⟩:=key j e;simp only[List.getElem?_map,List.getElem?_range e,Option.map_some,Option.some.injEq]at d;rw[h]at d;cases d;rw[addr_add];simp[World.cell?,p,h]
theorem qAB {t i k x v}(e:ldQ P t i k m=.val v)(d:OR μ w i (m.at i))(p:μ i=some x):Does P μ w (loadVar t ⟨x.b,x.o+k,none⟩) v:=by
 unfold ldQ at e;rw[M.cells_eq]at e;split at e
 .
  rename_i ro C c u;rw[u]at d;unfold qz0 at e;simp only[bi_eq]at e;split at e
  . cases e
  rename_i b;have b:okT P t=true:=by simpa [notB]using b
  split at e
  .
   rename_i g;simp only[dropL_eq,takeF_eq]at e;split at e
   .
    rename_i h;cases e;simp only[List.length_drop]at h;by_cases D:k<=c.length
    . obtain⟨us,q,f,j,z⟩:=qfQ (k:=k) (n:=szT P t) d p (by omega);refine⟨.agg ⟨us⟩,?_,.mkAgg f ?_⟩
      . have:=run_loadCells_list (P:=P) (w:=w) ⟨x.b,x.o+k,none⟩ us j;rw[q]at this;simp only[loadVar,Sem.run_bind,qwl b,g,Result.andThen_ok,if_true,run_sizeOf (qu0 b),this,Sem.run_pure]
      . obtain⟨_,_,_,_,_,_,_,_,A,_⟩:=d;exact(A.drop _).take _
    . have s:szT P t=0:=by omega
      refine⟨.agg ⟨[]⟩,?_,?_⟩
      . have:=run_loadCells_list (P:=P) (w:=w) ⟨x.b,x.o+k,none⟩ [] (by simp);simp only[List.length_nil]at this;simp only[loadVar,Sem.run_bind,qwl b,g,Result.andThen_ok,if_true,run_sizeOf (qu0 b),s,this,Sem.run_pure]
      . rw[s];exact .mkAgg .nil .nil
   grind
  .
   rename_i g;have l:aggT P t=false:=by grind
   simp only[dropL_eq,qzG]at e;split at e
   . cases e
   . rename_i y r hd;cases e;have o:k+1<=c.length:=by
      have:=congrArg List.length hd
      grind
     obtain⟨us,q,f,j,z⟩:=qfQ (n:=1) d p o;rw[hd]at f;obtain⟨V,E,rfl,B,G⟩:=RL.cons_inv f;refine⟨V,?_,B⟩;have:=j 0 V rfl;rw[addr_add,Nat.add_zero]at this;simp only[loadVar,Sem.run_bind,qwl b,l,Result.andThen_ok,Bool.false_eq_true,if_false];simp_all
 grind
end
end E
end Go.Proofs.YtnnhdcidgfjfpaaGreatDoor
namespace Go.Proofs.YtnnhdcidgfjfpaaGreatDoor
namespace E
section
variable {P:Program} {μ:Mu} {dp nt:Nat} {F:T Value} {a:Act} {w:World} {m:M}
theorem quZ (b):notB b = !b:=by cases b<;>rfl
theorem qu6 (a b):andB a b=(a&&b):=by cases a<;>rfl
theorem qx1 (a b):orB a b=(a||b):=by cases a<;>rfl
theorem qBZ (x y):ltI x y=decide (x<y):=by cases x<;>cases y<;>simp only[ltI,cI_nat,cI_neg]<;>(rw[Bool.eq_iff_iff];simp[Nat.blt_eq])<;>omega
theorem qAv (x y):eqI x y=(x==y):=by cases x<;>cases y<;>simp only[eqI,cI_nat,cI_neg]<;>(rw[Bool.eq_iff_iff];simp)<;>omega
theorem qB8 (b):qB b=.val (.bool b):=by simp[qB]
theorem qD8 (k)(n):qI k n=.val (.int k n):=by simp[qI]
theorem wrap_small {n}(b : -9223372036854775808<=n)(c:n<=9223372036854775807):IntKind.i64.wrap n=n:=by rw[IntKind.wrap_i64];omega
theorem qCL (n):wrap64 n=.val (.int .i64 (IntKind.i64.wrap n)):=by
 cases n with
 |ofNat m=>
  simp only[wrap64,cI_nat,bi_eq,natF_eq,qD8];split
  . rename_i h;have h:m<=9223372036854775807:=by simpa [qAy]using h
    rw[wrap_small (by simp) (by grind)]
  . rfl
 |negSucc m=>
  simp only[wrap64,cI_neg,bi_eq,natF_eq,qD8];split
  . rename_i h;have h:m<=9223372036854775807:=by simpa [qAy]using h
    rw[wrap_small (by omega) (by omega)]
  . rfl
theorem qAW (k)(n):(wrapN k).f n=.val (.int k (k.wrap n)):=by
 simp only[wrapN,bi_eq];split
 . rename_i h;have:k=.i64:=qxm (Nat.eq_of_beq_eq_true h);subst this;exact qCL n
 . exact qD8 _ _
theorem qDl {k v r f}(h:onK k v f=.val r):∃ n,v=.int k n/\f n=.val r:=by
 unfold onK at h;rw[qvt]at h;split at h
 .
  rename_i b n;simp only[bi_eq]at h;split at h
  . rename_i c;have:b=k:=qxm (by simp_all)
    grind
  grind
 grind
theorem qwP {v r c}(h:qzE v c=.val r):∃ k n,v=.int k (Int.ofNat n)/\c n=.val r:=by
 unfold qzE at h;rw[qvt]at h;split at h
 .
  rename_i k n;cases n with
  |ofNat n=>exact⟨k,n,rfl,h⟩
  |negSucc n=>cases h
 grind
theorem qzb (a b):eqS a b=(a==b):=by
 unfold eqS
 induction a generalizing b with
 |nil=>cases b<;>rfl
 |cons x a c=>
  cases b with
  |nil=>rfl
  |cons y b=>
   rw[rL_cons,cL_cons,c,bi_eq];by_cases h:x=y
   . simp_all
   . have:x.toNat≠y.toNat:=λe=>h (UInt8.toNat_inj.1 e);simp_all
theorem qyn {d v r}(h:nilK d v=some r):(∃ e o,d=.pointer e/\v=.pointer o/\r=o.isNone)\/(∃ e o n k,d=.slice e/\v=.slice o n k/\r=o.isNone) \/
  (∃ e f o,d=.map e f/\v=.map o/\r=o.isNone)\/(∃ p q b,d=.func p q b/\((v=.nilFunc/\r=true)\/∃ f a c,v=.func f a c/\r=false))\/(∃ g,d=.interface g/\((v=.nilIface/\r=true)\/∃ t u,v=.iface t u/\r=false)):=by
 unfold nilK at h
 grind
theorem qAG {d v c r}(x:nilK d v=some r)(y:nilK d c=some true):(∃ e o,d=.pointer e/\v=.pointer o/\c=.pointer none/\r=o.isNone) \/
  (∃ e o n k i j,d=.slice e/\v=.slice o n k/\c=.slice none i j/\r=o.isNone)\/(∃ e f o,d=.map e f/\v=.map o/\c=.map none/\r=o.isNone) \/
  (∃ p q b,d=.func p q b/\c=.nilFunc/\((v=.nilFunc/\r=true)\/∃ f a c,v=.func f a c/\r=false))\/(∃ l,d=.interface l/\c=.nilIface/\((v=.nilIface/\r=true)\/∃ t u,v=.iface t u/\r=false)):=by
 rcases qyn x with⟨e,o,rfl,rfl,rfl⟩|⟨e,o,n,k,rfl,rfl,rfl⟩|⟨e,f,o,rfl,rfl,rfl⟩|⟨p,q,b,rfl,z⟩|⟨l,rfl,z⟩ <;>
  rcases qyn y with⟨s,g,hd,rfl,h⟩|⟨s,g,i,j,hd,rfl,h⟩|⟨s,C,g,hd,rfl,h⟩|⟨D,E,G,hd,A⟩|⟨B,hd,A⟩<;>cases hd
 . cases g<;>simp at h
   grind
 . cases g<;>simp at h
   grind
 . cases g<;>simp at h
   grind
 . grind
 grind
theorem qzO {t d}(g:P.underlying t=some d){v c r}(h:nilK d v=some r)(i:nilK d c=some true)(k)(w):
  (Op.equalIn (k+1) t v c).run P w=.ok r w/\(Op.equalIn (k+1) t c v).run P w=.ok r w:=by
 rcases qAG h i with⟨e,o,rfl,rfl,rfl,rfl⟩|⟨e,o,n,k,j,l,rfl,rfl,rfl,rfl⟩|⟨e,f,o,rfl,rfl,rfl,rfl⟩|⟨p,q,b,rfl,rfl,⟨rfl,rfl⟩|⟨_,_,_,rfl,rfl⟩⟩|⟨s,rfl,rfl,⟨rfl,rfl⟩|⟨_,_,rfl,rfl⟩⟩
 . cases o<;>simp[Op.equalIn,run_underlying g]
 . cases o<;>simp[Op.equalIn,run_underlying g]
 . cases o<;>simp[Op.equalIn,run_underlying g]
 all_goals simp[Op.equalIn,run_underlying g]
theorem qBF {t d}(b:P.underlying t=some d){v c r}(e:nilK d v=some r)(f:nilK d c=some true)(w):
  (Op.equal t v c).run P w=.ok r w/\(Op.equal t c v).run P w=.ok r w:=qzO b e f 9999 w
theorem R.nilK {d v V r}(h:R μ v V)(e:E.nilK d v=some r):E.nilK d V=some r:=by
 cases h with
 |sc v h=>exact e
 |any V=>cases d<;>simp[E.nilK]at e
 |ptr i k x h=>cases d<;>simp_all[E.nilK]
 |sl i k n z x cap h o p=>cases d<;>simp_all[E.nilK]
 |sl0 i k z x a h=>cases d<;>simp_all[E.nilK]
 |map i x h=>cases d<;>simp_all[E.nilK]
 |func f a b q s u y A B=>cases d<;>simp_all[E.nilK]
 |yd j x h=>cases d<;>simp_all[E.nilK]
 |iface t v v' h=>cases d<;>simp_all[E.nilK]
 |agg l c g h C=>cases d<;>simp[E.nilK]at e
 |tup l c g h=>cases d<;>simp[E.nilK]at e
theorem qyI (op)(r):qBE op r=.val (.bool (if qzf op then r else !r)):=by simp[qBE,qB8,quZ]
theorem qB3 {d y}(h:nilC d y=true):∃ c,y=.const c/\nilK d c=some true:=by
 cases y with
 |const c=>
  refine⟨c,rfl,?_⟩;unfold nilC at h
  grind
 |_=>cases h
def isC (x:Operand):Bool:=x matches .const _
theorem qzN (op t){x y}(h:isC x=true\/isC y=true)(w):(eqGuard op t x y .nilIface .nilIface).run P w=.ok () w:=by
 cases op<;>first|rfl|skip
 all_goals (cases x<;>cases y<;>first|rfl|(exact absurd h (by decide))|(simp[isC]at h))
theorem qB4 {t d}(s:P.underlying t=some d){op}(g:isEq op=true){x y V c r}(h:nilK d V=some r)(i:nilK d c=some true)(w)(u:isC x=true\/isC y=true):
  ((do eqGuard op t x y V c;binOp op t V c:Sem Value).run P w=.ok (.bool (if qzf op then r else !r)) w) /\
  ((do eqGuard op t x y c V;binOp op t c V:Sem Value).run P w=.ok (.bool (if qzf op then r else !r)) w):=by
 obtain⟨j,l⟩:=qBF s h i w;have v:=qzN (P:=P) op t u w;cases op<;>first|(exact absurd g (by decide))|skip
 all_goals
  rcases qAG h i with⟨e,o,rfl,rfl,rfl,rfl⟩|⟨e,o,n,k,z,A,rfl,rfl,rfl,rfl⟩|⟨e,f,o,rfl,rfl,rfl,rfl⟩|⟨p,q,b,rfl,rfl,⟨rfl,rfl⟩|⟨_,_,_,rfl,rfl⟩⟩|⟨B,rfl,rfl,⟨rfl,rfl⟩|⟨_,_,rfl,rfl⟩⟩
 all_goals first
  |(constructor<;>simp only[Sem.run_bind,v,Result.andThen_ok,binOp,j,l,Sem.run_pure]<;>rfl)
  |(constructor<;>simp[eqGuard,binOp,j,l,qzf])
end
end E
end Go.Proofs.YtnnhdcidgfjfpaaGreatDoor
namespace Go.Proofs.YtnnhdcidgfjfpaaGreatDoor
namespace E
section
variable {P:Program} {μ:Mu} {dp nt:Nat} {F:T Value} {a:Act} {w:World} {m:M}
theorem R.mkB (b):R μ (.bool b) (.bool b):=.sc _ rfl
theorem R.mkI (k)(n):R μ (.int k n) (.int k n):=.sc _ rfl
theorem R.mkS (s):R μ (.string s) (.string s):=.sc _ rfl
theorem qBN (op t x y j k p q)(w):(eqGuard op t x y (.int j p) (.int k q)).run P w=.ok () w:=by cases op<;>rfl
theorem qBP (op t x y p q)(w):(eqGuard op t x y (.string p) (.string q)).run P w=.ok () w:=by cases op<;>rfl
theorem qBO (op t x y p q)(w):(eqGuard op t x y (.pointer p) (.pointer q)).run P w=.ok () w:=by cases op<;>rfl
theorem qDQ {op k p q v}(b:easy op=true)(e:(qBS k op).f p q=.val v)(t)(w):
  (binOp op t (.int k p) (.int k q)).run P w=.ok v w/\sc v=true:=by
 cases op<;>first|(exact absurd b (by decide))|skip
 all_goals
  simp only[qBS,qAW,qB8,quZ,qAv,qBZ,QV.val.injEq]at e;subst e;refine⟨?_,rfl⟩
 . simp[binOp,Op.intArith];try rfl
 . simp[binOp,Op.intArith];try rfl
 . simp[binOp,Op.intArith];try rfl
 . simp[binOp,Op.intCmp]
 . simp[binOp,Op.intCmp];rfl
 . simp[binOp,Op.intCmp]
 . simp only[binOp,Op.intCmp,ne_eq,not_true_eq_false,if_false,Sem.run_pure];congr 3
   grind
 . simp[binOp,Op.intCmp]
 . simp only[binOp,Op.intCmp,ne_eq,not_true_eq_false,if_false,Sem.run_pure];congr 3
   grind
theorem qEh {op p q v}(c:qEI op=true)(e:(qzs op).f p q=.val v)(t)(w):
  (binOp op t (.string p) (.string q)).run P w=.ok v w/\sc v=true:=by
 cases op<;>first|(exact absurd c (by decide))|skip
 .
  simp only[qzs,appF_eq,lenF_eq,bi_eq,bytes,List.length_append,Array.length_toList]at e;split at e
  .
   rename_i b;have b:p.data.size+q.data.size<=1048576:=by simpa [room]using b
   cases e;refine⟨?_,rfl⟩;have h:¬ (((p.size+q.size:Nat):Int)>IntKind.i64.max):=by
    have:p.size+q.size<=1048576:=b;have d:IntKind.i64.max=9223372036854775807:=by decide
    omega
   simp only[binOp,Op.stringOp,h,if_false,Sem.run_pure];congr 2
  grind
 . simp only[qzs,qB8,qzb,bytes,QV.val.injEq]at e;subst e;exact⟨by simp[binOp,Op.stringOp,ByteArray.toList_eq],rfl⟩
 . simp only[qzs,qB8,quZ,qzb,bytes,QV.val.injEq]at e;subst e;exact⟨by simp[binOp,Op.stringOp,ByteArray.toList_eq],rfl⟩
theorem qD6 {op}(h:isEq op=true){t e}(j:P.underlying t=some (.pointer e))(f:szT P e≠0)(b p q)(w):
  (binOp op t (.pointer (some ⟨b,p,none⟩)) (.pointer (some ⟨b,q,none⟩))).run P w=.ok (.bool (if qzf op then Nat.beq p q else !(Nat.beq p q))) w:=by
 have k:∃ i,P.info? e=some i:=by
  unfold szT at f
  grind
 have c:∀ d,(Op.equalIn (d+1) t (.pointer (some ⟨b,p,none⟩)) (.pointer (some ⟨b,q,none⟩))).run P w=.ok (Nat.beq p q) w:=by
  intro d;have:((⟨b,p,none⟩:Addr)==⟨b,q,none⟩)=Nat.beq p q:=by rw[Bool.eq_iff_iff];simp
  simp[Op.equalIn,run_underlying j,run_sizeOf k,f,sameAddr,this]
 have g:(Op.equal t (.pointer (some ⟨b,p,none⟩)) (.pointer (some ⟨b,q,none⟩))).run P w=.ok (Nat.beq p q) w:=c 9999;cases op<;>first|(exact absurd h (by decide))|skip
 . simp[binOp,g,qzf]
 . simp[binOp,g,qzf]
theorem qBp {op t x y A B g h v}(e:(binQ P op t x y).f A B=.val v)(j:R μ A g)(l:R μ B h)(I:∀ c,x=.const c->g=c)(J:∀ c,y=.const c->h=c):
  Does P μ w (do eqGuard op t x y g h;binOp op t g h) v:=by
 have G:∀ {v},qxg P op t x y A B=.val v->Does P μ w (do eqGuard op t x y g h;binOp op t g h) v:=by
  intro v e;unfold qxg at e;split at e
  . rename_i u;simp only[Bool.and_eq_true]at u;have:=j.flatI u.1;subst this;have:=l.flatI u.2;subst this;obtain⟨n,r2⟩:=qxA e w;exact⟨v,n,.sc v r2⟩
  grind
 unfold binQ at e;split at e
 . cases e
 rename_i d C;simp only[bi_eq,qu6]at e;split at e
 .
  rename_i b;simp only[Bool.and_eq_true]at b;obtain⟨c,rfl,f⟩:=qB3 b.2;have:=J c rfl;subst this;simp only at e;split at e
  . rename_i r D;rw[qyI]at e;cases e;exact⟨_,(qB4 C b.1 (j.nilK D) f w (.inr rfl)).1,.mkB _⟩
  grind
 split at e
 .
  rename_i b;simp only[Bool.and_eq_true]at b;obtain⟨c,rfl,f⟩:=qB3 b.2;have:=I c rfl;subst this;simp only at e;split at e
  . rename_i r D;rw[qyI]at e;cases e;exact⟨_,(qB4 C b.1 (l.nilK D) f w (.inl rfl)).2,.mkB _⟩
  grind
 split at e
 .
  rename_i k;split at e
  . rename_i i;simp only at e;obtain⟨p,K,H⟩:=qDl e;obtain⟨q,L,N⟩:=qDl H;clear e H;subst K;subst L;have:=j.int;subst this;have:=l.int;subst this;obtain⟨n,r2⟩:=qDQ (P:=P) i N t w;exact⟨v,by simp only[Sem.run_bind,qBN,Result.andThen_ok,n],.sc v r2⟩
  grind
 .
  split at e
  .
   rename_i i;simp only[qvE]at e;split at e
   . split at e
     . rename_i p _ q;have:=j.str;subst this;have:=l.str;subst this;obtain⟨n,r2⟩:=qEh (P:=P) i e t w;exact⟨v,by simp only[Sem.run_bind,qBP,Result.andThen_ok,n],.sc v r2⟩
     grind
   grind
  grind
 .
  rename_i O _ _;split at e
  .
   rename_i i;simp only[Bool.and_eq_true,quZ,Bool.not_eq_true']at i;unfold qE4 at e;simp only[qu9,bi_eq]at e;split at e
   .
    rename_i p;split at e
    .
     rename_i q;split at e
     . rename_i E;have E:p.block=q.block:=Nat.eq_of_beq_eq_true E;rw[qyI]at e;cases e;obtain⟨_,z,Q,rfl⟩:=j.ptrI;obtain⟨_,U,o,rfl⟩:=l.ptrI;rw[<- E,Q]at o;cases o;have S:szT P O≠0:=by intro V;simp_all
       have r:=qD6 i.1 C S z.b (z.o+p.off) (z.o+q.off) w;have s:Nat.beq (z.o+p.off) (z.o+q.off)=Nat.beq p.off q.off:=by rw[Bool.eq_iff_iff];simp
       rw[s]at r;exact⟨_,by simp only[Sem.run_bind,qBO,Result.andThen_ok,r],.mkB _⟩
     grind
    grind
   grind
  grind
 grind
end
end E
end Go.Proofs.YtnnhdcidgfjfpaaGreatDoor
namespace Go.Proofs.YtnnhdcidgfjfpaaGreatDoor
namespace E
section
variable {P:Program} {μ:Mu} {dp nt:Nat} {F:T Value} {a:Act} {w:World} {m:M}
theorem splice (cells new:Array Value)(b)(h:b+new.size<=cells.size):
  (new.zipIdx.foldl (λcs (c,j)=>cs.setIfInBounds (b+j) c) cells).toList=lay b new.toList cells.toList:=by
 have go:∀ (l:List Value) (k:Nat) (cs:Array Value),b+k+l.length<=cs.size ->
   ((l.zipIdx k).foldl (λ(cs:Array Value) (x:Value×Nat)=>cs.setIfInBounds (b+x.2) x.1) cs).toList=cs.toList.take (b+k)++l++cs.toList.drop (b+k+l.length):=by
  intro l
  induction l with
  |nil=>simp_all
  |cons v l d=>
   intro k cs e;simp only[List.length_cons]at e;simp only[List.zipIdx_cons,List.foldl_cons];rw[d (k+1) _ (by grind)];simp only[Array.toList_setIfInBounds,List.length_cons];rw[List.drop_set_of_lt (by omega)];rw[show cs.toList.set (b+k) v=cs.toList.set (b+k) v from rfl,show List.take (b+(k+1)) (cs.toList.set (b+k) v)=List.take (b+k) cs.toList++[v]from by rw[show b+(k+1)=b+k+1 from by omega,List.take_add_one,List.take_set_of_le (by omega),List.getElem?_set_self (by grind)];rfl]
   grind
 have:=go new.toList 0 cells (by omega);rw[<- Array.foldl_toList,Array.toList_zipIdx];simpa [lay]using this
theorem qwo (s:RF μ dp nt F a.tmps)(t:Gl P μ){b}:∀ (j:List (Nat×Operand)) (l L:List Value) {c:List Value->QV} {v:Value},(qxu P dp b j).f F l c=.val v->RL μ l L->ones l ->
  ∃ f k,Instr.fill b ⟨L⟩ (j.map λ(i,x)=>(i,a.eval x))=some ⟨k⟩/\RL μ f k/\ones f/\c f=.val v/\f.length=l.length
 |[],l,L,c,v,e,h,n=>⟨l,L,rfl,h,n,e,rfl⟩
 |(i,x)::j,l,L,c,v,e,h,n=>by
  unfold qxu at e;split at e
  .
   rename_i d sz o;obtain⟨u,y,z⟩:=zt s t x;simp only[y,cellsF_eq,lenF_eq,bi_eq,layF_eq]at e;split at e
   .
    rename_i p;obtain⟨q,A⟩:=z.cells p;split at e
    .
     rename_i g;have g:u.cells.toList.length=sz:=Nat.eq_of_beq_eq_true g;split at e
     .
      rename_i r;have H:d+(a.eval x).cells.size<=L.length:=by
       have:=q.1;have:=h.1
       grind
      obtain⟨f,k,B,C,D,E,G⟩:=qwo s t j _ _ e (q.lay h d) (A.lay n d);refine⟨f,k,?_,C,D,E,by rw[G,qBW r]⟩;rw[List.map_cons];unfold Instr.fill;simp only[o];rw[if_neg (by
       have:=q.1
       grind)]
      rw[<- B];congr 1;apply Array.ext';rw[splice _ _ _ (by omega)]
     grind
    grind
   grind
  grind
theorem qBm {t z}(h:zV P t=some z):qvA z=true/\z.cells.size=szT P t/\(∃ i,P.info? t=some i/\i.zero=some z)/\∀ w,(zeroValue t).run P w=.ok z w:=by
 unfold zV at h;split at h
 .
  rename_i i b;split at h
  .
   rename_i f c;simp only[bi_eq]at h;split at h
   .
    rename_i d;split at h
    . rename_i e;cases h;refine⟨d,?_,⟨i,b,c⟩,λw=>?_⟩
      . rw[Nat.eq_of_beq_eq_true e];simp[szT,b]
      . simp[zeroValue,typeInfo,b,c]
    grind
   grind
  grind
 grind
theorem qzQ {z}(h:qvA z=true):z.cells.toList.all sc=true:=by
 unfold qvA at h;split at h
 . exact h
 . rename_i c;have b:=qDt h;rw[qzl b]
   grind
theorem qzB {t l}(h:zL P t=some l):l.all sc=true/\l.length=szT P t/\(∃ i z,P.info? t=some i/\i.zero=some z/\z.cells.toList=l)/\∃ z,z.cells.toList=l/\∀ w,(zeroValue t).run P w=.ok z w:=by
 unfold zL at h;cases b:zV P t with
 |none=>grind
 |some z=>simp only[b,Option.map_some,Option.some.injEq]at h;subst h;obtain⟨c,g,⟨i,d,e⟩,f⟩:=qBm b;exact⟨qzQ c,by omega,⟨i,z,d,e,rfl⟩,z,rfl,f⟩
theorem Does.next {s v}(h:Does P μ w s v):∃ V,(do pure (.value (<- s)):Sem Next).run P w=.ok (.value V) w/\R μ v V:=by obtain⟨V,b,c⟩:=h;simp_all
theorem qz6 {fields:Array Field}(h:fields.toList.all (λf=>okT P f.type)=true)(w):
  (fields.mapM λf=>do pure (f.offset,<- sizeOf f.type):Sem (Array (Nat×Nat))).run P w=.ok (fields.map λf=>(f.offset,szT P f.type)) w:=by
 have go:∀ l:List Field,(∀ f∈l,okT P f.type=true) ->
   (l.mapM λf=>(do pure (f.offset,<- sizeOf f.type):Sem (Nat×Nat))).run P w=.ok (l.map λf=>(f.offset,szT P f.type)) w:=by
  intro l
  induction l with
  |nil=>simp_all
  |cons f l d=>intro c;have e:=qu0 (c f (by simp));simp only[List.mapM_cons,Sem.run_bind,run_sizeOf e,Sem.run_pure,Result.andThen_ok,d (λf b=>c f (List.mem_cons_of_mem _ b)),List.map_cons]
 rw[Array.mapM_eq_mapM_toList,<- bind_pure_comp];simp only[Sem.run_bind,go fields.toList (λf b=>List.all_eq_true.1 h f b),Result.andThen_ok,Sem.run_pure];congr 1
 grind
theorem qet (s:RF μ dp nt F a.tmps)(u:Gl P μ){t}{g:Array (Nat×Operand)}{v}(e:(qy0 P t g.toList dp).f F m=.val v):Does P μ w (Instr.build t (g.map λ(i,x)=>(i,a.eval x))) v:=by
 unfold qy0 at e;split at e
 . cases e
 rename_i z y;obtain⟨q,D,_,A,E,z4⟩:=qzB y;have core:∀ {b:Nat->Option (Nat×Nat)},(qxu P dp b g.toList).f F z (λl=>.val (.agg ⟨l⟩))=.val v->∃ d,Instr.fill b A.cells (g.map λ(i,x)=>(i,a.eval x)).toList=some ⟨d⟩/\R μ v (.agg ⟨d⟩):=by
  intro b e;obtain⟨G,d,h,j,B,C,_⟩:=qwo s u g.toList z z e (qwp q) (qw3 q);cases C;refine⟨d,?_,.mkAgg j B⟩;rw[<- h,Array.toList_map];congr 1
  grind
 split at e
 .
  rename_i fs o;simp only[bi_eq]at e;split at e
  .
   rename_i k;obtain⟨d,h,j⟩:=core e;refine⟨_,?_,j⟩;have c:placeOf P t=λi=>(fs.map λf=>(f.offset,szT P f.type))[i]?:=by
    unfold placeOf
    grind
   rw[c]at h;simp only[Instr.build,Sem.run_bind,z4,Result.andThen_ok,run_underlying o,qz6 k];simp_all
  . cases e
 .
  rename_i n r o;simp only[bi_eq]at e;split at e
  .
   rename_i p;obtain⟨d,h,j⟩:=core e;refine⟨_,?_,j⟩;have c:placeOf P t=λi=>some (i*szT P r,szT P r):=by
    unfold placeOf
    grind
   rw[c]at h;simp only[Instr.build,Sem.run_bind,z4,Result.andThen_ok,run_underlying o,run_sizeOf (qu0 p)];simp_all
  . cases e
 . cases e
theorem qvi (b:RF μ dp nt F a.tmps)(d:Gl P μ){x z c v}(e:(bound P dp x).f F z c=.val v):
  ∃ n:Nat,c n=.val v/\(x=none/\n=z\/∃ y k,x=some y/\a.eval y=.int k (Int.ofNat n)):=by
 unfold bound at e;split at e
 . grind
 . rename_i y;obtain⟨u,f,g⟩:=zt b d y;simp only[f]at e;obtain⟨k,n,rfl,e⟩:=qwP e;exact⟨n,e,.inr ⟨y,k,rfl,g.int⟩⟩
theorem qAT {l h n c v}(e:subQ l h n c=.val v):l<=h/\h<=n/\c=.val v:=by
 simp only[subQ,bi_eq]at e;split at e
 .
  split at e
  . simp_all
  grind
 grind
theorem qw1 {k n y code}(h:n<=y)(w):(Instr.sliceBound (.int k ((n:Nat):Int)) y code).run P w=.ok n w:=by
 have:(0:Int)<=(n:Int)/\(n:Int)<=(y:Int):=⟨by omega,by omega⟩
 simp[Instr.sliceBound,asIntOf,this]
theorem qvW {isS len cap l h d e}(i:d=none/\l=0\/∃ y k,d=some y/\a.eval y=.int k (Int.ofNat l))(j:e=none/\h=len\/∃ y k,e=some y/\a.eval y=.int k (Int.ofNat h))(b:l<=h)(c:h<=cap)(w):(Instr.sliceBounds isS len cap (d.map a.eval) (e.map a.eval) none).run P w=.ok (l,h,cap) w:=by
 unfold Instr.sliceBounds;rcases j with⟨rfl,rfl⟩|⟨n,o,rfl,f⟩<;>rcases i with⟨rfl,rfl⟩|⟨p,k1,rfl,g⟩
 . simp
 . simp[g,qw1 b]
 . simp[f,qw1 c]
 . simp[g,f,qw1 b,qw1 c]
theorem qzF (s:ByteArray){l h}(b:l<=h)(c:h<=s.data.toList.length):(⟨⟨(s.data.toList.drop l).take (h-l)⟩⟩:ByteArray)=s.extract l h:=by apply ByteArray.ext;apply Array.ext';simp_all
theorem qem (j:RF μ dp nt F a.tmps)(o:Gl P μ)(V:HO μ w m){t x E G v}(e:(qAR P t x E G dp).f F m=.val v):
  Does P μ w (Instr.sliceAt t (a.eval x) (E.map a.eval) (G.map a.eval) none) v:=by
 obtain⟨u,J,H⟩:=zt j o x;unfold qAR at e;split at e
 .
  rename_i B;simp only[J,qvE]at e;split at e
  .
   rename_i s;have:=H.str;obtain⟨l,e,q⟩:=qvi j o e;simp only[lenF_eq]at e;obtain⟨h,e,r⟩:=qvi j o e;obtain⟨d,g,e⟩:=qAT e;simp only[natF_eq,takeF_eq,dropL_eq]at e;split at e
   .
    cases e;refine⟨.string (s.extract l h),?_,?_⟩
    . have K:s.size=(bytes s).length:=by simp[bytes]
      have:=qvW (P:=P) (a:=a) (isS:=false) (len:=s.size) (cap:=s.size) q (by rw[K];exact r) d (by omega) w;simp[Instr.sliceAt,Instr.slice,run_underlying B,‹a.eval x=_›,this]
    . have:=qzF s d g;simp only[bytes]at *;rw[show h.sub l=h-l from rfl,this];exact .mkS _
   grind
  grind
 .
  rename_i b B;simp only[bi_eq,quZ]at e;split at e
  . cases e
  rename_i f;have f:okT P b=true:=by grind
  simp only[J,qvH]at e;split at e
  . rename_i n k;obtain⟨rfl,rfl,C⟩:=H.nilsl;obtain⟨l,e,q⟩:=qvi j o e;obtain⟨h,e,r⟩:=qvi j o e;obtain⟨d,g,e⟩:=qAT e;cases e;have L:h=0:=by omega
    subst L;have N:l=0:=by omega
    subst N;refine⟨.slice none 0 0,?_,.sc _ rfl⟩;have:=qvW (P:=P) (a:=a) (isS:=true) (len:=0) (cap:=0) q r (Nat.le_refl _) (Nat.le_refl _) w;simp[Instr.sliceAt,Instr.slice,run_underlying B,C,this,run_sizeOf (qu0 f)]
  .
   rename_i p n z;obtain⟨l,e,q⟩:=qvi j o e;obtain⟨h,e,r⟩:=qvi j o e;obtain⟨d,g,e⟩:=qAT e;simp only[natF_eq,bi_eq]at e;split at e
   .
    rename_i I;have I:z=szT P b:=Nat.eq_of_beq_eq_true I;cases e;obtain⟨W,⟨rfl,⟨Z,O⟩,X,C⟩|⟨y,cap,D,R,Y,C⟩⟩:=H.slI
    . have L:h=0:=by omega
      subst L;have N:l=0:=by omega
      subst N;refine⟨.slice (some X) 0 0,?_,.sl0 _ _ _ _ _ O⟩;have:=qvW (P:=P) (a:=a) (isS:=true) (len:=0) (cap:=0) q r (Nat.le_refl _) (Nat.le_refl _) w;simp[Instr.sliceAt,Instr.slice,run_underlying B,C,this,run_sizeOf (qu0 f)]
    .
     have Q:=qvW (P:=P) (a:=a) (isS:=true) (len:=n) (cap:=cap) q r d (by omega) w;have run:(Instr.sliceAt t (a.eval x) (E.map a.eval) (G.map a.eval) none).run P w=.ok (.slice (if cap=l then some ⟨y.b,y.o+p.off,none⟩else some ⟨y.b,y.o+p.off+l*szT P b,none⟩) (h-l) (cap-l)) w:=by simp[Instr.sliceAt,Instr.slice,run_underlying B,C,Q,run_sizeOf (qu0 f),addr_add]
     refine⟨_,run,?_⟩;by_cases i:cap=l
     . rw[if_pos i,show h.sub l=0 from by grind,show h-l=0 by omega,show cap-l=0 by omega];exact .sl0 _ _ _ _ _ D
     . rw[if_neg i,I,Nat.add_assoc];refine .sl _ _ _ _ y _ D (by grind) ?_;show y.o+(p.off+l*szT P b)+(cap-l)*szT P b<=y.S;rw[I]at Y;have:l*szT P b+(cap-l)*szT P b=cap*szT P b:=by rw[<- Nat.add_mul];grind
       omega
   grind
  grind
 .
  rename_i n b B;simp only[bi_eq,quZ]at e;split at e
  . cases e
  rename_i f;have f:okT P b=true:=by grind
  simp only[J,qu9]at e;split at e
  .
   rename_i p;obtain⟨_,y,D,C⟩:=H.ptrI;rw[M.cells_eq]at e;split at e
   .
    rename_i ro t' c R;have S:=V p.block _ D;rw[R]at S;obtain⟨y',vs,fr,U,_,_,_,o5,_⟩:=S;rw[D]at U;cases U;simp only[lenF_eq,bi_eq]at e;split at e
    .
     rename_i A;have A:p.off+n*szT P b<=c.length:=Nat.le_of_ble_eq_true A;obtain⟨l,e,q⟩:=qvi j o e;obtain⟨h,e,r⟩:=qvi j o e;obtain⟨d,g,e⟩:=qAT e;simp only[natF_eq]at e;cases e;have Q:=qvW (P:=P) (a:=a) (isS:=false) (len:=n) (cap:=n) q r d g w;have run:(Instr.sliceAt t (a.eval x) (E.map a.eval) (G.map a.eval) none).run P w=.ok (.slice (some (if n=l then⟨y.b,y.o+p.off,none⟩else⟨y.b,y.o+p.off+l*szT P b,none⟩)) (h-l) (n-l)) w:=by simp[Instr.sliceAt,Instr.sureAddr,run_underlying B,C,Q,run_sizeOf (qu0 f),addr_add]
     refine⟨_,run,?_⟩;by_cases i:n=l
     . rw[if_pos i,show h.sub l=0 from by grind,show h-l=0 by omega,show n-l=0 by omega];exact .sl0 _ _ _ _ _ D
     . rw[if_neg i,Nat.add_assoc];refine .sl _ _ _ _ y _ D (by grind) ?_;show y.o+(p.off+l*szT P b)+(n-l)*szT P b<=y.S;have:l*szT P b+(n-l)*szT P b=n*szT P b:=by rw[<- Nat.add_mul];grind
       omega
    grind
   grind
  grind
 . cases e
end
end E
end Go.Proofs.YtnnhdcidgfjfpaaGreatDoor
