/-
  The document's recursive parser: its levels with two operands, and the ones ahead of an operand.
-/
import Derived.Test.YtgfbbmjoflehlaaGreatDoorZaq
import Derived.Test.YtgfbbmjoflehlaaGreatDoorPdq
set_option linter.all false
namespace Go.Proofs.YtgfbbmjoflehlaaGreatDoor
namespace Ab
abbrev tq (x:Ex)(R:Rs)(L:List Tok)(j o:Nat):qvL:=(x.op,R,x.n,x.scale,x.name,x.attr,x.pos,rwT L,(j:Int),(o:Int),0,0)
def EV (L:List Tok)(p e:Int)(t:qvL):Prop:=∃ (a:Int) (R:Rs) (b c:Int) (d d':ByteArray) (f i o:Int),t=(a,R,b,c,d,d',f,rwT L,i,o,e,p)
def DT (L:List Tok)(o:Nat)(out:PO)(r:qwJ):Prop:=match out with
 |.err p e=>(∃ (a b c:Int) (d d':ByteArray) (f i o:Int),r=.inl (a,b,c,d,d',f,rwT L,i,o,e,p))\/(∃ t,EV L p e t/\r=.inr (.inl t))\/∃ t,EV L p e t/\r=.inr (.inr t)
 |.ok x j=>(∃ R,qG R=qg x.args/\r=.inr (.inl (tq x R L j o)))\/r=.inr (.inr (tq x (qg x.args) L j o))
def D6 (L:List Tok)(o:Nat)(out:PO)(r:qwd):Prop:=match out with
 |.err p e=>(∃ t,EV L p e t/\r=.inl t)\/∃ t,EV L p e t/\r=.inr t
 |.ok x j=>(∃ R,qG R=qg x.args/\r=.inl (tq x R L j o))\/r=.inr (tq x (qg x.args) L j o)
def D7 (L:List Tok)(o:Nat)(out:PO)(r:qvL):Prop:=match out with
 |.err p e=>EV L p e r
 |.ok x j=>r=tq x (qg x.args) L j o
abbrev K0 (r:qwJ):R84:=.inl r
abbrev K1 (r:qwd):R84:=.inr (.inl r)
abbrev K2 (r:qvL):R84:=.inr (.inr r)
def sgD:Nat->List ByteArray×Int
 |0=>([strB [79,82]],14)
 |1=>([strB [65,78,68]],13)
 |3=>(sgC,7)
 |4=>(sgS,1)
 |5=>(sgP,3)
 |_=>([],0)
def qpn:List ByteArray->Int->Int->Tok->Int
 |[],_,c,_=>c
 |s::S,f,c,t=>qpn S (f+1) (bif isW t s then f else c) t
theorem qqz:∀ (S:List ByteArray) (f c:Int) (t:Tok),(∀ s∈S,isW t s=false)->qpn S f c t=c
 |[],_,_,_,_=>rfl
 |s::S,f,c,t,h=>by rw[qpn,h s au];exact qqz S (f+1) c t fun s hs=>h s (aB _ hs)
def ndB:List ByteArray->Bool
 |[]=>true
 |s::S=>S.all (fun r=>!(r.toList==s.toList))&&ndB S
theorem last_one:∀ (S:List ByteArray) (f:Int) (t:Tok),(∀ s∈S,isW t s=(s.toList==t.text.toList))->ndB S=true->qpn S f 0 t=qi9 S f t.text
 |[],_,_,_,_=>rfl
 |s::S,f,t,h,hn=>by
  rw[ndB,aC]at hn;have hs:=h s au;rw[qpn,qi9,hs];cases hb:s.toList==t.text.toList with
  |false=>exact last_one S (f+1) t (fun s hs=>h s (aB _ hs)) hn.2
  |true=>
   have e:s.toList=t.text.toList:=by grind
   exact qqz S (f+1) f t fun r hr=>by grind
theorem qrv {t}(ht:TW t){s}(hs:isLe (bAt s 0)=false):isW t s=bif t.kind==6 then s.toList==t.text.toList else false:=by
 unfold isW;cases h1:t.kind==1 with
 |false=>grind
 |true=>
  have hk:t.kind=1:=by grind
  have h6:(t.kind==6)=false:=by grind
  rw[h6];simp only[ah,af];cases hb:t.text.toList==s.toList with
  |false=>rfl
  |true=>
   have e:t.text=s:=toList_inj (by grind);have:=ht.1 hk
   grind
theorem qrw {t}(ht:TW t){s}(hs:isLe (bAt s 0)=true):isW t s=bif t.kind==1 then t.text.toList==s.toList else false:=by
 unfold isW;cases h1:t.kind==1 with
 |true=>rfl
 |false=>cases h6:t.kind==6 with
  |false=>rfl
  |true=>
   have hk:t.kind=6:=by grind
   simp only[ah,af];cases hb:t.text.toList==s.toList with
   |false=>rfl
   |true=>
    have e:t.text=s:=toList_inj (by grind);have:=ht.2 hk
    grind
theorem qr0:(sgC++sgS++sgP).all (fun s=>!isLe (bAt s 0))=true:=by kernel_rfl
theorem qrx {t}(ht:TW t){S f}(hS:∀ s∈S,isLe (bAt s 0)=false)(hn:ndB S=true):qpn S f 0 t=sgO S f t:=by
 unfold sgO;cases h6:t.kind==6 with
 |true=>exact last_one S f t (fun s hs=>by rw[qrv ht (hS s hs),h6];rfl) hn
 |false=>exact qqz S f 0 t fun s hs=>by rw[qrv ht (hS s hs),h6];rfl
theorem qsf {t}(ht:TW t)(l)(hl:l=0\/l=1\/l=3\/l=4\/l=5):qpn (sgD l).1 (sgD l).2 0 t=opA l t:=by
 have hs:∀ s∈sgC++sgS++sgP,isLe (bAt s 0)=false:=fun s hs=>by simpa using List.all_eq_true.1 qr0 s hs
 rcases hl with rfl|rfl|rfl|rfl|rfl
 . rfl
 . rfl
 . exact qrx ht (fun s h=>hs s (by have h:s∈sgC:=h;simp[h])) (by kernel_rfl)
 . exact qrx ht (fun s h=>hs s (by have h:s∈sgS:=h;simp[h])) (by kernel_rfl)
 . exact qrx ht (fun s h=>hs s (by have h:s∈sgP:=h;simp[h])) (by kernel_rfl)
section
variable [vo]
theorem qtz (l)(hl:l=0\/l=1\/l=3\/l=4\/l=5):Tot (fun k=>g66 k ((l+1:Nat):Int)) ((sgD l).1.map fun s=>[sc s],(sgD l).2):=by
 rcases hl with rfl|rfl|rfl|rfl|rfl
 . exact Goes.rec0 (step:=qo4) (s:=.e 1) (s':=.h0 _ _) (.fin0 fun k rec=>rfl) fun k rec=>rfl
 . exact Goes.rec0 (step:=qo4) (s:=.e 2) (s':=.h1 _ _) (.fin0 fun k rec=>rfl) fun k rec=>rfl
 . exact Goes.rec0 (step:=qo4) (s:=.e 4) (s':=.h2 _ _) (.fin0 fun k rec=>rfl) fun k rec=>rfl
 . exact Goes.rec0 (step:=qo4) (s:=.e 5) (s':=.h3 _ _) (.fin0 fun k rec=>rfl) fun k rec=>rfl
 . exact Goes.rec0 (step:=qo4) (s:=.e 6) (s':=.h4 _ _) (.fin0 fun k rec=>rfl) fun k rec=>rfl
theorem qp5 (a R i o e p)(he:e≠0):Goes quY (.e_84 a R i o e p) (K0 (.inl (0,0,0,strB [],strB [],0,R,i,o,e,p))):=.fin0 fun k rec=>by
 have:(e != 0)=true:=by grind
 simp only[nt,quY,this,ah]
def X (L:List Tok)(l i o:Nat)(out:PO):Prop:=∃ r,Goes quY (.e_84 ((l+1:Nat):Int) (rwT L) i o 0 0) (K0 r)/\DT L o out r
section
variable (L:List Tok) (l j o:Nat) (x:Ex) (R:Rs) (c1 c2 c3:Int) (d1 d2:ByteArray) (c4:Int)
theorem qrr (hj:j<L.length)(S:List ByteArray)(hS:S.length<100)(f)(hf:0<=f/\f<1000){r}:∀ (m d:Nat) (c:Int),S.length-d=m->d<=S.length ->
  Goes quY (.h3_84 ((l+1:Nat):Int) (S.map fun s=>[sc s]) f (qpn (S.drop d) (f+d) c (tkA L j)) (S.length:Int) (S.length:Int) x.op R x.n x.scale x.name x.attr x.pos c1 c2 c3 d1 d2 c4 (rwT L) j o 0 0) r ->
  Goes quY (.h3_84 ((l+1:Nat):Int) (S.map fun s=>[sc s]) f c (S.length:Int) (d:Int) x.op R x.n x.scale x.name x.attr x.pos c1 c2 c3 d1 d2 c4 (rwT L) j o 0 0) r
 |0,d,c,hm,hd,h=>by
  have e:d=S.length:=by omega
  subst e;rw[List.drop_eq_nil_of_le (Nat.le_refl _)]at h;exact h
 |m+1,d,c,hm,hd,h=>by
  have h1:d<S.length:=by omega
  have e1:=ax h1;rw[List.drop_eq_getElem_cons h1,qpn]at h;have e2:(S.map fun s=>[sc s])[d]? = some [sc S[d]]:=by grind
  have un:∀ {α:Type} (f:ByteArray->Option α),un_s [sc S[d]] f=f S[d]:=fun f=>rfl;have ih:=qrr hj S hS f hf (r:=r) m (d+1) (bif isW (tkA L j) S[d]then f+d else c) (by omega) (by omega) (by grind);have s5:∀ c,Goes quY (.h3_84 ((l+1:Nat):Int) (S.map fun s=>[sc s]) f c (S.length:Int) ((d+1:Nat):Int) x.op R x.n x.scale x.name x.attr x.pos c1 c2 c3 d1 d2 c4 (rwT L) j o 0 0) r->Goes quY (.h5_84 ((l+1:Nat):Int) (S.map fun s=>[sc s]) f c (S.length:Int) (d:Int) x.op R x.n x.scale x.name x.attr x.pos c1 c2 c3 d1 d2 c4 (rwT L) j o 0 0) r:=fun c h=>.rec0 h fun k rec=>by simp only[nt,quY,zq d (by omega)]
  have wf:IntKind.i64.wrap (f+(d:Int))=f+d:=by rw[IntKind.wrap_i64];omega
  refine .of2 (d49 L j hj S[d] o 0 0) (s5 _ ih) fun k b b2=>?_;simp only[nt,quY,ltT h1,ah,Yi e2,un,b,ae,tup2,wf]
  grind
theorem qrR (hL:TL L)(hj:j<L.length)(hl:l=0\/l=1\/l=3\/l=4\/l=5){r}(h:Goes quY (.h3_84 ((l+1:Nat):Int) ((sgD l).1.map fun s=>[sc s]) (sgD l).2 (opA l (tkA L j)) ((sgD l).1.length:Int) ((sgD l).1.length:Int) x.op R x.n x.scale x.name x.attr x.pos c1 c2 c3 d1 d2 c4 (rwT L) j o 0 0) r):
  Goes quY (.h1_84 ((l+1:Nat):Int) x.op R x.n x.scale x.name x.attr x.pos c1 c2 c3 d1 d2 c4 (rwT L) j o 0 0) r:=by
 have hS:(sgD l).1.length<100/\0<=(sgD l).2/\(sgD l).2<1000:=by rcases hl with rfl|rfl|rfl|rfl|rfl<;>decide
 rw[<- qsf (hL.tw j) l hl]at h;have lp:=qrr L l j o x R c1 c2 c3 d1 d2 c4 hj (sgD l).1 hS.1 (sgD l).2 hS.2 _ 0 0 rfl (Nat.zero_le _) (by rw[List.drop_zero,show(sgD l).2+((0:Nat):Int)=(sgD l).2 by omega];exact h);refine .of2 (qtz l hl) lp fun k b b2=>?_;simp only[nt,quY,beq_self_eq_true,ah,b,ae,tup2,List.length_map];exact b2
theorem qtA (hL:TL L)(hj:j<L.length)(hl:l=0\/l=1\/l=3\/l=4\/l=5)(ho:opA l (tkA L j)=0):Goes quY (.h1_84 ((l+1:Nat):Int) x.op R x.n x.scale x.name x.attr x.pos c1 c2 c3 d1 d2 c4 (rwT L) j o 0 0) (K0 (.inr (.inr (x.op,qG R,x.n,x.scale,x.name,x.attr,x.pos,rwT L,(j:Int),(o:Int),0,0)))):=by refine qrR L l j o x R c1 c2 c3 d1 d2 c4 hL hj hl ?_;rw[ho];exact .fin0 fun k rec=>by simp only[nt,quY,ltF (Nat.lt_irrefl _),af,beq_self_eq_true,ah]
theorem qp9 (i p e o')(he:e≠0):Goes quY (.h1_84 ((l+1:Nat):Int) x.op R x.n x.scale x.name x.attr x.pos c1 c2 c3 d1 d2 c4 (rwT L) i o' e p) (K0 (.inr (.inr (x.op,qG R,x.n,x.scale,x.name,x.attr,x.pos,rwT L,i,o',e,p)))):=.fin0 fun k rec=>by
 have:(e==0)=false:=by grind
 simp only[nt,quY,this,af]
end
section
variable (L:List Tok) (l j o:Nat) (x:Ex) (c1 c2 c3:Int) (d1 d2:ByteArray) (c4:Int)
theorem qrs (hj:j<L.length)(S:List ByteArray)(hS:S.length<100)(f)(hf:0<=f/\f<1000){r}:∀ (m d:Nat) (c:Int),S.length-d=m->d<=S.length ->
  Goes quY (.h4_84 ((l+1:Nat):Int) (S.map fun s=>[sc s]) f (qpn (S.drop d) (f+d) c (tkA L j)) (S.length:Int) (S.length:Int) x.op (qg x.args) x.n x.scale x.name x.attr x.pos c1 c2 c3 d1 d2 c4 (rwT L) j o 0 0) r ->
  Goes quY (.h4_84 ((l+1:Nat):Int) (S.map fun s=>[sc s]) f c (S.length:Int) (d:Int) x.op (qg x.args) x.n x.scale x.name x.attr x.pos c1 c2 c3 d1 d2 c4 (rwT L) j o 0 0) r
 |0,d,c,hm,hd,h=>by
  have e:d=S.length:=by omega
  subst e;rw[List.drop_eq_nil_of_le (Nat.le_refl _)]at h;exact h
 |m+1,d,c,hm,hd,h=>by
  have h1:d<S.length:=by omega
  have e1:=ax h1;rw[List.drop_eq_getElem_cons h1,qpn]at h;have e2:(S.map fun s=>[sc s])[d]? = some [sc S[d]]:=by grind
  have un:∀ {α:Type} (f:ByteArray->Option α),un_s [sc S[d]] f=f S[d]:=fun f=>rfl;have ih:=qrs hj S hS f hf (r:=r) m (d+1) (bif isW (tkA L j) S[d]then f+d else c) (by omega) (by omega) (by grind);have s5:∀ c,Goes quY (.h4_84 ((l+1:Nat):Int) (S.map fun s=>[sc s]) f c (S.length:Int) ((d+1:Nat):Int) x.op (qg x.args) x.n x.scale x.name x.attr x.pos c1 c2 c3 d1 d2 c4 (rwT L) j o 0 0) r->Goes quY (.h7_84 ((l+1:Nat):Int) (S.map fun s=>[sc s]) f c (S.length:Int) (d:Int) x.op (qg x.args) x.n x.scale x.name x.attr x.pos c1 c2 c3 d1 d2 c4 (rwT L) j o 0 0) r:=fun c h=>.rec0 h fun k rec=>by simp only[nt,quY,zq d (by omega)]
  have wf:IntKind.i64.wrap (f+(d:Int))=f+d:=by rw[IntKind.wrap_i64];omega
  refine .of2 (d49 L j hj S[d] o 0 0) (s5 _ ih) fun k b b2=>?_;simp only[nt,quY,ltT h1,ah,Yi e2,un,b,ae,tup2,wf]
  grind
theorem qrS (hL:TL L)(hj:j<L.length)(hl:l=0\/l=1\/l=3\/l=4\/l=5){r}(h:Goes quY (.h4_84 ((l+1:Nat):Int) ((sgD l).1.map fun s=>[sc s]) (sgD l).2 (opA l (tkA L j)) ((sgD l).1.length:Int) ((sgD l).1.length:Int) x.op (qg x.args) x.n x.scale x.name x.attr x.pos c1 c2 c3 d1 d2 c4 (rwT L) j o 0 0) r):
  Goes quY (.h2_84 ((l+1:Nat):Int) x.op (qg x.args) x.n x.scale x.name x.attr x.pos c1 c2 c3 d1 d2 c4 (rwT L) j o 0 0) r:=by
 have hS:(sgD l).1.length<100/\0<=(sgD l).2/\(sgD l).2<1000:=by rcases hl with rfl|rfl|rfl|rfl|rfl<;>decide
 rw[<- qsf (hL.tw j) l hl]at h;have lp:=qrs L l j o x c1 c2 c3 d1 d2 c4 hj (sgD l).1 hS.1 (sgD l).2 hS.2 _ 0 0 rfl (Nat.zero_le _) (by rw[List.drop_zero,show(sgD l).2+((0:Nat):Int)=(sgD l).2 by omega];exact h);refine .of2 (qtz l hl) lp fun k b b2=>?_;simp only[nt,quY,beq_self_eq_true,ah,b,ae,tup2,List.length_map];exact b2
theorem qtB (hL:TL L)(hj:j<L.length)(hl:l=0\/l=1\/l=3\/l=4\/l=5)(ho:opA l (tkA L j)=0):Goes quY (.h2_84 ((l+1:Nat):Int) x.op (qg x.args) x.n x.scale x.name x.attr x.pos c1 c2 c3 d1 d2 c4 (rwT L) j o 0 0) (K0 (.inr (.inr (x.op,qg x.args,x.n,x.scale,x.name,x.attr,x.pos,rwT L,(j:Int),(o:Int),0,0)))):=by refine qrS L l j o x c1 c2 c3 d1 d2 c4 hL hj hl ?_;rw[ho];exact .fin0 fun k rec=>by simp only[nt,quY,ltF (Nat.lt_irrefl _),af,beq_self_eq_true,ah]
end
theorem qru {x}{Q:Rs}(hQ:qG Q=qg x.args):[ic x.op,Cell.imm (qG Q),ic x.n,ic x.scale,sc x.name,sc x.attr,ic x.pos].map immC=Xe x:=by rw[hQ];exact imEx x
def HL (l:Nat):Prop:=l=0\/l=1\/l=3\/l=4\/l=5
theorem lv_t {l}(hl:HL l):(((l+1:Nat):Int)==3)=false/\(((l+1:Nat):Int)==7)=false/\(((l+1:Nat):Int)==8)=false:=by rcases hl with rfl|rfl|rfl|rfl|rfl<;>exact⟨rfl,rfl,rfl⟩
theorem lv_w {l}(hl:l<100):IntKind.i64.wrap (((l+1:Nat):Int)+1)=((l+1+1:Nat):Int):=zq (l+1) (by omega)
theorem qpU {l}(hl:HL l):l<6:=by unfold HL at hl;omega
section
variable {L:List Tok} {l i j o:Nat} {x:Ex}
theorem x_in (hl:HL l){r}(h:Goes quY (.h0_84 ((l+1:Nat):Int) false 0 0 0 (strB []) (strB []) 0 (rwT L) i o 0 0) r):Goes quY (.e_84 ((l+1:Nat):Int) (rwT L) i o 0 0) r:=.rec0 h fun k rec=>by simp only[nt,quY,bne_self_eq_false,af,(lv_t hl).1,(lv_t hl).2.1]
theorem xe {p e}(he:e≠0)(hl:HL l)(h:X L (l+1) i o (.err p e)):X L l i o (.err p e):=by
 obtain⟨r,h1,⟨a,b,c,d,d',f,i',o',rfl⟩|⟨t,⟨a,R,b,c,d,d',f,i',o',rfl⟩,rfl⟩|⟨t,⟨a,R,b,c,d,d',f,i',o',rfl⟩,rfl⟩⟩:=h
 . exact⟨_,x_in hl (.of2 h1 (qp9 L l (.mk a [] b c d d' f) [] 0 0 0 (strB []) (strB []) 0 i' p e o' he) fun k b1 b2=>by simp only[nt,quY,(lv_t hl).2.2,lv_w (Nat.lt_trans (qpU hl) (by omega)),b1,ae,ah,af,aj,ak,altC,tup2,tup6,qoG,zu,qvb];exact b2),.inr (.inr ⟨_,⟨_,_,_,_,_,_,_,_,_,rfl⟩,rfl⟩)⟩
 . exact⟨_,x_in hl (.of2 h1 (qp9 L l (.mk a [] b c d d' f) R 0 0 0 (strB []) (strB []) 0 i' p e o' he) fun k b1 b2=>by simp only[nt,quY,(lv_t hl).2.2,lv_w (Nat.lt_trans (qpU hl) (by omega)),b1,ae,ah,af,aj,ak,altC,tup2,tup6,qoG,zu,qvb];exact b2),.inr (.inr ⟨_,⟨_,_,_,_,_,_,_,_,_,rfl⟩,rfl⟩)⟩
 .
  have w2:Goes quY (.h2_84 ((l+1:Nat):Int) a R b c d d' f 0 0 0 (strB []) (strB []) 0 (rwT L) i' o' e p) (K0 (.inr (.inr (a,R,b,c,d,d',f,rwT L,i',o',e,p)))):=.fin0 fun k rec=>by
   have:(e==0)=false:=by grind
   simp only[nt,quY,this,af]
  exact⟨_,x_in hl (.of2 h1 w2 fun k b1 b2=>by simp only[nt,quY,(lv_t hl).2.2,lv_w (Nat.lt_trans (qpU hl) (by omega)),b1,ae,ah,af,aj,ak,altC,tup2,tup6,qoG,zu,qvb];exact b2),.inr (.inr ⟨_,⟨_,_,_,_,_,_,_,_,_,rfl⟩,rfl⟩)⟩
def V (L:List Tok)(l:Nat)(x:Ex)(j o:Nat)(out:PO):Prop:=∀ (c1 c2 c3:Int) (d1 d2:ByteArray) (c4:Int),(∃ r,Goes quY (.h2_84 ((l+1:Nat):Int) x.op (qg x.args) x.n x.scale x.name x.attr x.pos c1 c2 c3 d1 d2 c4 (rwT L) j o 0 0) (K0 r)/\DT L o out r) /\
 ∀ R,qG R=qg x.args->∃ r,Goes quY (.h1_84 ((l+1:Nat):Int) x.op R x.n x.scale x.name x.attr x.pos c1 c2 c3 d1 d2 c4 (rwT L) j o 0 0) (K0 r)/\DT L o out r
theorem xk {out}(hl:HL l)(h:X L (l+1) i o (.ok x j))(hv:V L l x j o out):X L l i o out:=by
 obtain⟨⟨r2,v2,w2⟩,v1⟩:=hv 0 0 0 (strB []) (strB []) 0;obtain⟨r,h1,⟨R,hR,rfl⟩|rfl⟩:=h
 . obtain⟨r3,v3,w3⟩:=v1 R hR;exact⟨r3,x_in hl (.of2 h1 v3 fun k b1 b2=>by simp only[nt,quY,(lv_t hl).2.2,lv_w (Nat.lt_trans (qpU hl) (by omega)),b1,ae,ah,af,aj,ak,altC,tup2,tup6,qoG,zu,qvb];exact b2),w3⟩
 . exact⟨r2,x_in hl (.of2 h1 v2 fun k b1 b2=>by simp only[nt,quY,(lv_t hl).2.2,lv_w (Nat.lt_trans (qpU hl) (by omega)),b1,ae,ah,af,aj,ak,altC,tup2,tup6,qoG,zu,qvb];exact b2),w2⟩
theorem vf (hL:TL L)(hj:j<L.length)(hl:HL l)(ho:opA l (tkA L j)=0):V L l x j o (.ok x j):=fun c1 c2 c3 d1 d2 c4=>⟨⟨_,qtB L l j o x c1 c2 c3 d1 d2 c4 hL hj hl ho,.inr rfl⟩,fun R hR=>⟨_,qtA L l j o x R c1 c2 c3 d1 d2 c4 hL hj hl ho,.inr (by rw[hR])⟩⟩
theorem qpq (l c d q c1 c2 c3)(d1 d2:ByteArray)(c4 i' o' e p)(he:e≠0):Goes quY (.h6_84 ((l+1:Nat):Int) (((l+1:Nat):Int)==4) c d 0 0 (strB []) (strB []) q c1 c2 c3 d1 d2 c4 (rwT L) i' o' e p) (K0 (.inr (.inr (c,qG d,0,0,strB [],strB [],q,rwT L,i',o',e,p)))):=by
 cases hb:((l+1:Nat):Int)==4 with
 |true=>exact .fin0 fun k rec=>by simp only[nt,quY,ah]
 |false=>exact .rec0 (qp9 L l (.mk c [] 0 0 (strB []) (strB []) q) d c1 c2 c3 d1 d2 c4 i' p e o' he) fun k rec=>by simp only[nt,quY,af];rfl
theorem qrT (hl:l≠3)(c d q c1 c2 c3)(d1 d2:ByteArray)(c4){r}(h:Goes quY (.h1_84 ((l+1:Nat):Int) c d 0 0 (strB []) (strB []) q c1 c2 c3 d1 d2 c4 (rwT L) j o 0 0) r):Goes quY (.h6_84 ((l+1:Nat):Int) (((l+1:Nat):Int)==4) c d 0 0 (strB []) (strB []) q c1 c2 c3 d1 d2 c4 (rwT L) j o 0 0) r:=by have hb:(((l+1:Nat):Int)==4)=false:=beq_eq_false_iff_ne.2 (by omega);rw[hb];exact .rec0 h fun k rec=>by simp only[nt,quY,af]
theorem h6_3 (c d q c1 c2 c3)(d1 d2:ByteArray)(c4):Goes quY (.h6_84 ((3+1:Nat):Int) (((3+1:Nat):Int)==4) c d 0 0 (strB []) (strB []) q c1 c2 c3 d1 d2 c4 (rwT L) j o 0 0) (K0 (.inr (.inr (c,qG d,0,0,strB [],strB [],q,rwT L,(j:Int),(o:Int),0,0)))):=.fin0 fun k rec=>rfl
end
theorem quD {L}{l j o:Nat}{x:Ex}(R:Rs)(c1 c2 c3)(d1 d2:ByteArray)(c4){n1 n2 n3 n4 i1 o1 e1 p1}{s1 s2:ByteArray}{r}(hL:TL L)(hj:j<L.length)(hl:HL l)(ho:opA l (tkA L j)≠0)(h1:Goes quY (.e_84 ((l+1+1:Nat):Int) (rwT L) ((j+1:Nat):Int) o 0 0) (K0 (.inl (n1,n2,n3,s1,s2,n4,rwT L,i1,o1,e1,p1))))(h2:Goes quY (.h6_84 ((l+1:Nat):Int) (((l+1:Nat):Int)==4) (opA l (tkA L j)) [[ic x.op,.imm (qG R),ic x.n,ic x.scale,sc x.name,sc x.attr,ic x.pos],[ic n1,.nil,ic n2,ic n3,sc s1,sc s2,ic n4]] 0 0 (strB []) (strB []) (tkA L j).pos c1 c2 c3 d1 d2 c4 (rwT L) i1 o1 e1 p1) r):
  Goes quY (.h1_84 ((l+1:Nat):Int) x.op R x.n x.scale x.name x.attr x.pos c1 c2 c3 d1 d2 c4 (rwT L) j o 0 0) r:=by
 have hlen:=hL.len;have h0:(opA l (tkA L j)==0)=false:=by grind
 refine qrR L l j o x R c1 c2 c3 d1 d2 c4 hL hj hl ?_;exact .of3 (d50 L j hj o 0 0) h1 h2 fun k b b2 b3=>by simp only[nt,quY,ltF (Nat.lt_irrefl _),h0,b,zq j (by omega),lv_w (Nat.lt_trans (qpU hl) (by omega)),b2,ae,ah,af,aj,ak,altC,tup2,tup6,qoG,zu,qvb];exact b3
theorem qsF {L}{l j o:Nat}{x:Ex}(R:Rs)(c1 c2 c3)(d1 d2:ByteArray)(c4){n1 n2 n3 n4 i1 o1 e1 p1}{s1 s2:ByteArray}{Q r}(hL:TL L)(hj:j<L.length)(hl:HL l)(ho:opA l (tkA L j)≠0)(h1:Goes quY (.e_84 ((l+1+1:Nat):Int) (rwT L) ((j+1:Nat):Int) o 0 0) (K0 (.inr (.inl (n1,Q,n2,n3,s1,s2,n4,rwT L,i1,o1,e1,p1)))))(h2:Goes quY (.h6_84 ((l+1:Nat):Int) (((l+1:Nat):Int)==4) (opA l (tkA L j)) [[ic x.op,.imm (qG R),ic x.n,ic x.scale,sc x.name,sc x.attr,ic x.pos],[ic n1,.own 7 Q,ic n2,ic n3,sc s1,sc s2,ic n4]] 0 0 (strB []) (strB []) (tkA L j).pos c1 c2 c3 d1 d2 c4 (rwT L) i1 o1 e1 p1) r):
  Goes quY (.h1_84 ((l+1:Nat):Int) x.op R x.n x.scale x.name x.attr x.pos c1 c2 c3 d1 d2 c4 (rwT L) j o 0 0) r:=by
 have hlen:=hL.len;have h0:(opA l (tkA L j)==0)=false:=by grind
 refine qrR L l j o x R c1 c2 c3 d1 d2 c4 hL hj hl ?_;exact .of3 (d50 L j hj o 0 0) h1 h2 fun k b b2 b3=>by simp only[nt,quY,ltF (Nat.lt_irrefl _),h0,b,zq j (by omega),lv_w (Nat.lt_trans (qpU hl) (by omega)),b2,ae,ah,af,aj,ak,altC,tup2,tup6,qoG,zu,qvb];exact b3
theorem qsG {L}{l j o:Nat}{x:Ex}(R:Rs)(c1 c2 c3)(d1 d2:ByteArray)(c4){n1 n2 n3 n4 i1 o1 e1 p1}{s1 s2:ByteArray}{Q r}(hL:TL L)(hj:j<L.length)(hl:HL l)(ho:opA l (tkA L j)≠0)(h1:Goes quY (.e_84 ((l+1+1:Nat):Int) (rwT L) ((j+1:Nat):Int) o 0 0) (K0 (.inr (.inr (n1,Q,n2,n3,s1,s2,n4,rwT L,i1,o1,e1,p1)))))(h2:Goes quY (.h6_84 ((l+1:Nat):Int) (((l+1:Nat):Int)==4) (opA l (tkA L j)) [[ic x.op,.imm (qG R),ic x.n,ic x.scale,sc x.name,sc x.attr,ic x.pos],[ic n1,.imm Q,ic n2,ic n3,sc s1,sc s2,ic n4]] 0 0 (strB []) (strB []) (tkA L j).pos c1 c2 c3 d1 d2 c4 (rwT L) i1 o1 e1 p1) r):
  Goes quY (.h1_84 ((l+1:Nat):Int) x.op R x.n x.scale x.name x.attr x.pos c1 c2 c3 d1 d2 c4 (rwT L) j o 0 0) r:=by
 have hlen:=hL.len;have h0:(opA l (tkA L j)==0)=false:=by grind
 refine qrR L l j o x R c1 c2 c3 d1 d2 c4 hL hj hl ?_;exact .of3 (d50 L j hj o 0 0) h1 h2 fun k b b2 b3=>by simp only[nt,quY,ltF (Nat.lt_irrefl _),h0,b,zq j (by omega),lv_w (Nat.lt_trans (qpU hl) (by omega)),b2,ae,ah,af,aj,ak,altC,tup2,tup6,qoG,zu,qvb];exact b3
theorem quE {L}{l j o:Nat}{x:Ex}(c1 c2 c3)(d1 d2:ByteArray)(c4){n1 n2 n3 n4 i1 o1 e1 p1}{s1 s2:ByteArray}{r}(hL:TL L)(hj:j<L.length)(hl:HL l)(ho:opA l (tkA L j)≠0)(h1:Goes quY (.e_84 ((l+1+1:Nat):Int) (rwT L) ((j+1:Nat):Int) o 0 0) (K0 (.inl (n1,n2,n3,s1,s2,n4,rwT L,i1,o1,e1,p1))))(h2:Goes quY (.h6_84 ((l+1:Nat):Int) (((l+1:Nat):Int)==4) (opA l (tkA L j)) [[ic x.op,.imm (qg x.args),ic x.n,ic x.scale,sc x.name,sc x.attr,ic x.pos],[ic n1,.nil,ic n2,ic n3,sc s1,sc s2,ic n4]] 0 0 (strB []) (strB []) (tkA L j).pos c1 c2 c3 d1 d2 c4 (rwT L) i1 o1 e1 p1) r):
  Goes quY (.h2_84 ((l+1:Nat):Int) x.op (qg x.args) x.n x.scale x.name x.attr x.pos c1 c2 c3 d1 d2 c4 (rwT L) j o 0 0) r:=by
 have hlen:=hL.len;have h0:(opA l (tkA L j)==0)=false:=by grind
 refine qrS L l j o x c1 c2 c3 d1 d2 c4 hL hj hl ?_;exact .of3 (d50 L j hj o 0 0) h1 h2 fun k b b2 b3=>by simp only[nt,quY,ltF (Nat.lt_irrefl _),h0,b,zq j (by omega),lv_w (Nat.lt_trans (qpU hl) (by omega)),b2,ae,ah,af,aj,ak,altC,tup2,tup6,qoG,zu,qvb];exact b3
theorem qsH {L}{l j o:Nat}{x:Ex}(c1 c2 c3)(d1 d2:ByteArray)(c4){n1 n2 n3 n4 i1 o1 e1 p1}{s1 s2:ByteArray}{Q r}(hL:TL L)(hj:j<L.length)(hl:HL l)(ho:opA l (tkA L j)≠0)(h1:Goes quY (.e_84 ((l+1+1:Nat):Int) (rwT L) ((j+1:Nat):Int) o 0 0) (K0 (.inr (.inl (n1,Q,n2,n3,s1,s2,n4,rwT L,i1,o1,e1,p1)))))(h2:Goes quY (.h6_84 ((l+1:Nat):Int) (((l+1:Nat):Int)==4) (opA l (tkA L j)) [[ic x.op,.imm (qg x.args),ic x.n,ic x.scale,sc x.name,sc x.attr,ic x.pos],[ic n1,.own 7 Q,ic n2,ic n3,sc s1,sc s2,ic n4]] 0 0 (strB []) (strB []) (tkA L j).pos c1 c2 c3 d1 d2 c4 (rwT L) i1 o1 e1 p1) r):
  Goes quY (.h2_84 ((l+1:Nat):Int) x.op (qg x.args) x.n x.scale x.name x.attr x.pos c1 c2 c3 d1 d2 c4 (rwT L) j o 0 0) r:=by
 have hlen:=hL.len;have h0:(opA l (tkA L j)==0)=false:=by grind
 refine qrS L l j o x c1 c2 c3 d1 d2 c4 hL hj hl ?_;exact .of3 (d50 L j hj o 0 0) h1 h2 fun k b b2 b3=>by simp only[nt,quY,ltF (Nat.lt_irrefl _),h0,b,zq j (by omega),lv_w (Nat.lt_trans (qpU hl) (by omega)),b2,ae,ah,af,aj,ak,altC,tup2,tup6,qoG,zu,qvb];exact b3
theorem qsI {L}{l j o:Nat}{x:Ex}(c1 c2 c3)(d1 d2:ByteArray)(c4){n1 n2 n3 n4 i1 o1 e1 p1}{s1 s2:ByteArray}{Q r}(hL:TL L)(hj:j<L.length)(hl:HL l)(ho:opA l (tkA L j)≠0)(h1:Goes quY (.e_84 ((l+1+1:Nat):Int) (rwT L) ((j+1:Nat):Int) o 0 0) (K0 (.inr (.inr (n1,Q,n2,n3,s1,s2,n4,rwT L,i1,o1,e1,p1)))))(h2:Goes quY (.h6_84 ((l+1:Nat):Int) (((l+1:Nat):Int)==4) (opA l (tkA L j)) [[ic x.op,.imm (qg x.args),ic x.n,ic x.scale,sc x.name,sc x.attr,ic x.pos],[ic n1,.imm Q,ic n2,ic n3,sc s1,sc s2,ic n4]] 0 0 (strB []) (strB []) (tkA L j).pos c1 c2 c3 d1 d2 c4 (rwT L) i1 o1 e1 p1) r):
  Goes quY (.h2_84 ((l+1:Nat):Int) x.op (qg x.args) x.n x.scale x.name x.attr x.pos c1 c2 c3 d1 d2 c4 (rwT L) j o 0 0) r:=by
 have hlen:=hL.len;have h0:(opA l (tkA L j)==0)=false:=by grind
 refine qrS L l j o x c1 c2 c3 d1 d2 c4 hL hj hl ?_;exact .of3 (d50 L j hj o 0 0) h1 h2 fun k b b2 b3=>by simp only[nt,quY,ltF (Nat.lt_irrefl _),h0,b,zq j (by omega),lv_w (Nat.lt_trans (qpU hl) (by omega)),b2,ae,ah,af,aj,ak,altC,tup2,tup6,qoG,zu,qvb];exact b3
section
variable {L:List Tok} {l j o:Nat} {x:Ex}
theorem ve (hL:TL L)(hj:j<L.length)(hl:HL l)(ho:opA l (tkA L j)≠0){p e}(he:e≠0)(h:X L (l+1) (j+1) o (.err p e)):V L l x j o (.err p e):=by
 intro c1 c2 c3 d1 d2 c4;obtain⟨r,h1,⟨a,b,c,d,d',f,i',o',rfl⟩|⟨t,⟨a,R,b,c,d,d',f,i',o',rfl⟩,rfl⟩|⟨t,⟨a,R,b,c,d,d',f,i',o',rfl⟩,rfl⟩⟩:=h
 . exact⟨⟨_,quE c1 c2 c3 d1 d2 c4 hL hj hl ho h1 (qpq l _ _ _ c1 c2 c3 d1 d2 c4 i' o' e p he),.inr (.inr ⟨_,⟨_,_,_,_,_,_,_,_,_,rfl⟩,rfl⟩)⟩,fun Q hQ=>⟨_,quD Q c1 c2 c3 d1 d2 c4 hL hj hl ho h1 (qpq l _ _ _ c1 c2 c3 d1 d2 c4 i' o' e p he),.inr (.inr ⟨_,⟨_,_,_,_,_,_,_,_,_,rfl⟩,rfl⟩)⟩⟩
 . exact⟨⟨_,qsH c1 c2 c3 d1 d2 c4 hL hj hl ho h1 (qpq l _ _ _ c1 c2 c3 d1 d2 c4 i' o' e p he),.inr (.inr ⟨_,⟨_,_,_,_,_,_,_,_,_,rfl⟩,rfl⟩)⟩,fun Q hQ=>⟨_,qsF Q c1 c2 c3 d1 d2 c4 hL hj hl ho h1 (qpq l _ _ _ c1 c2 c3 d1 d2 c4 i' o' e p he),.inr (.inr ⟨_,⟨_,_,_,_,_,_,_,_,_,rfl⟩,rfl⟩)⟩⟩
 . exact⟨⟨_,qsI c1 c2 c3 d1 d2 c4 hL hj hl ho h1 (qpq l _ _ _ c1 c2 c3 d1 d2 c4 i' o' e p he),.inr (.inr ⟨_,⟨_,_,_,_,_,_,_,_,_,rfl⟩,rfl⟩)⟩,fun Q hQ=>⟨_,qsG Q c1 c2 c3 d1 d2 c4 hL hj hl ho h1 (qpq l _ _ _ c1 c2 c3 d1 d2 c4 i' o' e p he),.inr (.inr ⟨_,⟨_,_,_,_,_,_,_,_,_,rfl⟩,rfl⟩)⟩⟩
theorem vk (hL:TL L)(hj:j<L.length)(hl:HL l)(h3:l≠3)(ho:opA l (tkA L j)≠0){y m out}(h:X L (l+1) (j+1) o (.ok y m))(hv:V L l (two (opA l (tkA L j)) x y (tkA L j).pos) m o out):V L l x j o out:=by
 intro c1 c2 c3 d1 d2 c4;have v:=(hv c1 c2 c3 d1 d2 c4).2;obtain⟨r,h1,⟨R,hR,rfl⟩|rfl⟩:=h
 . obtain⟨r2,v2,w2⟩:=v _ (imm2 (x:=x) (imEx x) (ql9 hR));refine⟨⟨r2,qsH c1 c2 c3 d1 d2 c4 hL hj hl ho h1 (qrT h3 _ _ _ c1 c2 c3 d1 d2 c4 v2),w2⟩,fun Q hQ=>?_⟩;obtain⟨r3,v3,w3⟩:=v _ (imm2 (x:=x) (qru hQ) (ql9 hR));exact⟨r3,qsF Q c1 c2 c3 d1 d2 c4 hL hj hl ho h1 (qrT h3 _ _ _ c1 c2 c3 d1 d2 c4 v3),w3⟩
 . obtain⟨r2,v2,w2⟩:=v _ (imm2 (x:=x) (imEx x) (imEx y));refine⟨⟨r2,qsI c1 c2 c3 d1 d2 c4 hL hj hl ho h1 (qrT h3 _ _ _ c1 c2 c3 d1 d2 c4 v2),w2⟩,fun Q hQ=>?_⟩;obtain⟨r3,v3,w3⟩:=v _ (imm2 (x:=x) (qru hQ) (imEx y));exact⟨r3,qsG Q c1 c2 c3 d1 d2 c4 hL hj hl ho h1 (qrT h3 _ _ _ c1 c2 c3 d1 d2 c4 v3),w3⟩
theorem v3 (hL:TL L)(hj:j<L.length)(ho:opA 3 (tkA L j)≠0){y m}(h:X L 4 (j+1) o (.ok y m)):V L 3 x j o (.ok (two (opA 3 (tkA L j)) x y (tkA L j).pos) m):=by
 intro c1 c2 c3 d1 d2 c4;have hl:HL 3:=.inr (.inr (.inl rfl));obtain⟨r,h1,⟨R,hR,rfl⟩|rfl⟩:=h
 . refine⟨⟨_,qsH c1 c2 c3 d1 d2 c4 hL hj hl ho h1 (h6_3 _ _ _ c1 c2 c3 d1 d2 c4),.inr (by rw[imm2 (x:=x) (imEx x) (ql9 hR)];rfl)⟩,fun Q hQ=>⟨_,qsF Q c1 c2 c3 d1 d2 c4 hL hj hl ho h1 (h6_3 _ _ _ c1 c2 c3 d1 d2 c4),.inr (by rw[imm2 (x:=x) (qru hQ) (ql9 hR)];rfl)⟩⟩
 . refine⟨⟨_,qsI c1 c2 c3 d1 d2 c4 hL hj hl ho h1 (h6_3 _ _ _ c1 c2 c3 d1 d2 c4),.inr (by rw[imm2 (x:=x) (imEx x) (imEx y)];rfl)⟩,fun Q hQ=>⟨_,qsG Q c1 c2 c3 d1 d2 c4 hL hj hl ho h1 (h6_3 _ _ _ c1 c2 c3 d1 d2 c4),.inr (by rw[imm2 (x:=x) (qru hQ) (imEx y)];rfl)⟩⟩
end
end
end Ab
end Go.Proofs.YtgfbbmjoflehlaaGreatDoor
