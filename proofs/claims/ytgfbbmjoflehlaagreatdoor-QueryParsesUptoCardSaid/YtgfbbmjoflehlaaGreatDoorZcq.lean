/-
  The document's parser: what stands ahead of an operand, and leaves.
-/
import Derived.Test.YtgfbbmjoflehlaaGreatDoorZbq
import Derived.Test.YtgfbbmjoflehlaaGreatDoorPeq
set_option linter.all false
namespace Go.Proofs.YtgfbbmjoflehlaaGreatDoor
namespace Ab
section
variable [vo] {L:List Tok} {l i j o:Nat} {x:Ex}
theorem qo5 {p e a R b c}{d d':ByteArray}{f i o}:EV L p e (a,R,b,c,d,d',f,rwT L,i,o,e,p):=⟨_,_,_,_,_,_,_,_,_,rfl⟩
def Y (L:List Tok)(l i o:Nat)(out:PO):Prop:=∃ r,Goes quY (.e_105 ((l+1:Nat):Int) (rwT L) i o 0 0) (K1 r)/\D6 L o out r
theorem quP (hl:l=2\/l=6){out}(h:Y L l i o out):X L l i o out:=by
 obtain⟨r,h1,h2⟩:=h;have into:∀ r,Goes quY (.h0_84 ((l+1:Nat):Int) true 0 0 0 (strB []) (strB []) 0 (rwT L) i o 0 0) r->Goes quY (.e_84 ((l+1:Nat):Int) (rwT L) i o 0 0) r:=fun r h=>.rec0 h fun k rec=>by rcases hl with rfl|rfl<;>rfl
 have st:∀ t,r=.inl t->Goes quY (.h0_84 ((l+1:Nat):Int) true 0 0 0 (strB []) (strB []) 0 (rwT L) i o 0 0) (K0 (.inr (.inl t))):=fun t e=>.of1 h1 fun k b=>by subst e;simp only[nt,quY,b,qxk,ae,ah,af,aj,ak,altC,tup2,tup4,tup6,qoG,zu]
 have st2:∀ t,r=.inr t->Goes quY (.h0_84 ((l+1:Nat):Int) true 0 0 0 (strB []) (strB []) 0 (rwT L) i o 0 0) (K0 (.inr (.inr t))):=fun t e=>.of1 h1 fun k b=>by subst e;simp only[nt,quY,b,qxk,ae,ah,af,aj,ak,altC,tup2,tup4,tup6,qoG,zu]
 cases out with
 |err p e=>
  rcases h2 with⟨t,h3,e⟩|⟨t,h3,e⟩
  . exact⟨_,into _ (st t e),.inr (.inl ⟨t,h3,rfl⟩)⟩
  . exact⟨_,into _ (st2 t e),.inr (.inr ⟨t,h3,rfl⟩)⟩
 |ok x j=>
  rcases h2 with⟨R,h3,e⟩|e
  . exact⟨_,into _ (st _ e),.inl ⟨R,h3,rfl⟩⟩
  . exact⟨_,into _ (st2 _ e),.inr rfl⟩
def wP (l:Nat):ByteArray×Int:=if l=6 then(strB [45],6)else(strB [78,79,84],15)
theorem y_in (hl:l=2\/l=6){r}(h:Goes quY (.h0_105 ((l+1:Nat):Int) (wP l).1 (wP l).2 0 0 0 (strB []) (strB []) 0 (rwT L) i o 0 0) r):Goes quY (.e_105 ((l+1:Nat):Int) (rwT L) i o 0 0) r:=.rec0 h fun k rec=>by rcases hl with rfl|rfl<;>rfl
theorem y_no (hl:l=2\/l=6)(hi:i<L.length)(hw:isW (tkA L i) (wP l).1=false){out}(h:X L (l+1) i o out):Y L l i o out:=by
 have t:=d49 L i hi (wP l).1 o 0 0;rw[hw]at t;have lw:=lv_w (l:=l) (by omega);obtain⟨r,h1,h2⟩:=h;have s1:∀ (a:Int) (R:Rs) (b c:Int) (d d':ByteArray) (f i' o' e p:Int),Goes quY (.h1_105 a R b c d d' f (rwT L) i' o' e p) (K1 (.inl (a,R,b,c,d,d',f,rwT L,i',o',e,p))):=fun _ _ _ _ _ _ _ _ _ _ _=>.fin0 fun k rec=>rfl;have s2:∀ (a:Int) (R:Rs) (b c:Int) (d d':ByteArray) (f i' o' e p:Int),Goes quY (.h2_105 a R b c d d' f (rwT L) i' o' e p) (K1 (.inr (a,R,b,c,d,d',f,rwT L,i',o',e,p))):=fun _ _ _ _ _ _ _ _ _ _ _=>.fin0 fun k rec=>rfl;cases out with
 |err p e=>
  rcases h2 with⟨a,b,c,d,d',f,i',o',rfl⟩|⟨t',⟨a,R,b,c,d,d',f,i',o',rfl⟩,rfl⟩|⟨t',⟨a,R,b,c,d,d',f,i',o',rfl⟩,rfl⟩
  . exact⟨_,y_in hl (.of3 t h1 (s1 a [] b c d d' f i' o' e p) fun k b1 b2 b3=>by simp only[nt,quY,b1,lw,b2,qvb,ae,ah,af,aj,ak,altC,tup2,tup4,tup6,qoG,zu];exact b3),.inl ⟨_,qo5,rfl⟩⟩
  . exact⟨_,y_in hl (.of3 t h1 (s1 a R b c d d' f i' o' e p) fun k b1 b2 b3=>by simp only[nt,quY,b1,lw,b2,qvb,ae,ah,af,aj,ak,altC,tup2,tup4,tup6,qoG,zu];exact b3),.inl ⟨_,qo5,rfl⟩⟩
  . exact⟨_,y_in hl (.of3 t h1 (s2 a R b c d d' f i' o' e p) fun k b1 b2 b3=>by simp only[nt,quY,b1,lw,b2,qvb,ae,ah,af,aj,ak,altC,tup2,tup4,tup6,qoG,zu];exact b3),.inr ⟨_,qo5,rfl⟩⟩
 |ok x j=>
  rcases h2 with⟨R,hR,rfl⟩|rfl
  . exact⟨_,y_in hl (.of3 t h1 (s1 x.op R x.n x.scale x.name x.attr x.pos j o 0 0) fun k b1 b2 b3=>by simp only[nt,quY,b1,lw,b2,qvb,ae,ah,af,aj,ak,altC,tup2,tup4,tup6,qoG,zu];exact b3),.inl ⟨R,hR,rfl⟩⟩
  . exact⟨_,y_in hl (.of3 t h1 (s2 x.op (qg x.args) x.n x.scale x.name x.attr x.pos j o 0 0) fun k b1 b2 b3=>by simp only[nt,quY,b1,lw,b2,qvb,ae,ah,af,aj,ak,altC,tup2,tup4,tup6,qoG,zu];exact b3),.inr rfl⟩
theorem s3 (a R b c)(d d':ByteArray)(f i' o' e p):Goes quY (.h3_105 a R b c d d' f (rwT L) i' o' e p) (K1 (.inl (a,R,b,c,d,d',f,rwT L,i',o',e,p))):=.fin0 fun k rec=>rfl
section
variable (hl:l=2\/l=6) (hi:i<L.length) (hi2:i<100000) (ho:o<100) (hw:isW (tkA L i) (wP l).1=true)
include hl hi hi2 ho hw
theorem qtY (h3:(o==30)=true):Y L l i o (.err (tkA L i).pos 14):=by have t:=d49 L i hi (wP l).1 o 0 0;have t2:=d69 L i hi hi2 o ho 0;rw[hw]at t;rw[h3]at t2;have w:=qp5 ((l+1:Nat):Int) (rwT L) ((i+1:Nat):Int) ((o+1:Nat):Int) 14 (tkA L i).pos (by omega);exact⟨_,y_in hl (.of4 t t2 w (s3 (wP l).2 [[ic 0,.nil,ic 0,ic 0,sc (strB []),sc (strB []),ic 0]] 0 0 (strB []) (strB []) (tkA L i).pos ((i+1:Nat):Int) o 14 (tkA L i).pos) fun k b1 b2 b3 b4=>by simp only[nt,quY,b1,b2,b3,qvb,ae,ah,af,aj,ak,altC,tup2,tup4,tup6,qoG,zu,wrD o ho];exact b4),.inl ⟨_,qo5,rfl⟩⟩
theorem quQ (h3:(o==30)=false){p e}(h:X L l (i+1) (o+1) (.err p e)):Y L l i o (.err p e):=by
 have t:=d49 L i hi (wP l).1 o 0 0;have t2:=d69 L i hi hi2 o ho 0;rw[hw]at t;rw[h3]at t2;obtain⟨r,h1,⟨a,b,c,d,d',f,i',o',rfl⟩|⟨t',⟨a,R,b,c,d,d',f,i',o',rfl⟩,rfl⟩|⟨t',⟨a,R,b,c,d,d',f,i',o',rfl⟩,rfl⟩⟩:=h
 . exact⟨_,y_in hl (.of4 t t2 h1 (s3 (wP l).2 [[ic a,.nil,ic b,ic c,sc d,sc d',ic f]] 0 0 (strB []) (strB []) (tkA L i).pos i' (IntKind.i64.wrap (o'-1)) e p) fun k b1 b2 b3 b4=>by simp only[nt,quY,b1,b2,b3,qvb,ae,ah,af,aj,ak,altC,tup2,tup4,tup6,qoG,zu];exact b4),.inl ⟨_,qo5,rfl⟩⟩
 . exact⟨_,y_in hl (.of4 t t2 h1 (s3 (wP l).2 [[ic a,.imm (qG R),ic b,ic c,sc d,sc d',ic f]] 0 0 (strB []) (strB []) (tkA L i).pos i' (IntKind.i64.wrap (o'-1)) e p) fun k b1 b2 b3 b4=>by simp only[nt,quY,b1,b2,b3,qvb,ae,ah,af,aj,ak,altC,tup2,tup4,tup6,qoG,zu];exact b4),.inl ⟨_,qo5,rfl⟩⟩
 . exact⟨_,y_in hl (.of4 t t2 h1 (s3 (wP l).2 [[ic a,.imm R,ic b,ic c,sc d,sc d',ic f]] 0 0 (strB []) (strB []) (tkA L i).pos i' (IntKind.i64.wrap (o'-1)) e p) fun k b1 b2 b3 b4=>by simp only[nt,quY,b1,b2,b3,qvb,ae,ah,af,aj,ak,altC,tup2,tup4,tup6,qoG,zu];exact b4),.inl ⟨_,qo5,rfl⟩⟩
theorem y_ok (h3:(o==30)=false)(h:X L l (i+1) (o+1) (.ok x j)):Y L l i o (.ok (una (wP l).2 x (tkA L i).pos) j):=by
 have t:=d49 L i hi (wP l).1 o 0 0;have t2:=d69 L i hi hi2 o ho 0;rw[hw]at t;rw[h3]at t2;obtain⟨r,h1,⟨R,hR,rfl⟩|rfl⟩:=h
 . exact⟨_,y_in hl (.of4 t t2 h1 (s3 (wP l).2 [[ic x.op,.imm (qG R),ic x.n,ic x.scale,sc x.name,sc x.attr,ic x.pos]] 0 0 (strB []) (strB []) (tkA L i).pos j o 0 0) fun k b1 b2 b3 b4=>by simp only[nt,quY,b1,b2,b3,qvb,ae,ah,af,aj,ak,altC,tup2,tup4,tup6,qoG,zu,wrD o ho];exact b4),.inl ⟨_,imm1 (qru hR),rfl⟩⟩
 . exact⟨_,y_in hl (.of4 t t2 h1 (s3 (wP l).2 [[ic x.op,.imm (qg x.args),ic x.n,ic x.scale,sc x.name,sc x.attr,ic x.pos]] 0 0 (strB []) (strB []) (tkA L i).pos j o 0 0) fun k b1 b2 b3 b4=>by simp only[nt,quY,b1,b2,b3,qvb,ae,ah,af,aj,ak,altC,tup2,tup4,tup6,qoG,zu,wrD o ho];exact b4),.inl ⟨_,imm1 (imEx x),rfl⟩⟩
end
def Z (L:List Tok)(i o:Nat)(out:PO):Prop:=∃ r,Goes quY (.e_106 (rwT L) i o 0 0) (K2 r)/\D7 L o out r
theorem qtX {out}(h:Z L i o out):X L 7 i o out:=by
 obtain⟨r,h1,h2⟩:=h;have s:Goes quY (.h0_84 ((7+1:Nat):Int) false 0 0 0 (strB []) (strB []) 0 (rwT L) i o 0 0) (K0 (.inr (.inr r))):=.of1 h1 fun k b=>by simp only[nt,quY,show(((7+1:Nat):Int)==8)=true from rfl,b,qx6,ae,ah,af,aj,ak,altC,tup2,tup4,tup6,qoG,zu]
 refine⟨_,.rec0 s fun k rec=>rfl,?_⟩;cases out with
 |err p e=>exact .inr (.inr ⟨r,h2,rfl⟩)
 |ok x j=>cases h2;exact .inr rfl
theorem z0' (a R b c)(d d':ByteArray)(f c1 c2 c3)(d1 d2:ByteArray)(c4)(i' o' e p):Goes quY (.h0_106 a R b c d d' f c1 c2 c3 d1 d2 c4 (rwT L) i' o' e p) (K2 (a,qG R,b,c,d,d',f,rwT L,i',o',e,p)):=.fin0 fun k rec=>rfl
theorem z1' (a R b c)(d d':ByteArray)(f c1 c2 c3)(d1 d2:ByteArray)(c4)(i' o' e p):Goes quY (.h1_106 a R b c d d' f c1 c2 c3 d1 d2 c4 (rwT L) i' o' e p) (K2 (a,R,b,c,d,d',f,rwT L,i',o',e,p)):=.fin0 fun k rec=>rfl
section
variable (hi:i<L.length) (hi2:i<100000) (ho:o<100) (h3:((tkA L i).kind==3)=false) (h4:((tkA L i).kind==4)=false) (h5:((tkA L i).kind==5)=false) (h2:((tkA L i).kind==2)=false) (hw:isW (tkA L i) (strB [40])=true)
include hi hi2 ho h3 h4 h5 h2 hw
theorem qsO (h:(o==30)=true):Z L i o (.err (tkA L i).pos 14):=by have t1:=d49 L i hi (strB [40]) o 0 0;have t2:=d69 L i hi hi2 o ho 0;rw[hw]at t1;rw[h]at t2;have w:=qp5 1 (rwT L) ((i+1:Nat):Int) ((o+1:Nat):Int) 14 (tkA L i).pos (by omega);have w2:=d71e (strB [41]) (rwT L) ((i+1:Nat):Int) ((o+1:Nat):Int) 14 (tkA L i).pos (by omega);refine⟨(0,qG [],0,0,strB [],strB [],0,rwT L,((i+1:Nat):Int),(o:Int),14,(tkA L i).pos),.of4 ((d50 L i hi o 0 0).and t1) (t2.and w) w2 (z0' (L:=L) 0 [] 0 0 (strB []) (strB []) 0 0 0 0 (strB []) (strB []) 0 ((i+1:Nat):Int) o 14 (tkA L i).pos) fun k b b2 b3 b4=>?_,qo5⟩;obtain⟨b,b1⟩:=Zb b;obtain⟨b2,b5⟩:=Zb b2;simp only[nt,quY,b,b1,b2,b5,b3,h3,h4,h5,h2,qvb,ae,ah,af,aj,ak,altC,tup2,tup4,tup6,qoG,zu,wrD o ho];exact b4
theorem qt1 (h:(o==30)=false){p e}(he:e≠0)(hx:X L 0 (i+1) (o+1) (.err p e)):Z L i o (.err p e):=by
 have t1:=d49 L i hi (strB [40]) o 0 0;have t2:=d69 L i hi hi2 o ho 0;rw[hw]at t1;rw[h]at t2;obtain⟨r,a1,hx⟩:=hx;replace a1:Goes quY (.e_84 1 (rwT L) ((i+1:Nat):Int) ((o+1:Nat):Int) 0 0) _:=a1;rcases hx with⟨a,b,c,d,d',f,i',o',rfl⟩|⟨t',⟨a,R,b,c,d,d',f,i',o',rfl⟩,rfl⟩|⟨t',⟨a,R,b,c,d,d',f,i',o',rfl⟩,rfl⟩
 . refine⟨(a,qG [],b,c,d,d',f,rwT L,i',IntKind.i64.wrap (o'-1),e,p),.of4 ((d50 L i hi o 0 0).and t1) (t2.and a1) (d71e (strB [41]) (rwT L) i' o' e p he) (z0' (L:=L) a [] b c d d' f 0 0 0 (strB []) (strB []) 0 i' (IntKind.i64.wrap (o'-1)) e p) fun k b b2 b3 b4=>?_,qo5⟩;obtain⟨b,b1⟩:=Zb b;obtain⟨b2,b5⟩:=Zb b2;simp only[nt,quY,b,b1,b2,b5,b3,h3,h4,h5,h2,qvb,ae,ah,af,aj,ak,altC,tup2,tup4,tup6,qoG,zu];exact b4
 . refine⟨(a,qG R,b,c,d,d',f,rwT L,i',IntKind.i64.wrap (o'-1),e,p),.of4 ((d50 L i hi o 0 0).and t1) (t2.and a1) (d71e (strB [41]) (rwT L) i' o' e p he) (z0' (L:=L) a R b c d d' f 0 0 0 (strB []) (strB []) 0 i' (IntKind.i64.wrap (o'-1)) e p) fun k b b2 b3 b4=>?_,qo5⟩;obtain⟨b,b1⟩:=Zb b;obtain⟨b2,b5⟩:=Zb b2;simp only[nt,quY,b,b1,b2,b5,b3,h3,h4,h5,h2,qvb,ae,ah,af,aj,ak,altC,tup2,tup4,tup6,qoG,zu];exact b4
 . refine⟨(a,R,b,c,d,d',f,rwT L,i',IntKind.i64.wrap (o'-1),e,p),.of4 ((d50 L i hi o 0 0).and t1) (t2.and a1) (d71e (strB [41]) (rwT L) i' o' e p he) (z1' (L:=L) a R b c d d' f 0 0 0 (strB []) (strB []) 0 i' (IntKind.i64.wrap (o'-1)) e p) fun k b b2 b3 b4=>?_,qo5⟩;obtain⟨b,b1⟩:=Zb b;obtain⟨b2,b5⟩:=Zb b2;simp only[nt,quY,b,b1,b2,b5,b3,h3,h4,h5,h2,qvb,ae,ah,af,aj,ak,altC,tup2,tup4,tup6,qoG,zu];exact b4
theorem quU (h:(o==30)=false)(hj:j<L.length)(hj2:j<100000)(hx:X L 0 (i+1) (o+1) (.ok x j))(h8:isW (tkA L j) (strB [41])=false):Z L i o (.err (tkA L j).pos 13):=by
 have t1:=d49 L i hi (strB [40]) o 0 0;have t2:=d69 L i hi hi2 o ho 0;rw[hw]at t1;rw[h]at t2;have w2:=d71 L j hj hj2 (strB [41]) ((o+1:Nat):Int) 0;rw[h8]at w2;obtain⟨r,a1,hx⟩:=hx;replace a1:Goes quY (.e_84 1 (rwT L) ((i+1:Nat):Int) ((o+1:Nat):Int) 0 0) _:=a1;rcases hx with⟨R,hR,rfl⟩|rfl
 . refine⟨(x.op,qG R,x.n,x.scale,x.name,x.attr,x.pos,rwT L,(j:Int),(o:Int),13,(tkA L j).pos),.of4 ((d50 L i hi o 0 0).and t1) (t2.and a1) (w2) (z0' (L:=L) x.op R x.n x.scale x.name x.attr x.pos 0 0 0 (strB []) (strB []) 0 j o 13 (tkA L j).pos) fun k b b2 b3 b4=>?_,qo5⟩;obtain⟨b,b1⟩:=Zb b;obtain⟨b2,b5⟩:=Zb b2;simp only[nt,quY,b,b1,b2,b5,b3,h3,h4,h5,h2,qvb,ae,ah,af,aj,ak,altC,tup2,tup4,tup6,qoG,zu,wrD o ho];exact b4
 . refine⟨(x.op,qg x.args,x.n,x.scale,x.name,x.attr,x.pos,rwT L,(j:Int),(o:Int),13,(tkA L j).pos),.of4 ((d50 L i hi o 0 0).and t1) (t2.and a1) (w2) (z1' (L:=L) x.op (qg x.args) x.n x.scale x.name x.attr x.pos 0 0 0 (strB []) (strB []) 0 j o 13 (tkA L j).pos) fun k b b2 b3 b4=>?_,qo5⟩;obtain⟨b,b1⟩:=Zb b;obtain⟨b2,b5⟩:=Zb b2;simp only[nt,quY,b,b1,b2,b5,b3,h3,h4,h5,h2,qvb,ae,ah,af,aj,ak,altC,tup2,tup4,tup6,qoG,zu,wrD o ho];exact b4
theorem quV (h:(o==30)=false)(hj:j<L.length)(hj2:j<100000)(hx:X L 0 (i+1) (o+1) (.ok x j))(h8:isW (tkA L j) (strB [41])=true):Z L i o (.ok x (j+1)):=by
 have t1:=d49 L i hi (strB [40]) o 0 0;have t2:=d69 L i hi hi2 o ho 0;rw[hw]at t1;rw[h]at t2;have w2:=d71 L j hj hj2 (strB [41]) ((o+1:Nat):Int) 0;rw[h8]at w2;obtain⟨r,a1,hx⟩:=hx;replace a1:Goes quY (.e_84 1 (rwT L) ((i+1:Nat):Int) ((o+1:Nat):Int) 0 0) _:=a1;rcases hx with⟨R,hR,rfl⟩|rfl
 . refine⟨(x.op,qG R,x.n,x.scale,x.name,x.attr,x.pos,rwT L,((j+1:Nat):Int),(o:Int),0,0),.of4 ((d50 L i hi o 0 0).and t1) (t2.and a1) (w2) (z0' (L:=L) x.op R x.n x.scale x.name x.attr x.pos 0 0 0 (strB []) (strB []) 0 ((j+1:Nat):Int) o 0 0) fun k b b2 b3 b4=>?_,(by rw[hR];rfl)⟩;obtain⟨b,b1⟩:=Zb b;obtain⟨b2,b5⟩:=Zb b2;simp only[nt,quY,b,b1,b2,b5,b3,h3,h4,h5,h2,qvb,ae,ah,af,aj,ak,altC,tup2,tup4,tup6,qoG,zu,wrD o ho];exact b4
 . refine⟨(x.op,qg x.args,x.n,x.scale,x.name,x.attr,x.pos,rwT L,((j+1:Nat):Int),(o:Int),0,0),.of4 ((d50 L i hi o 0 0).and t1) (t2.and a1) (w2) (z1' (L:=L) x.op (qg x.args) x.n x.scale x.name x.attr x.pos 0 0 0 (strB []) (strB []) 0 ((j+1:Nat):Int) o 0 0) fun k b b2 b3 b4=>?_,rfl⟩;obtain⟨b,b1⟩:=Zb b;obtain⟨b2,b5⟩:=Zb b2;simp only[nt,quY,b,b1,b2,b5,b3,h3,h4,h5,h2,qvb,ae,ah,af,aj,ak,altC,tup2,tup4,tup6,qoG,zu,wrD o ho];exact b4
end
end
end Ab
end Go.Proofs.YtgfbbmjoflehlaaGreatDoor
