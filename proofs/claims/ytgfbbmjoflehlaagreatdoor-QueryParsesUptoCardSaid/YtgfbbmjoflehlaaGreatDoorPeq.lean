/-
  Leaves, words, and the whole parser.
-/
import Derived.Test.YtgfbbmjoflehlaaGreatDoorPdq
set_option linter.all false
namespace Go.Proofs.YtgfbbmjoflehlaaGreatDoor
namespace Ab
section
variable [vo] {L:List Tok} {i o:Nat}
def W8 (L:List Tok)(i o:Nat)(out:PO):Prop:=∃ r,Goes quZ (.e_155 (tkA L i).kind (tkA L i).text (tkA L i).n (tkA L i).scale (tkA L i).pos (rwT L) i o) (J8 r)/\T2o L o out r
theorem qmT (hi:i<100000)(h:((tkA L i).text.toList==(strB [84,82,85,69]).toList)=true):W8 L i o (.ok (lit 22 1 0 (strB []) (strB []) (tkA L i).pos) (i+1)):=by
 have s1:Goes quZ (.h3_155 22 [] 1 0 (strB []) (strB []) (tkA L i).pos (rwT L) ((i+1:Nat):Int) o) (J8 (.inr (tp (lit 22 1 0 (strB []) (strB []) (tkA L i).pos) [] L (i+1) o))):=.fin0 fun k rec=>rfl;have s2:Goes quZ (.h1_155 1 0 0 0 (strB []) (strB []) 0 (tkA L i).kind (tkA L i).text (tkA L i).n (tkA L i).scale (tkA L i).pos (rwT L) ((i+1:Nat):Int) o) (J8 (.inr (tp (lit 22 1 0 (strB []) (strB []) (tkA L i).pos) [] L (i+1) o))):=.rec0 s1 fun k rec=>rfl;have s3:Goes quZ (.h0_155 (tkA L i).text true 0 0 0 (strB []) (strB []) 0 (tkA L i).kind (tkA L i).text (tkA L i).n (tkA L i).scale (tkA L i).pos (rwT L) i o) (J8 (.inr (tp (lit 22 1 0 (strB []) (strB []) (tkA L i).pos) [] L (i+1) o))):=.rec0 s2 fun k rec=>by simp only[nt,quZ,ah,af,h,zq i (by omega)]
 exact⟨_,.rec0 s3 fun k rec=>by simp only[nt,quZ,h,ah],[],rfl,rfl⟩
theorem qkZ (hi:i<100000)(h0:((tkA L i).text.toList==(strB [84,82,85,69]).toList)=false)(h:((tkA L i).text.toList==(strB [70,65,76,83,69]).toList)=true):W8 L i o (.ok (lit 22 0 0 (strB []) (strB []) (tkA L i).pos) (i+1)):=by
 have s1:Goes quZ (.h3_155 22 [] 0 0 (strB []) (strB []) (tkA L i).pos (rwT L) ((i+1:Nat):Int) o) (J8 (.inr (tp (lit 22 0 0 (strB []) (strB []) (tkA L i).pos) [] L (i+1) o))):=.fin0 fun k rec=>rfl;have s2:Goes quZ (.h1_155 0 0 0 0 (strB []) (strB []) 0 (tkA L i).kind (tkA L i).text (tkA L i).n (tkA L i).scale (tkA L i).pos (rwT L) ((i+1:Nat):Int) o) (J8 (.inr (tp (lit 22 0 0 (strB []) (strB []) (tkA L i).pos) [] L (i+1) o))):=.rec0 s1 fun k rec=>rfl;have s3:Goes quZ (.h0_155 (tkA L i).text true 0 0 0 (strB []) (strB []) 0 (tkA L i).kind (tkA L i).text (tkA L i).n (tkA L i).scale (tkA L i).pos (rwT L) i o) (J8 (.inr (tp (lit 22 0 0 (strB []) (strB []) (tkA L i).pos) [] L (i+1) o))):=.rec0 s2 fun k rec=>by simp only[nt,quZ,ah,af,h0,zq i (by omega)]
 exact⟨_,.rec0 s3 fun k rec=>by simp only[nt,quZ,h,h0,af],[],rfl,rfl⟩
theorem w_in {r}(h0:((tkA L i).text.toList==(strB [84,82,85,69]).toList)=false)(h1:((tkA L i).text.toList==(strB [70,65,76,83,69]).toList)=false)(h:Goes quZ (.h2_155 ((tkA L i).text.toList==(strB [82,69,65,76]).toList||(tkA L i).text.toList==(strB [73,83,78,65,78]).toList) 0 0 0 (strB []) (strB []) 0 (tkA L i).kind (tkA L i).text (tkA L i).n (tkA L i).scale (tkA L i).pos (rwT L) i o) r):
  Goes quZ (.e_155 (tkA L i).kind (tkA L i).text (tkA L i).n (tkA L i).scale (tkA L i).pos (rwT L) i o) r:=by
 have s:Goes quZ (.h0_155 (tkA L i).text false 0 0 0 (strB []) (strB []) 0 (tkA L i).kind (tkA L i).text (tkA L i).n (tkA L i).scale (tkA L i).pos (rwT L) i o) r:=.rec0 h fun k rec=>by simp only[nt,quZ,af];cases (tkA L i).text.toList==(strB [82,69,65,76]).toList<;>rfl
 exact .rec0 s fun k rec=>by simp only[nt,quZ,h0,h1,af]
theorem qog (hi:i<90000)(h0:((tkA L i).text.toList==(strB [84,82,85,69]).toList)=false)(h1:((tkA L i).text.toList==(strB [70,65,76,83,69]).toList)=false)(h2:((tkA L i).text.toList==(strB [82,69,65,76]).toList||(tkA L i).text.toList==(strB [73,83,78,65,78]).toList)=false):W8 L i o (agO L i (tkA L i).text):=by
 obtain⟨r,a1,a2⟩:=qCq L i o hi (tkA L i).kind (tkA L i).text (tkA L i).n (tkA L i).scale;have ga:∀ x j,agO L i (tkA L i).text=.ok x j->x.args=[]:=by
  intro x j h;unfold agO at h;split at h
  . cases h
  . exact qhA h
 generalize agO L i (tkA L i).text=out at a2 ga |-;cases out with
 |err p z=>obtain⟨j,rfl⟩:=a2;refine⟨.inl (te p z L j o),w_in h0 h1 ?_,j,o,rfl⟩;rw[h2];exact .of1 a1 fun k b=>by simp only[nt,quZ,b,ae,altC,tup2,tup4,tup5,tup8,ql,ah,af,aj,ak]
 |ok x j=>cases a2;have e:=ga x j rfl;have s:Goes quZ (.h5_155 x.op [] x.n x.scale x.name x.attr x.pos (rwT L) j o) (J8 (.inr (tp x [] L j o))):=.fin0 fun k rec=>rfl;refine⟨_,w_in h0 h1 ?_,[],by rw[e];rfl,rfl⟩;rw[h2];exact .of2 a1 s fun k b b2=>by simp only[nt,quZ,b,ae,altC,tup2,tup4,tup5,tup8,ql,ah,af,aj,ak];exact b2
section
variable (hi:i<100000) (ho:o<100) (h0:((tkA L i).text.toList==(strB [84,82,85,69]).toList)=false) (h1:((tkA L i).text.toList==(strB [70,65,76,83,69]).toList)=false)
  (h2:((tkA L i).text.toList==(strB [82,69,65,76]).toList||(tkA L i).text.toList==(strB [73,83,78,65,78]).toList)=true)
include hi ho h0 h1 h2
theorem qkq (h3:(o==30)=true):W8 L i o (.err (tkA L i).pos 14):=by have t2:=qvj L i o hi ho;rw[h3]at t2;refine⟨.inl (te (tkA L i).pos 14 L i o),w_in h0 h1 ?_,i,o,rfl⟩;rw[h2];exact .of1 t2 fun k b=>by simp only[nt,quZ,b,ae,altC,tup2,tup4,tup5,tup8,ql,ah,af,aj,ak]
theorem qnQ (h3:(o==30)=false)(h4:isW (tkA L (i+1)) (strB [40])=false):W8 L i o (.err (tkA L (i+1)).pos 13):=by have t2:=qvj L i o hi ho;rw[h3]at t2;have t3:=qvw L (i+1) (o+1) (strB [40]) (by omega);rw[h4]at t3;refine⟨.inl (te (tkA L (i+1)).pos 13 L ((i+1:Nat):Int) ((o+1:Nat):Int)),w_in h0 h1 ?_,_,_,rfl⟩;rw[h2];exact .of2 t2 t3 fun k b b2=>by simp only[nt,quZ,b,b2,ae,altC,tup2,tup4,tup5,tup8,ql,ah,af,aj,ak]
theorem qnF (h3:(o==30)=false)(h4:isW (tkA L (i+1)) (strB [40])=true){p z}(h:W0 L (i+2) (o+1) (.err p z)):W8 L i o (.err p z):=by have t2:=qvj L i o hi ho;rw[h3]at t2;have t3:=qvw L (i+1) (o+1) (strB [40]) (by omega);rw[h4]at t3;obtain⟨r,h5,u,v,rfl⟩:=h;refine⟨.inl (te p z L u v),w_in h0 h1 ?_,u,v,rfl⟩;rw[h2];exact .of3 t2 t3 h5 fun k b b2 b3=>by simp only[nt,quZ,b,b2,b3,qwB,ae,altC,tup2,tup4,tup5,tup8,ql,ah,af,aj,ak]
theorem w_no (h3:(o==30)=false)(h4:isW (tkA L (i+1)) (strB [40])=true){x j}(hj:j<100000)(h:W0 L (i+2) (o+1) (.ok x j))(h5:isW (tkA L j) (strB [41])=false):W8 L i o (.err (tkA L j).pos 13):=by have t2:=qvj L i o hi ho;rw[h3]at t2;have t3:=qvw L (i+1) (o+1) (strB [40]) (by omega);rw[h4]at t3;have t4:=qvw L j (o+1) (strB [41]) (by omega);rw[h5]at t4;obtain⟨r,h6,rfl⟩:=h;refine⟨.inl (te (tkA L j).pos 13 L j ((o+1:Nat):Int)),w_in h0 h1 ?_,_,_,rfl⟩;rw[h2];exact .of4 t2 t3 h6 t4 fun k b b2 b3 b4=>by simp only[nt,quZ,b,b2,b3,b4,qwB,ae,altC,tup2,tup4,tup5,tup8,ql,ah,af,aj,ak]
theorem w_ok (h3:(o==30)=false)(h4:isW (tkA L (i+1)) (strB [40])=true){x j}(hj:j<100000)(h:W0 L (i+2) (o+1) (.ok x j))(h5:isW (tkA L j) (strB [41])=true):
  W8 L i o (.ok (una (bif (tkA L i).text.toList==(strB [73,83,78,65,78]).toList then 17 else 16) x (tkA L i).pos) (j+1)):=by
 have t2:=qvj L i o hi ho;rw[h3]at t2;have t3:=qvw L (i+1) (o+1) (strB [40]) (by omega);rw[h4]at t3;have t4:=qvw L j (o+1) (strB [41]) (by omega);rw[h5]at t4;obtain⟨r,h6,rfl⟩:=h;have s:∀ (q:Int) (R:Rs),Goes quZ (.h4_155 q R 0 0 (strB []) (strB []) (tkA L i).pos (rwT L) ((j+1:Nat):Int) o) (J8 (.inr (q,R,0,0,strB [],strB [],(tkA L i).pos,rwT L,((j+1:Nat):Int),(o:Int)))):=fun q R=>.fin0 fun k rec=>rfl;have t34:=t3.and (Tot.and h6 t4);refine⟨_,w_in h0 h1 ?_,_,imm1 (imEx x),rfl⟩;rw[h2];refine .of3 t2 t34 (s (bif (tkA L i).text.toList==(strB [73,83,78,65,78]).toList then 17 else 16) [[ic x.op,.imm (qg x.args),ic x.n,ic x.scale,sc x.name,sc x.attr,ic x.pos]]) fun k b b2 b5=>?_;obtain⟨b2,b34⟩:=Zb b2;obtain⟨b3,b4⟩:=Zb b34;simp only[nt,quZ,b,b2,b3,b4,qwB,ae,altC,tup2,tup4,tup5,tup8,ql,ah,af,aj,ak,wrD o ho];cases hb:(tkA L i).text.toList==(strB [73,83,78,65,78]).toList with
 |true=>rw[hb]at b5;exact b5
 |false=>rw[hb]at b5;exact b5
end
theorem qbp (h3:((tkA L i).kind==3)=false)(h4:((tkA L i).kind==4)=false)(h5:((tkA L i).kind==5)=false)(h2:((tkA L i).kind==2)=false)(h6:((tkA L i).kind==6)=false)(h1:((tkA L i).kind==1)=true){out}(h:W8 L i o out):W7 L i o out:=by
 have t:=qsC L i o;obtain⟨r,a1,a2⟩:=h;cases out with
 |err p z=>obtain⟨u,v,rfl⟩:=a2;exact⟨.inl (te p z L u v),.of2 t a1 fun k b b2=>by simp only[nt,quZ,b,ae,altC,tup6,tup5,ql,ah,af,h3,h4,h5,h2,h6,h1,b2,qxl],u,v,rfl⟩
 |ok x j=>obtain⟨R,hR,rfl⟩:=a2;have s:Goes quZ (.h6_151 x.op R x.n x.scale x.name x.attr x.pos (rwT L) j o) (J7 (.inr (.inr (tp x R L j o)))):=.fin0 fun k rec=>rfl;exact⟨_,.of3 t a1 s fun k b b2 b3=>by simp only[nt,quZ,b,ae,altC,tup6,tup5,ql,ah,af,h3,h4,h5,h2,h6,h1,b2,qxl];exact b3,.inr ⟨R,hR,rfl⟩⟩
section
variable (hi:i<100000) (ho:o<100) (h3:((tkA L i).kind==3)=false) (h4:((tkA L i).kind==4)=false) (h5:((tkA L i).kind==5)=false) (h2:((tkA L i).kind==2)=false) (h6:((tkA L i).kind==6)=true) (h7:((tkA L i).text.toList==(strB [40]).toList)=true)
include hi ho h3 h4 h5 h2 h6 h7
theorem qlR (h:(o==30)=true):W7 L i o (.err (tkA L i).pos 14):=by have t2:=qvj L i o hi ho;rw[h]at t2;exact⟨.inl (te (tkA L i).pos 14 L i o),.of2 (qsC L i o) t2 fun k b b2=>by simp only[nt,quZ,b,ae,altC,tup6,tup2,tup4,tup5,ql,ah,af,aj,ak,h3,h4,h5,h2,h6,h7,b2],_,_,rfl⟩
theorem qnw (h:(o==30)=false){p z}(hw:W0 L (i+1) (o+1) (.err p z)):W7 L i o (.err p z):=by have t2:=qvj L i o hi ho;rw[h]at t2;obtain⟨r,a1,u,v,rfl⟩:=hw;exact⟨.inl (te p z L u v),.of3 (qsC L i o) t2 a1 fun k b b2 b3=>by simp only[nt,quZ,b,ae,altC,tup6,tup2,tup4,tup5,ql,ah,af,aj,ak,h3,h4,h5,h2,h6,h7,b2,b3,qwB],_,_,rfl⟩
theorem l_no (h:(o==30)=false){x j}(hj:j<100000)(hw:W0 L (i+1) (o+1) (.ok x j))(h8:isW (tkA L j) (strB [41])=false):W7 L i o (.err (tkA L j).pos 13):=by have t2:=qvj L i o hi ho;rw[h]at t2;have t4:=qvw L j (o+1) (strB [41]) (by omega);rw[h8]at t4;obtain⟨r,a1,rfl⟩:=hw;exact⟨.inl (te (tkA L j).pos 13 L j ((o+1:Nat):Int)),.of4 (qsC L i o) t2 a1 t4 fun k b b2 b3 b4=>by simp only[nt,quZ,b,ae,altC,tup6,tup2,tup4,tup5,ql,ah,af,aj,ak,h3,h4,h5,h2,h6,h7,b2,b3,b4,qwB],_,_,rfl⟩
theorem l_ok (h:(o==30)=false){x j}(hj:j<100000)(hw:W0 L (i+1) (o+1) (.ok x j))(h8:isW (tkA L j) (strB [41])=true):W7 L i o (.ok x (j+1)):=by have t2:=qvj L i o hi ho;rw[h]at t2;have t4:=qvw L j (o+1) (strB [41]) (by omega);rw[h8]at t4;obtain⟨r,a1,rfl⟩:=hw;have s:Goes quZ (.h4_151 x.op (qg x.args) x.n x.scale x.name x.attr x.pos (rwT L) ((j+1:Nat):Int) o) (J7 (.inr (.inl (tp x (qg x.args) L (j+1) o)))):=.fin0 fun k rec=>rfl;refine⟨_,.of4 ((qsC L i o).and t2) a1 t4 s fun k b b3 b4 b5=>?_,.inl rfl⟩;obtain⟨b,b2⟩:=Zb b;simp only[nt,quZ,b,ae,altC,tup6,tup2,tup4,tup5,ql,ah,af,aj,ak,h3,h4,h5,h2,h6,h7,b2,b3,b4,qwB,wrD o ho];exact b5
end
theorem qns (hi:i<90000){out}(h:vD L i=.con out):W7 L i o out:=by
 have t:=qsC L i o;unfold vD at h;simp only at h;have wr:=zq i (by omega);cases h3:(tkA L i).kind==3 with
 |true=>rw[h3]at h;cases h;have s:Goes quZ (.h0_151 20 [] (tkA L i).n 0 (strB []) (strB []) (tkA L i).pos (rwT L) ((i+1:Nat):Int) o) (J7 (.inr (.inl (tp (lit 20 (tkA L i).n 0 (strB []) (strB []) (tkA L i).pos) [] L (i+1) o)))):=.fin0 fun k rec=>rfl;exact⟨_,.of2 t s fun k b b2=>by simp only[nt,quZ,b,ae,altC,tup6,tup2,tup4,tup5,ql,ah,af,aj,ak,h3,wr];exact b2,.inl rfl⟩
 |false=>
 cases h4:(tkA L i).kind==4 with
 |true=>rw[h3,h4]at h;cases h;have s:Goes quZ (.h1_151 21 [] (tkA L i).n (tkA L i).scale (strB []) (strB []) (tkA L i).pos (rwT L) ((i+1:Nat):Int) o) (J7 (.inr (.inl (tp (lit 21 (tkA L i).n (tkA L i).scale (strB []) (strB []) (tkA L i).pos) [] L (i+1) o)))):=.fin0 fun k rec=>rfl;exact⟨_,.of2 t s fun k b b2=>by simp only[nt,quZ,b,ae,altC,tup6,tup2,tup4,tup5,ql,ah,af,aj,ak,h3,h4,wr];exact b2,.inl rfl⟩
 |false=>
 cases h5:(tkA L i).kind==5 with
 |true=>rw[h3,h4,h5]at h;cases h;have s:Goes quZ (.h2_151 23 [] 0 0 (tkA L i).text (strB []) (tkA L i).pos (rwT L) ((i+1:Nat):Int) o) (J7 (.inr (.inl (tp (lit 23 0 0 (tkA L i).text (strB []) (tkA L i).pos) [] L (i+1) o)))):=.fin0 fun k rec=>rfl;exact⟨_,.of2 t s fun k b b2=>by simp only[nt,quZ,b,ae,altC,tup6,tup2,tup4,tup5,ql,ah,af,aj,ak,h3,h4,h5,wr];exact b2,.inl rfl⟩
 |false=>
 have bad:Goes quZ (.h5_151 (tkA L i).kind (tkA L i).text (tkA L i).n (tkA L i).scale (tkA L i).pos 0 0 0 (strB []) (strB []) 0 (rwT L) i o) (J7 (.inl (te (tkA L i).pos 13 L i o))):=.fin0 fun k rec=>rfl;cases h2:(tkA L i).kind==2 with
 |true=>
  rw[h3,h4,h5,h2]at h;simp only[ah,af]at h;obtain⟨r,a1,a2⟩:=qzo L i o (by omega);unfold R153of at a2;split at h
  . rename_i p hp;cases h;rw[hp]at a2;obtain⟨j,rfl⟩:=a2;exact⟨.inl (te p 13 L j o),.of2 t a1 fun k b b2=>by simp only[nt,quZ,b,ae,altC,tup6,tup2,tup4,tup5,ql,ah,af,aj,ak,h3,h4,h5,h2,b2],_,_,rfl⟩
  . rename_i a c hp;cases h;rw[hp]at a2;cases a2;have s:Goes quZ (.h3_151 24 [] 0 0 a c (tkA L i).pos (rwT L) ((i+3:Nat):Int) o) (J7 (.inr (.inl (tp (lit 24 0 0 a c (tkA L i).pos) [] L (i+3) o)))):=.fin0 fun k rec=>rfl;exact⟨_,.of3 t a1 s fun k b b2 b3=>by simp only[nt,quZ,b,ae,altC,tup6,tup2,tup4,tup5,ql,ah,af,aj,ak,h3,h4,h5,h2,b2];exact b3,.inl rfl⟩
 |false=>
 cases h6:(tkA L i).kind==6 with
 |true=>
  rw[h3,h4,h5,h2,h6]at h;simp only[ah,af]at h;cases h7:(tkA L i).text.toList==(strB [40]).toList with
  |true=>grind
  |false=>rw[h7]at h;cases h;exact⟨_,.of2 t bad fun k b b2=>by simp only[nt,quZ,b,ae,altC,tup6,tup2,tup4,tup5,ql,ah,af,aj,ak,h3,h4,h5,h2,h6,h7];exact b2,_,_,rfl⟩
 |false=>
 cases h1:(tkA L i).kind==1 with
 |false=>rw[h3,h4,h5,h2,h6,h1]at h;cases h;exact⟨_,.of2 t bad fun k b b2=>by simp only[nt,quZ,b,ae,altC,tup6,tup2,tup4,tup5,ql,ah,af,aj,ak,h3,h4,h5,h2,h6,h1];exact b2,_,_,rfl⟩
 |true=>
  rw[h3,h4,h5,h2,h6,h1]at h;simp only[ah,af]at h;refine qbp h3 h4 h5 h2 h6 h1 ?_;cases w0:(tkA L i).text.toList==(strB [84,82,85,69]).toList with
  |true=>rw[w0]at h;cases h;exact qmT (by omega) w0
  |false=>
  cases w1:(tkA L i).text.toList==(strB [70,65,76,83,69]).toList with
  |true=>rw[w0,w1]at h;cases h;exact qkZ (by omega) w0 w1
  |false=>
  cases w2:(tkA L i).text.toList==(strB [82,69,65,76]).toList||(tkA L i).text.toList==(strB [73,83,78,65,78]).toList with
  |true=>grind
  |false=>
   rw[w0,w1,w2]at h;simp only[af]at h;have:=qog (o:=o) hi w0 w1 w2
   grind
theorem qoh (hi:i<90000)(ho:o<100){p}(h:vD L i=.ner p):((o==30)=true->W7 L i o (.err (tkA L i).pos 14))/\((o==30)=false->W7 L i o (.err p 13)):=by
 unfold vD at h;simp only at h;cases h3:(tkA L i).kind==3 with
 |true=>grind
 |false=>
 cases h4:(tkA L i).kind==4 with
 |true=>grind
 |false=>
 cases h5:(tkA L i).kind==5 with
 |true=>grind
 |false=>
 cases h2:(tkA L i).kind==2 with
 |true=>grind
 |false=>
 cases h6:(tkA L i).kind==6 with
 |true=>grind
 |false=>
 cases h1:(tkA L i).kind==1 with
 |false=>grind
 |true=>
  rw[h3,h4,h5,h2,h6,h1]at h;simp only[ah,af]at h;cases w0:(tkA L i).text.toList==(strB [84,82,85,69]).toList with
  |true=>grind
  |false=>
  cases w1:(tkA L i).text.toList==(strB [70,65,76,83,69]).toList with
  |true=>grind
  |false=>
  cases w2:(tkA L i).text.toList==(strB [82,69,65,76]).toList||(tkA L i).text.toList==(strB [73,83,78,65,78]).toList with
  |true=>
   rw[w0,w1,w2]at h;simp only[ah,af]at h;cases w3:isW (tkA L (i+1)) (strB [40])with
   |true=>grind
   |false=>rw[w3]at h;cases h;exact⟨fun hd=>qbp h3 h4 h5 h2 h6 h1 (qkq (by omega) ho w0 w1 w2 hd),fun hd=>qbp h3 h4 h5 h2 h6 h1 (qnQ (by omega) ho w0 w1 w2 hd w3)⟩
  |false=>grind
theorem qnN (hi:i<90000)(ho:o<100){d f}(h:vD L i=.brk d f):((o==30)=true->W7 L i o (.err (tkA L i).pos 14))/\((o==30)=false->∀ out,W0 L (i+d) (o+1) out->match out with
  |.err p z=>W7 L i o (.err p z)
  |.ok x j=>j<100000->(isW (tkA L j) (strB [41])=false->W7 L i o (.err (tkA L j).pos 13))/\(isW (tkA L j) (strB [41])=true->W7 L i o (.ok (f x) (j+1)))):=by
 unfold vD at h;simp only at h;cases h3:(tkA L i).kind==3 with
 |true=>grind
 |false=>
 cases h4:(tkA L i).kind==4 with
 |true=>grind
 |false=>
 cases h5:(tkA L i).kind==5 with
 |true=>grind
 |false=>
 cases h2:(tkA L i).kind==2 with
 |true=>grind
 |false=>
 cases h6:(tkA L i).kind==6 with
 |true=>
  rw[h3,h4,h5,h2,h6]at h;simp only[ah,af]at h;cases h7:(tkA L i).text.toList==(strB [40]).toList with
  |false=>grind
  |true=>
   rw[h7]at h;cases h;refine⟨fun hd=>qlR (by omega) ho h3 h4 h5 h2 h6 h7 hd,fun hd out hw=>?_⟩;cases out with
   |err p z=>exact qnw (by omega) ho h3 h4 h5 h2 h6 h7 hd hw
   |ok x j=>exact fun hj=>⟨fun h8=>l_no (by omega) ho h3 h4 h5 h2 h6 h7 hd hj hw h8,fun h8=>l_ok (by omega) ho h3 h4 h5 h2 h6 h7 hd hj hw h8⟩
 |false=>
 cases h1:(tkA L i).kind==1 with
 |false=>grind
 |true=>
  rw[h3,h4,h5,h2,h6,h1]at h;simp only[ah,af]at h;cases w0:(tkA L i).text.toList==(strB [84,82,85,69]).toList with
  |true=>grind
  |false=>
  cases w1:(tkA L i).text.toList==(strB [70,65,76,83,69]).toList with
  |true=>grind
  |false=>
  cases w2:(tkA L i).text.toList==(strB [82,69,65,76]).toList||(tkA L i).text.toList==(strB [73,83,78,65,78]).toList with
  |true=>
   rw[w0,w1,w2]at h;simp only[ah,af]at h;cases w3:isW (tkA L (i+1)) (strB [40])with
   |false=>grind
   |true=>
    rw[w3]at h;cases h;refine⟨fun hd=>qbp h3 h4 h5 h2 h6 h1 (qkq (by omega) ho w0 w1 w2 hd),fun hd out hw=>?_⟩;cases out with
    |err p z=>exact qbp h3 h4 h5 h2 h6 h1 (qnF (by omega) ho w0 w1 w2 hd w3 hw)
    |ok x j=>exact fun hj=>⟨fun h8=>qbp h3 h4 h5 h2 h6 h1 (w_no (by omega) ho w0 w1 w2 hd w3 hj hw h8),fun h8=>qbp h3 h4 h5 h2 h6 h1 (w_ok (by omega) ho w0 w1 w2 hd w3 hj hw h8)⟩
  |false=>grind
def WL (L:List Tok)(l i o:Nat)(out:PO):Prop:=match l with
 |0=>W0 L i o out|1=>W1 L i o out|2=>W2 L i o out|3=>W3 L i o out|4=>W4 L i o out|5=>W5 L i o out|6=>W6 L i o out|7=>W7 L i o out
 |_=>True
def VL (L:List Tok)(l:Nat)(x:Ex)(i o:Nat)(out:PO):Prop:=match l with
 |0=>V0 L x i o out|1=>V1 L x i o out|4=>V4 L x i o out|5=>V5 L x i o out
 |_=>True
theorem pw (hL:Lm L<5000):∀ n,(∀ l i o out,l<=7->i<=Lm L->o<=30->pp L n (.p l i o)=some out->WL L l i o out)/\∀ l x i o out,l=0\/l=1\/l=4\/l=5->i<=Lm L->o<=30->pp L n (.lp l x i o)=some out->VL L l x i o out
 |0=>⟨fun _ _ _ _ _ _ _ h=>(by cases h),fun _ _ _ _ _ _ _ _ h=>(by cases h)⟩
 |n+1=>by
  obtain⟨ih,ihl⟩:=pw hL n;have hin:=qeh L n;have deep:∀ o:Nat,o<=30->(o==30)=false->o+1<=30:=fun o h1 h2=>by grind
  refine⟨fun l i o out hl hi ho h=>?_,fun l x i o out hl hi ho h=>?_⟩
  .
   match l,hl with
   |0,_=>
    rw[pp0]at h;rcases ZV h with⟨p,z,h1,rfl⟩|⟨x,j,h1,h2⟩
    . exact ue0 (ih 1 i o _ (by omega) hi ho h1)
    . have hj:=hin.1 _ _ _ _ _ (by omega) h1;exact uk0 (ih 1 i o _ (by omega) hi ho h1) (ihl 0 _ _ _ _ (.inl rfl) hj.2 ho h2)
   |1,_=>
    rw[pp1]at h;rcases ZV h with⟨p,z,h1,rfl⟩|⟨x,j,h1,h2⟩
    . exact ue1 (ih 2 i o _ (by omega) hi ho h1)
    . have hj:=hin.1 _ _ _ _ _ (by omega) h1;exact uk1 (ih 2 i o _ (by omega) hi ho h1) (ihl 1 _ _ _ _ (.inr (.inl rfl)) hj.2 ho h2)
   |4,_=>
    rw[pp4]at h;rcases ZV h with⟨p,z,h1,rfl⟩|⟨x,j,h1,h2⟩
    . exact ue4 (ih 5 i o _ (by omega) hi ho h1)
    . have hj:=hin.1 _ _ _ _ _ (by omega) h1;exact uk4 (ih 5 i o _ (by omega) hi ho h1) (ihl 4 _ _ _ _ (.inr (.inr (.inl rfl))) hj.2 ho h2)
   |5,_=>
    rw[pp5]at h;rcases ZV h with⟨p,z,h1,rfl⟩|⟨x,j,h1,h2⟩
    . exact ue5 (ih 6 i o _ (by omega) hi ho h1)
    . have hj:=hin.1 _ _ _ _ _ (by omega) h1;exact uk5 (ih 6 i o _ (by omega) hi ho h1) (ihl 5 _ _ _ _ (.inr (.inr (.inr rfl))) hj.2 ho h2)
   |3,_=>
    rw[pp3]at h;rcases ZV h with⟨p,z,h1,rfl⟩|⟨x,j,h1,h2⟩
    . exact ce (ih 4 i o _ (by omega) hi ho h1)
    .
     have hj:=hin.1 _ _ _ _ _ (by omega) h1;have a:=ih 4 i o _ (by omega) hi ho h1;cases hb:opA 3 (tkA L j)!=0 with
     |false=>rw[hb]at h2;cases h2;exact c0 a hb
     |true=>
      rw[hb]at h2;have hj2:=qfb (L:=L) (i:=j) (l:=3) (by grind);rcases ZV h2 with⟨p,z,h3,rfl⟩|⟨y,q,h3,h4⟩
      . exact c1 (by omega) a hb (ih 4 (j+1) o _ (by omega) (by omega) ho h3)
      . cases h4;exact c2 (by omega) a hb (ih 4 (j+1) o _ (by omega) (by omega) ho h3)
   |2,_=>
    rw[pp2]at h;unfold unF nst at h;cases hw:isW (tkA L i) (strB [78,79,84])with
    |false=>rw[hw]at h;exact qnk hw (ih 3 i o _ (by omega) hi ho h)
    |true=>
     rw[hw]at h;have hi2:=Zv hw;cases hb:o==30 with
     |true=>rw[hb]at h;cases h;exact qkN hw (by omega) (by omega) hb
     |false=>
      rw[hb]at h;rcases ZV h with⟨p,z,h1,rfl⟩|⟨x,j,h1,h2⟩
      . exact qm8 hw (by omega) (by omega) hb (ih 2 (i+1) _ _ (by omega) (by omega) (deep o ho hb) h1)
      . cases h2;exact qnh hw (by omega) (by omega) hb (ih 2 (i+1) _ _ (by omega) (by omega) (deep o ho hb) h1)
   |6,_=>
    rw[pp6]at h;unfold unF nst at h;cases hw:isW (tkA L i) (strB [45])with
    |false=>rw[hw]at h;exact qnM hw (ih 7 i o _ (by omega) hi ho h)
    |true=>
     rw[hw]at h;have hi2:=Zv hw;cases hb:o==30 with
     |true=>rw[hb]at h;cases h;exact qkL hw (by omega) (by omega) hb
     |false=>
      rw[hb]at h;rcases ZV h with⟨p,z,h1,rfl⟩|⟨x,j,h1,h2⟩
      . exact qmy hw (by omega) (by omega) hb (ih 6 (i+1) _ _ (by omega) (by omega) (deep o ho hb) h1)
      . cases h2;exact qnL hw (by omega) (by omega) hb (ih 6 (i+1) _ _ (by omega) (by omega) (deep o ho hb) h1)
   |7,_=>
    rw[pp7]at h;unfold Qm nst at h;split at h
    . rename_i hk;cases h;by_cases hi2:i<90000
      . exact qns hi2 hk
      . omega
    . rename_i p hk;have a:=qoh (o:=o) (by omega) (by omega) hk;cases hb:o==30 with
      |true=>rw[hb]at h;cases h;exact a.1 hb
      |false=>rw[hb]at h;cases h;exact a.2 hb
    .
     rename_i d f hk;have hd:=(xU.2 _ _ hk).1;have a:=qnN (o:=o) (by omega) (by omega) hk;cases hb:o==30 with
     |true=>rw[hb]at h;cases h;exact a.1 hb
     |false=>
      rw[hb]at h;rcases ZV h with⟨p,z,h1,rfl⟩|⟨x,j,h1,h2⟩
      . exact a.2 hb _ (ih 0 _ _ _ (by omega) (by omega) (deep o ho hb) h1)
      . have hj:=hin.1 _ _ _ _ _ (by omega) h1;have b:=a.2 hb _ (ih 0 _ _ _ (by omega) (by omega) (deep o ho hb) h1) (by omega);unfold clo at h2;cases hc:isW (tkA L j) (strB [41])with
        |false=>rw[hc]at h2;cases h2;exact b.1 hc
        |true=>rw[hc]at h2;cases h2;exact b.2 hc
  .
   rw[ppl]at h;cases hb:opA l (tkA L i)==0 with
   |true=>
    rw[hb]at h;cases h;rcases hl with rfl|rfl|rfl|rfl
    . exact lf0 hb
    . exact lf1 hb
    . exact lf4 hb
    . exact lf5 hb
   |false=>
    rw[hb]at h;have hi2:=qfb hb;rcases ZV h with⟨p,z,h1,rfl⟩|⟨y,q,h1,h2⟩
    . rcases hl with rfl|rfl|rfl|rfl
      . exact le0 (by omega) hb (ih 1 (i+1) o _ (by omega) (by omega) ho h1)
      . exact le1 (by omega) hb (ih 2 (i+1) o _ (by omega) (by omega) ho h1)
      . exact le4 (by omega) hb (ih 5 (i+1) o _ (by omega) (by omega) ho h1)
      . exact le5 (by omega) hb (ih 6 (i+1) o _ (by omega) (by omega) ho h1)
    . have hq:=hin.1 _ _ _ _ _ (by omega) h1;rcases hl with rfl|rfl|rfl|rfl
      . exact lk0 (by omega) hb (ih 1 (i+1) o _ (by omega) (by omega) ho h1) (ihl 0 _ _ _ _ (.inl rfl) hq.2 ho h2)
      . exact lk1 (by omega) hb (ih 2 (i+1) o _ (by omega) (by omega) ho h1) (ihl 1 _ _ _ _ (.inr (.inl rfl)) hq.2 ho h2)
      . exact lk4 (by omega) hb (ih 5 (i+1) o _ (by omega) (by omega) ho h1) (ihl 4 _ _ _ _ (.inr (.inr (.inl rfl))) hq.2 ho h2)
      . exact lk5 (by omega) hb (ih 6 (i+1) o _ (by omega) (by omega) ho h1) (ihl 5 _ _ _ _ (.inr (.inr (.inr rfl))) hq.2 ho h2)
end
end Ab
end Go.Proofs.YtgfbbmjoflehlaaGreatDoor
