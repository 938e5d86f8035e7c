/-
  The recursive parser, as it is printed, level by level.
-/
import Derived.Test.YtgfbbmjoflehlaaGreatDoorPcq
set_option linter.all false
namespace Go.Proofs.YtgfbbmjoflehlaaGreatDoor
namespace Ab
abbrev tp (x:Ex)(R:Rs)(L:List Tok)(j o:Nat):Int×Rs×Int×Int×ByteArray×ByteArray×Int×Rs×Int×Int:=(x.op,R,x.n,x.scale,x.name,x.attr,x.pos,rwT L,(j:Int),(o:Int))
abbrev te (p e:Int)(L:List Tok)(a b:Int):Int×Int×Rs×Int×Int:=(p,e,rwT L,a,b)
def T2 (L:List Tok)(o:Nat)(out:PO)(r:qvo):Prop:=match out with
 |.err p e=>∃ a b:Int,r=.inl (te p e L a b)
 |.ok x j=>r=.inr (tp x (qg x.args) L j o)
def T2o (L:List Tok)(o:Nat)(out:PO)(r:qvo):Prop:=match out with
 |.err p e=>∃ a b:Int,r=.inl (te p e L a b)
 |.ok x j=>∃ R,qG R=qg x.args/\r=.inr (tp x R L j o)
def T3a (L:List Tok)(o:Nat)(out:PO)(r:qvG):Prop:=match out with
 |.err p e=>∃ a b:Int,r=.inl (te p e L a b)
 |.ok x j=>r=.inr (.inl (tp x (qg x.args) L j o))\/∃ R,qG R=qg x.args/\r=.inr (.inr (tp x R L j o))
def T3b (L:List Tok)(o:Nat)(out:PO)(r:qvG):Prop:=match out with
 |.err p e=>∃ a b:Int,r=.inl (te p e L a b)
 |.ok x j=>(∃ R,qG R=qg x.args/\r=.inr (.inl (tp x R L j o)))\/r=.inr (.inr (tp x (qg x.args) L j o))
abbrev J0 (r:qvo):R77:=.inl r
abbrev J1 (r:qwp):R77:=.inr (.inl r)
abbrev J2 (r:qvG):R77:=.inr (.inr (.inl r))
abbrev J3 (r:qwr):R77:=.inr (.inr (.inr (.inl r)))
abbrev J4 (r:qws):R77:=.inr (.inr (.inr (.inr (.inl r))))
abbrev J5 (r:qwt):R77:=.inr (.inr (.inr (.inr (.inr (.inl r)))))
abbrev J6 (r:qwu):R77:=.inr (.inr (.inr (.inr (.inr (.inr (.inl r))))))
abbrev J7 (r:qwv):R77:=.inr (.inr (.inr (.inr (.inr (.inr (.inr (.inl r)))))))
abbrev J8 (r:qww):R77:=.inr (.inr (.inr (.inr (.inr (.inr (.inr (.inr (.inl r))))))))
abbrev J9 (r:qwq):R77:=.inr (.inr (.inr (.inr (.inr (.inr (.inr (.inr (.inr (.inl r)))))))))
abbrev J10 (r:qv3):R77:=.inr (.inr (.inr (.inr (.inr (.inr (.inr (.inr (.inr (.inr (.inl r))))))))))
abbrev J11 (r:qv4):R77:=.inr (.inr (.inr (.inr (.inr (.inr (.inr (.inr (.inr (.inr (.inr (.inl r)))))))))))
abbrev J12 (r:qv5):R77:=.inr (.inr (.inr (.inr (.inr (.inr (.inr (.inr (.inr (.inr (.inr (.inr (.inl r))))))))))))
abbrev J13 (r:qv6):R77:=.inr (.inr (.inr (.inr (.inr (.inr (.inr (.inr (.inr (.inr (.inr (.inr (.inr r))))))))))))
theorem imEx (y):[ic y.op,Cell.imm (qg y.args),ic y.n,ic y.scale,sc y.name,sc y.attr,ic y.pos].map immC=Xe y:=by cases y;rfl
theorem ql9 {y}{R:Rs}(h:qG R=qg y.args):[ic y.op,Cell.own 7 R,ic y.n,ic y.scale,sc y.name,sc y.attr,ic y.pos].map immC=Xe y:=by rw[qjn,<- h];rfl
theorem imm2 {a b x y}(h1:a.map immC=Xe x)(h2:b.map immC=Xe y):qG [a,b]=qg [x,y]:=by rw[Yr];simp only[List.map_cons,List.map_nil,h1,h2,qg]
theorem imm1 {a x}(h1:a.map immC=Xe x):qG [a]=qg [x]:=by rw[Yr];simp only[List.map_cons,List.map_nil,h1,qg]
section
variable [vo]
def W0 (L:List Tok)(i o:Nat)(out:PO):Prop:=∃ r,Goes quZ (.e_77 (rwT L) i o) (J0 r)/\T2 L o out r
def W1 (L:List Tok)(i o:Nat)(out:PO):Prop:=∃ r,Goes quZ (.e_100 (rwT L) i o) (J1 r)/\T2 L o out r
def W2 (L:List Tok)(i o:Nat)(out:PO):Prop:=∃ r,Goes quZ (.e_121 (rwT L) i o) (J2 r)/\T3a L o out r
def W3 (L:List Tok)(i o:Nat)(out:PO):Prop:=∃ r,Goes quZ (.e_135 (rwT L) i o) (J3 r)/\T2 L o out r
def W4 (L:List Tok)(i o:Nat)(out:PO):Prop:=∃ r,Goes quZ (.e_143 (rwT L) i o) (J4 r)/\T2 L o out r
def W5 (L:List Tok)(i o:Nat)(out:PO):Prop:=∃ r,Goes quZ (.e_146 (rwT L) i o) (J5 r)/\T2 L o out r
def W6 (L:List Tok)(i o:Nat)(out:PO):Prop:=∃ r,Goes quZ (.e_148 (rwT L) i o) (J6 r)/\T3b L o out r
def W7 (L:List Tok)(i o:Nat)(out:PO):Prop:=∃ r,Goes quZ (.e_151 (rwT L) i o) (J7 r)/\T3a L o out r
variable (L:List Tok) (i j o:Nat) in
theorem qmD {p z:Int}(hj:j<100000)(h:W1 L (j+1) o (.err p z))(op a:Int)(R:Rs)(c d:Int)(e f:ByteArray)(g:Int):∃ u v:Int,Goes quZ (.e_102e op a R c d e f g (rwT L) j o) (J13 (.inl (te p z L u v))):=by obtain⟨r,h1,u,v,rfl⟩:=h;exact⟨u,v,.of2 (qsC L j o) h1 fun k b1 b2=>by simp only[nt,quZ,b1,zq j (by omega),b2,qwm,ae,altC,tup6,tup5]⟩
variable (L:List Tok) (i j o:Nat) in
theorem qmX {y:Ex}{m:Nat}(hj:j<100000)(h:W1 L (j+1) o (.ok y m))(op a:Int)(R:Rs)(c d:Int)(e f:ByteArray)(g:Int):∃ yr:List Cell,yr.map immC=Xe y/\Goes quZ (.e_102e op a R c d e f g (rwT L) j o) (J13 (.inr (op,[[ic a,.imm R,ic c,ic d,sc e,sc f,ic g],yr],0,0,strB [],strB [],(tkA L j).pos,rwT L,(m:Int),(o:Int)))):=by obtain⟨r,h1,rfl⟩:=h;exact⟨_,imEx y,.of2 (qsC L j o) h1 fun k b1 b2=>by simp only[nt,quZ,b1,zq j (by omega),b2,qwm,ae,altC,tup6,ql]⟩
variable (L:List Tok) (i j o:Nat) in
theorem qm2 {p z:Int}(hj:j<100000)(h:W2 L (j+1) o (.err p z))(op a:Int)(R:Rs)(c d:Int)(e f:ByteArray)(g:Int):∃ u v:Int,Goes quZ (.e_102d op a R c d e f g (rwT L) j o) (J12 (.inl (te p z L u v))):=by obtain⟨r,h1,u,v,rfl⟩:=h;exact⟨u,v,.of2 (qsC L j o) h1 fun k b1 b2=>by simp only[nt,quZ,b1,zq j (by omega),b2,qvs,ae,altC,tup6,tup5]⟩
variable (L:List Tok) (i j o:Nat) in
theorem qmE {y:Ex}{m:Nat}(hj:j<100000)(h:W2 L (j+1) o (.ok y m))(op a:Int)(R:Rs)(c d:Int)(e f:ByteArray)(g:Int):∃ yr:List Cell,yr.map immC=Xe y/\Goes quZ (.e_102d op a R c d e f g (rwT L) j o) (J12 (.inr (op,[[ic a,.imm R,ic c,ic d,sc e,sc f,ic g],yr],0,0,strB [],strB [],(tkA L j).pos,rwT L,(m:Int),(o:Int)))):=by
 obtain⟨r,h1,rfl|⟨Q,hQ,rfl⟩⟩:=h
 . exact⟨_,imEx y,.of2 (qsC L j o) h1 fun k b1 b2=>by simp only[nt,quZ,b1,zq j (by omega),b2,qvs,ae,altC,tup6,ql]⟩
 . exact⟨_,ql9 hQ,.of2 (qsC L j o) h1 fun k b1 b2=>by simp only[nt,quZ,b1,zq j (by omega),b2,qvs,ae,altC,tup6,ql]⟩
variable (L:List Tok) (i j o:Nat) in
theorem qoj {p z:Int}(hj:j<100000)(h:W4 L (j+1) o (.err p z))(op a:Int)(R:Rs)(c d:Int)(e f:ByteArray)(g:Int):∃ u v:Int,Goes quZ (.e_102c op a R c d e f g (rwT L) j o) (J11 (.inl (te p z L u v))):=by obtain⟨r,h1,u,v,rfl⟩:=h;exact⟨u,v,.of2 (qsC L j o) h1 fun k b1 b2=>by simp only[nt,quZ,b1,zq j (by omega),b2,qvX,ae,altC,tup6,tup5]⟩
variable (L:List Tok) (i j o:Nat) in
theorem qno {y:Ex}{m:Nat}(hj:j<100000)(h:W4 L (j+1) o (.ok y m))(op a:Int)(R:Rs)(c d:Int)(e f:ByteArray)(g:Int):∃ yr:List Cell,yr.map immC=Xe y/\Goes quZ (.e_102c op a R c d e f g (rwT L) j o) (J11 (.inr (op,[[ic a,.imm R,ic c,ic d,sc e,sc f,ic g],yr],0,0,strB [],strB [],(tkA L j).pos,rwT L,(m:Int),(o:Int)))):=by obtain⟨r,h1,rfl⟩:=h;exact⟨_,imEx y,.of2 (qsC L j o) h1 fun k b1 b2=>by simp only[nt,quZ,b1,zq j (by omega),b2,qvX,ae,altC,tup6,ql]⟩
variable (L:List Tok) (i j o:Nat) in
theorem qm0 {p z:Int}(hj:j<100000)(h:W5 L (j+1) o (.err p z))(op a:Int)(R:Rs)(c d:Int)(e f:ByteArray)(g:Int):∃ u v:Int,Goes quZ (.e_102b op a R c d e f g (rwT L) j o) (J10 (.inl (te p z L u v))):=by obtain⟨r,h1,u,v,rfl⟩:=h;exact⟨u,v,.of2 (qsC L j o) h1 fun k b1 b2=>by simp only[nt,quZ,b1,zq j (by omega),b2,qwo,ae,altC,tup6,tup5]⟩
variable (L:List Tok) (i j o:Nat) in
theorem qlW {y:Ex}{m:Nat}(hj:j<100000)(h:W5 L (j+1) o (.ok y m))(op a:Int)(R:Rs)(c d:Int)(e f:ByteArray)(g:Int):∃ yr:List Cell,yr.map immC=Xe y/\Goes quZ (.e_102b op a R c d e f g (rwT L) j o) (J10 (.inr (op,[[ic a,.imm R,ic c,ic d,sc e,sc f,ic g],yr],0,0,strB [],strB [],(tkA L j).pos,rwT L,(m:Int),(o:Int)))):=by obtain⟨r,h1,rfl⟩:=h;exact⟨_,imEx y,.of2 (qsC L j o) h1 fun k b1 b2=>by simp only[nt,quZ,b1,zq j (by omega),b2,qwo,ae,altC,tup6,ql]⟩
variable (L:List Tok) (i j o:Nat) in
theorem qlD {p z:Int}(hj:j<100000)(h:W6 L (j+1) o (.err p z))(op a:Int)(R:Rs)(c d:Int)(e f:ByteArray)(g:Int):∃ u v:Int,Goes quZ (.e_102 op a R c d e f g (rwT L) j o) (J9 (.inl (te p z L u v))):=by obtain⟨r,h1,u,v,rfl⟩:=h;exact⟨u,v,.of2 (qsC L j o) h1 fun k b1 b2=>by simp only[nt,quZ,b1,zq j (by omega),b2,qvp,ae,altC,tup6,tup5]⟩
variable (L:List Tok) (i j o:Nat) in
theorem qlz {y:Ex}{m:Nat}(hj:j<100000)(h:W6 L (j+1) o (.ok y m))(op a:Int)(R:Rs)(c d:Int)(e f:ByteArray)(g:Int):∃ yr:List Cell,yr.map immC=Xe y/\Goes quZ (.e_102 op a R c d e f g (rwT L) j o) (J9 (.inr (op,[[ic a,.imm R,ic c,ic d,sc e,sc f,ic g],yr],0,0,strB [],strB [],(tkA L j).pos,rwT L,(m:Int),(o:Int)))):=by
 obtain⟨r,h1,⟨Q,hQ,rfl⟩|rfl⟩:=h
 . exact⟨_,ql9 hQ,.of2 (qsC L j o) h1 fun k b1 b2=>by simp only[nt,quZ,b1,zq j (by omega),b2,qvp,ae,altC,tup6,ql]⟩
 . exact⟨_,imEx y,.of2 (qsC L j o) h1 fun k b1 b2=>by simp only[nt,quZ,b1,zq j (by omega),b2,qvp,ae,altC,tup6,ql]⟩
def V0 (L:List Tok)(x:Ex)(j o:Nat)(out:PO):Prop:=∀ (a b c:Int) (d e:ByteArray) (f:Int),((∃ r,Goes quZ (.h0_77 x.op (qg x.args) x.n x.scale x.name x.attr x.pos a b c d e f (rwT L) j o) (J0 r)/\T2 L o out r)/\∀ R,qG R=qg x.args->∃ r,Goes quZ (.h1_77 x.op R x.n x.scale x.name x.attr x.pos a b c d e f (rwT L) j o) (J0 r)/\T2 L o out r)
section
variable {L:List Tok} {j o:Nat} {x:Ex}
theorem qn7 {t}(h:(opA 0 t==0)=false):opA 0 t=14:=by
 have e:opA 0 t=bif isW t (strB [79,82])then 14 else 0:=rfl
 grind
theorem lf0 (ho:(opA 0 (tkA L j)==0)=true):V0 L x j o (.ok x j):=by
 have t:=qvi L j o (strB [79,82]);cases hb:isW (tkA L j) (strB [79,82])with
 |true=>simp only[opA,hb,ah]at ho;grind
 |false=>
 rw[hb]at t;exact fun a b c d e f=>⟨⟨_,.of1 t fun k b1=>by simp only[nt,quZ,b1,ae,tup2,af],rfl⟩,fun R hR=>⟨_,.of1 t fun k b1=>by simp only[nt,quZ,b1,ae,tup2,af,hR],rfl⟩⟩
theorem le0 {p z}(hj:j<100000)(ho:(opA 0 (tkA L j)==0)=false)(h:W1 L (j+1) o (.err p z)):V0 L x j o (.err p z):=by
 have t:=qvi L j o (strB [79,82]);cases hb:isW (tkA L j) (strB [79,82])with
 |false=>simp only[opA,hb,af]at ho;grind
 |true=>
 rw[hb]at t;intro a b c d e f;refine⟨?_,fun R hR=>?_⟩
 . obtain⟨u,v,h1⟩:=qmD L j o hj h 14 x.op (qg x.args) x.n x.scale x.name x.attr x.pos;exact⟨.inl (te p z L u v),.of2 t h1 fun k b1 b2=>by simp only[nt,quZ,b1,b2,qvP,ae,tup2,ah,altC,tup5],u,v,rfl⟩
 . obtain⟨u,v,h1⟩:=qmD L j o hj h 14 x.op (qg x.args) x.n x.scale x.name x.attr x.pos;exact⟨.inl (te p z L u v),.of2 t h1 fun k b1 b2=>by simp only[nt,quZ,b1,hR,b2,qvP,ae,tup2,ah,altC,tup5],u,v,rfl⟩
theorem lk0 {y m out}(hj:j<100000)(ho:(opA 0 (tkA L j)==0)=false)(h:W1 L (j+1) o (.ok y m))(hv:V0 L (two (opA 0 (tkA L j)) x y (tkA L j).pos) m o out):V0 L x j o out:=by
 rw[qn7 ho]at hv;have t:=qvi L j o (strB [79,82]);cases hb:isW (tkA L j) (strB [79,82])with
 |false=>simp only[opA,hb,af]at ho;grind
 |true=>
 rw[hb]at t;intro a b c d e f;refine⟨?_,fun R hR=>?_⟩
 . obtain⟨yr,hy,h1⟩:=qmX L j o hj h 14 x.op (qg x.args) x.n x.scale x.name x.attr x.pos;obtain⟨r,h2,h3⟩:=(hv a b c d e f).2 _ (imm2 (imEx x) hy);exact⟨r,.of3 t h1 h2 fun k b1 b2 b3=>by simp only[nt,quZ,b1,b2,qvP,ae,tup2,ah,altC,ql];exact b3,h3⟩
 . obtain⟨yr,hy,h1⟩:=qmX L j o hj h 14 x.op (qg x.args) x.n x.scale x.name x.attr x.pos;obtain⟨r,h2,h3⟩:=(hv a b c d e f).2 _ (imm2 (imEx x) hy);exact⟨r,.of3 t h1 h2 fun k b1 b2 b3=>by simp only[nt,quZ,b1,hR,b2,qvP,ae,tup2,ah,altC,ql];exact b3,h3⟩
theorem ue0 {p z}(h:W1 L j o (.err p z)):W0 L j o (.err p z):=by obtain⟨r,h1,u,v,rfl⟩:=h;exact⟨.inl (te p z L u v),.of1 h1 fun k b1=>by simp only[nt,quZ,b1,qwm,ae,altC,tup5],u,v,rfl⟩
theorem uk0 {m out}(h:W1 L j o (.ok x m))(hv:V0 L x m o out):W0 L j o out:=by obtain⟨r,h1,rfl⟩:=h;obtain⟨r,h2,h3⟩:=(hv 0 0 0 (strB []) (strB []) 0).1;exact⟨r,.of2 h1 h2 fun k b1 b2=>by simp only[nt,quZ,b1,qwm,ae,altC,ql];exact b2,h3⟩
end
def V1 (L:List Tok)(x:Ex)(j o:Nat)(out:PO):Prop:=∀ (a b c:Int) (d e:ByteArray) (f:Int),((∃ r,Goes quZ (.h0_100 x.op (qg x.args) x.n x.scale x.name x.attr x.pos a b c d e f (rwT L) j o) (J1 r)/\T2 L o out r)/\∀ R,qG R=qg x.args->∃ r,Goes quZ (.h1_100 x.op R x.n x.scale x.name x.attr x.pos a b c d e f (rwT L) j o) (J1 r)/\T2 L o out r)
section
variable {L:List Tok} {j o:Nat} {x:Ex}
theorem qoa {t}(h:(opA 1 t==0)=false):opA 1 t=13:=by
 have e:opA 1 t=bif isW t (strB [65,78,68])then 13 else 0:=rfl
 grind
theorem lf1 (ho:(opA 1 (tkA L j)==0)=true):V1 L x j o (.ok x j):=by
 have t:=qvi L j o (strB [65,78,68]);cases hb:isW (tkA L j) (strB [65,78,68])with
 |true=>simp only[opA,hb,ah]at ho;grind
 |false=>
 rw[hb]at t;exact fun a b c d e f=>⟨⟨_,.of1 t fun k b1=>by simp only[nt,quZ,b1,ae,tup2,af],rfl⟩,fun R hR=>⟨_,.of1 t fun k b1=>by simp only[nt,quZ,b1,ae,tup2,af,hR],rfl⟩⟩
theorem le1 {p z}(hj:j<100000)(ho:(opA 1 (tkA L j)==0)=false)(h:W2 L (j+1) o (.err p z)):V1 L x j o (.err p z):=by
 have t:=qvi L j o (strB [65,78,68]);cases hb:isW (tkA L j) (strB [65,78,68])with
 |false=>simp only[opA,hb,af]at ho;grind
 |true=>
 rw[hb]at t;intro a b c d e f;refine⟨?_,fun R hR=>?_⟩
 . obtain⟨u,v,h1⟩:=qm2 L j o hj h 13 x.op (qg x.args) x.n x.scale x.name x.attr x.pos;exact⟨.inl (te p z L u v),.of2 t h1 fun k b1 b2=>by simp only[nt,quZ,b1,b2,qvO,ae,tup2,ah,altC,tup5],u,v,rfl⟩
 . obtain⟨u,v,h1⟩:=qm2 L j o hj h 13 x.op (qg x.args) x.n x.scale x.name x.attr x.pos;exact⟨.inl (te p z L u v),.of2 t h1 fun k b1 b2=>by simp only[nt,quZ,b1,hR,b2,qvO,ae,tup2,ah,altC,tup5],u,v,rfl⟩
theorem lk1 {y m out}(hj:j<100000)(ho:(opA 1 (tkA L j)==0)=false)(h:W2 L (j+1) o (.ok y m))(hv:V1 L (two (opA 1 (tkA L j)) x y (tkA L j).pos) m o out):V1 L x j o out:=by
 rw[qoa ho]at hv;have t:=qvi L j o (strB [65,78,68]);cases hb:isW (tkA L j) (strB [65,78,68])with
 |false=>simp only[opA,hb,af]at ho;grind
 |true=>
 rw[hb]at t;intro a b c d e f;refine⟨?_,fun R hR=>?_⟩
 . obtain⟨yr,hy,h1⟩:=qmE L j o hj h 13 x.op (qg x.args) x.n x.scale x.name x.attr x.pos;obtain⟨r,h2,h3⟩:=(hv a b c d e f).2 _ (imm2 (imEx x) hy);exact⟨r,.of3 t h1 h2 fun k b1 b2 b3=>by simp only[nt,quZ,b1,b2,qvO,ae,tup2,ah,altC,ql];exact b3,h3⟩
 . obtain⟨yr,hy,h1⟩:=qmE L j o hj h 13 x.op (qg x.args) x.n x.scale x.name x.attr x.pos;obtain⟨r,h2,h3⟩:=(hv a b c d e f).2 _ (imm2 (imEx x) hy);exact⟨r,.of3 t h1 h2 fun k b1 b2 b3=>by simp only[nt,quZ,b1,hR,b2,qvO,ae,tup2,ah,altC,ql];exact b3,h3⟩
theorem ue1 {p z}(h:W2 L j o (.err p z)):W1 L j o (.err p z):=by obtain⟨r,h1,u,v,rfl⟩:=h;exact⟨.inl (te p z L u v),.of1 h1 fun k b1=>by simp only[nt,quZ,b1,qvs,ae,altC,tup5],u,v,rfl⟩
theorem uk1 {m out}(h:W2 L j o (.ok x m))(hv:V1 L x m o out):W1 L j o out:=by
 obtain⟨r,h1,rfl|⟨Q,hQ,rfl⟩⟩:=h
 . obtain⟨r,h2,h3⟩:=(hv 0 0 0 (strB []) (strB []) 0).1;exact⟨r,.of2 h1 h2 fun k b1 b2=>by simp only[nt,quZ,b1,qvs,ae,altC,ql];exact b2,h3⟩
 . obtain⟨r,h2,h3⟩:=(hv 0 0 0 (strB []) (strB []) 0).2 Q hQ;exact⟨r,.of2 h1 h2 fun k b1 b2=>by simp only[nt,quZ,b1,qvs,ae,altC,ql];exact b2,h3⟩
end
def V4 (L:List Tok)(x:Ex)(j o:Nat)(out:PO):Prop:=∀ (a b c:Int) (d e:ByteArray) (f:Int),((∃ r,Goes quZ (.h0_143 x.op (qg x.args) x.n x.scale x.name x.attr x.pos a b c d e f (rwT L) j o) (J4 r)/\T2 L o out r)/\∀ R,qG R=qg x.args->∃ r,Goes quZ (.h1_143 x.op R x.n x.scale x.name x.attr x.pos a b c d e f (rwT L) j o) (J4 r)/\T2 L o out r)
section
variable {L:List Tok} {j o:Nat} {x:Ex}
theorem lf4 (ho:(opA 4 (tkA L j)==0)=true):V4 L x j o (.ok x j):=by have t:=qkJ L j o;exact fun a b c d e f=>⟨⟨_,.of1 t fun k b1=>by simp only[nt,quZ,b1,ho,ae,tup2,ah],rfl⟩,fun R hR=>⟨_,.of1 t fun k b1=>by simp only[nt,quZ,b1,ho,ae,tup2,ah,hR],rfl⟩⟩
theorem le4 {p z}(hj:j<100000)(ho:(opA 4 (tkA L j)==0)=false)(h:W5 L (j+1) o (.err p z)):V4 L x j o (.err p z):=by
 have t:=qkJ L j o;intro a b c d e f;refine⟨?_,fun R hR=>?_⟩
 . obtain⟨u,v,h1⟩:=qm0 L j o hj h (opA 4 (tkA L j)) x.op (qg x.args) x.n x.scale x.name x.attr x.pos;exact⟨.inl (te p z L u v),.of2 t h1 fun k b1 b2=>by simp only[nt,quZ,b1,ho,b2,qvN,ae,tup2,af,altC,tup5],u,v,rfl⟩
 . obtain⟨u,v,h1⟩:=qm0 L j o hj h (opA 4 (tkA L j)) x.op (qg x.args) x.n x.scale x.name x.attr x.pos;exact⟨.inl (te p z L u v),.of2 t h1 fun k b1 b2=>by simp only[nt,quZ,b1,ho,hR,b2,qvN,ae,tup2,af,altC,tup5],u,v,rfl⟩
theorem lk4 {y m out}(hj:j<100000)(ho:(opA 4 (tkA L j)==0)=false)(h:W5 L (j+1) o (.ok y m))(hv:V4 L (two (opA 4 (tkA L j)) x y (tkA L j).pos) m o out):V4 L x j o out:=by
 skip
 have t:=qkJ L j o;intro a b c d e f;refine⟨?_,fun R hR=>?_⟩
 . obtain⟨yr,hy,h1⟩:=qlW L j o hj h (opA 4 (tkA L j)) x.op (qg x.args) x.n x.scale x.name x.attr x.pos;obtain⟨r,h2,h3⟩:=(hv a b c d e f).2 _ (imm2 (imEx x) hy);exact⟨r,.of3 t h1 h2 fun k b1 b2 b3=>by simp only[nt,quZ,b1,ho,b2,qvN,ae,tup2,af,altC,ql];exact b3,h3⟩
 . obtain⟨yr,hy,h1⟩:=qlW L j o hj h (opA 4 (tkA L j)) x.op (qg x.args) x.n x.scale x.name x.attr x.pos;obtain⟨r,h2,h3⟩:=(hv a b c d e f).2 _ (imm2 (imEx x) hy);exact⟨r,.of3 t h1 h2 fun k b1 b2 b3=>by simp only[nt,quZ,b1,ho,hR,b2,qvN,ae,tup2,af,altC,ql];exact b3,h3⟩
theorem ue4 {p z}(h:W5 L j o (.err p z)):W4 L j o (.err p z):=by obtain⟨r,h1,u,v,rfl⟩:=h;exact⟨.inl (te p z L u v),.of1 h1 fun k b1=>by simp only[nt,quZ,b1,qwo,ae,altC,tup5],u,v,rfl⟩
theorem uk4 {m out}(h:W5 L j o (.ok x m))(hv:V4 L x m o out):W4 L j o out:=by obtain⟨r,h1,rfl⟩:=h;obtain⟨r,h2,h3⟩:=(hv 0 0 0 (strB []) (strB []) 0).1;exact⟨r,.of2 h1 h2 fun k b1 b2=>by simp only[nt,quZ,b1,qwo,ae,altC,ql];exact b2,h3⟩
end
def V5 (L:List Tok)(x:Ex)(j o:Nat)(out:PO):Prop:=∀ (a b c:Int) (d e:ByteArray) (f:Int),((∃ r,Goes quZ (.h1_146 x.op (qg x.args) x.n x.scale x.name x.attr x.pos a b c d e f (rwT L) j o) (J5 r)/\T2 L o out r)/\∀ R,qG R=qg x.args->∃ r,Goes quZ (.h0_146 x.op R x.n x.scale x.name x.attr x.pos a b c d e f (rwT L) j o) (J5 r)/\T2 L o out r)
section
variable {L:List Tok} {j o:Nat} {x:Ex}
theorem lf5 (ho:(opA 5 (tkA L j)==0)=true):V5 L x j o (.ok x j):=by have t:=qlh L j o;exact fun a b c d e f=>⟨⟨_,.of1 t fun k b1=>by simp only[nt,quZ,b1,ho,ae,tup2,ah],rfl⟩,fun R hR=>⟨_,.of1 t fun k b1=>by simp only[nt,quZ,b1,ho,ae,tup2,ah,hR],rfl⟩⟩
theorem le5 {p z}(hj:j<100000)(ho:(opA 5 (tkA L j)==0)=false)(h:W6 L (j+1) o (.err p z)):V5 L x j o (.err p z):=by
 have t:=qlh L j o;intro a b c d e f;refine⟨?_,fun R hR=>?_⟩
 . obtain⟨u,v,h1⟩:=qlD L j o hj h (opA 5 (tkA L j)) x.op (qg x.args) x.n x.scale x.name x.attr x.pos;exact⟨.inl (te p z L u v),.of2 t h1 fun k b1 b2=>by simp only[nt,quZ,b1,ho,b2,qwn,ae,tup2,af,altC,tup5],u,v,rfl⟩
 . obtain⟨u,v,h1⟩:=qlD L j o hj h (opA 5 (tkA L j)) x.op (qg x.args) x.n x.scale x.name x.attr x.pos;exact⟨.inl (te p z L u v),.of2 t h1 fun k b1 b2=>by simp only[nt,quZ,b1,ho,hR,b2,qwn,ae,tup2,af,altC,tup5],u,v,rfl⟩
theorem lk5 {y m out}(hj:j<100000)(ho:(opA 5 (tkA L j)==0)=false)(h:W6 L (j+1) o (.ok y m))(hv:V5 L (two (opA 5 (tkA L j)) x y (tkA L j).pos) m o out):V5 L x j o out:=by
 skip
 have t:=qlh L j o;intro a b c d e f;refine⟨?_,fun R hR=>?_⟩
 . obtain⟨yr,hy,h1⟩:=qlz L j o hj h (opA 5 (tkA L j)) x.op (qg x.args) x.n x.scale x.name x.attr x.pos;obtain⟨r,h2,h3⟩:=(hv a b c d e f).2 _ (imm2 (imEx x) hy);exact⟨r,.of3 t h1 h2 fun k b1 b2 b3=>by simp only[nt,quZ,b1,ho,b2,qwn,ae,tup2,af,altC,ql];exact b3,h3⟩
 . obtain⟨yr,hy,h1⟩:=qlz L j o hj h (opA 5 (tkA L j)) x.op (qg x.args) x.n x.scale x.name x.attr x.pos;obtain⟨r,h2,h3⟩:=(hv a b c d e f).2 _ (imm2 (imEx x) hy);exact⟨r,.of3 t h1 h2 fun k b1 b2 b3=>by simp only[nt,quZ,b1,ho,hR,b2,qwn,ae,tup2,af,altC,ql];exact b3,h3⟩
theorem ue5 {p z}(h:W6 L j o (.err p z)):W5 L j o (.err p z):=by obtain⟨r,h1,u,v,rfl⟩:=h;exact⟨.inl (te p z L u v),.of1 h1 fun k b1=>by simp only[nt,quZ,b1,qvp,ae,altC,tup5],u,v,rfl⟩
theorem uk5 {m out}(h:W6 L j o (.ok x m))(hv:V5 L x m o out):W5 L j o out:=by
 obtain⟨r,h1,⟨Q,hQ,rfl⟩|rfl⟩:=h
 . obtain⟨r,h2,h3⟩:=(hv 0 0 0 (strB []) (strB []) 0).2 Q hQ;exact⟨r,.of2 h1 h2 fun k b1 b2=>by simp only[nt,quZ,b1,qvp,ae,altC,ql];exact b2,h3⟩
 . obtain⟨r,h2,h3⟩:=(hv 0 0 0 (strB []) (strB []) 0).1;exact⟨r,.of2 h1 h2 fun k b1 b2=>by simp only[nt,quZ,b1,qvp,ae,altC,ql];exact b2,h3⟩
end
section
variable {L:List Tok} {j o:Nat} {x:Ex}
theorem ce {p z}(h:W4 L j o (.err p z)):W3 L j o (.err p z):=by obtain⟨r,h1,u,v,rfl⟩:=h;exact⟨.inl (te p z L u v),.of1 h1 fun k b1=>by simp only[nt,quZ,b1,qvX,ae,altC,tup2,tup5,ql,ah,af],u,v,rfl⟩
theorem c0 {m}(h:W4 L j o (.ok x m))(ho:(opA 3 (tkA L m)!=0)=false):W3 L j o (.ok x m):=by obtain⟨r,h1,rfl⟩:=h;exact⟨_,.of2 h1 (qlp L m o) fun k b1 b2=>by simp only[nt,quZ,b1,qvX,ae,altC,tup2,tup5,ql,ah,af,b2,ho],rfl⟩
theorem c1 {m}(hm:m<100000)(h:W4 L j o (.ok x m))(ho:(opA 3 (tkA L m)!=0)=true){p z}(h2:W4 L (m+1) o (.err p z)):W3 L j o (.err p z):=by obtain⟨r,h1,rfl⟩:=h;obtain⟨u,v,h3⟩:=qoj L m o hm h2 (opA 3 (tkA L m)) x.op (qg x.args) x.n x.scale x.name x.attr x.pos;exact⟨.inl (te p z L u v),.of3 h1 (qlp L m o) h3 fun k b1 b2 b3=>by simp only[nt,quZ,b1,qvX,qwA,ae,altC,tup2,tup5,ql,ah,af,b2,ho,b3],u,v,rfl⟩
theorem c2 {m}(hm:m<100000)(h:W4 L j o (.ok x m))(ho:(opA 3 (tkA L m)!=0)=true){y q}(h2:W4 L (m+1) o (.ok y q)):W3 L j o (.ok (two (opA 3 (tkA L m)) x y (tkA L m).pos) q):=by obtain⟨r,h1,rfl⟩:=h;obtain⟨yr,hy,h3⟩:=qno L m o hm h2 (opA 3 (tkA L m)) x.op (qg x.args) x.n x.scale x.name x.attr x.pos;refine⟨.inr (tp (two (opA 3 (tkA L m)) x y (tkA L m).pos) (qg [x,y]) L q o),.of3 h1 (qlp L m o) h3 fun k b1 b2 b3=>?_,rfl⟩;simp only[nt,quZ,b1,qvX,qwA,ae,altC,tup2,tup5,ql,ah,af,b2,ho,b3,imm2 (imEx x) hy];rfl
section
variable (hw:isW (tkA L j) (strB [78,79,84])=true) (hj:j<100000) (ho:o<100)
include hw hj ho
theorem qkN (h3:(o==30)=true):W2 L j o (.err (tkA L j).pos 14):=by have t:=qvi L j o (strB [78,79,84]);have t2:=qvj L j o hj ho;rw[hw]at t;rw[h3]at t2;exact⟨.inl (te (tkA L j).pos 14 L j o),.of2 t t2 fun k b1 b2=>by simp only[nt,quZ,b1,b2,qvs,qwc,ae,altC,tup2,tup4,tup5,ql,ah,af,aj,ak],j,o,rfl⟩
theorem qm8 (h3:(o==30)=false){p z}(h:W2 L (j+1) (o+1) (.err p z)):W2 L j o (.err p z):=by have t:=qvi L j o (strB [78,79,84]);have t2:=qvj L j o hj ho;rw[hw]at t;rw[h3]at t2;obtain⟨r,h1,u,v,rfl⟩:=h;exact⟨.inl (te p z L u v),.of3 t t2 h1 fun k b1 b2 b3=>by simp only[nt,quZ,b1,b2,b3,qvs,qwc,ae,altC,tup2,tup4,tup5,ql,ah,af,aj,ak],u,v,rfl⟩
theorem qnh (h3:(o==30)=false){m}(h:W2 L (j+1) (o+1) (.ok x m)):W2 L j o (.ok (una 15 x (tkA L j).pos) m):=by
 have t:=qvi L j o (strB [78,79,84]);have t2:=qvj L j o hj ho;rw[hw]at t;rw[h3]at t2;obtain⟨r,h1,rfl|⟨Q,hQ,rfl⟩⟩:=h
 . exact⟨.inr (.inr (tp (una 15 x (tkA L j).pos) [[ic x.op,.imm (qg x.args),ic x.n,ic x.scale,sc x.name,sc x.attr,ic x.pos]] L m o)),.of3 t t2 h1 fun k b1 b2 b3=>by simp only[nt,quZ,b1,b2,b3,qvs,qwc,ae,altC,tup2,tup4,tup5,ql,ah,af,aj,ak,wrD o ho];rfl,.inr ⟨_,imm1 (imEx x),rfl⟩⟩
 . exact⟨.inr (.inr (tp (una 15 x (tkA L j).pos) [[ic x.op,.imm (qG Q),ic x.n,ic x.scale,sc x.name,sc x.attr,ic x.pos]] L m o)),.of3 t t2 h1 fun k b1 b2 b3=>by simp only[nt,quZ,b1,b2,b3,qvs,qwc,ae,altC,tup2,tup4,tup5,ql,ah,af,aj,ak,wrD o ho];rfl,.inr ⟨_,imm1 (x:=x) (by rw[hQ];exact imEx x),rfl⟩⟩
end
section
variable (hw:isW (tkA L j) (strB [45])=true) (hj:j<100000) (ho:o<100)
include hw hj ho
theorem qkL (h3:(o==30)=true):W6 L j o (.err (tkA L j).pos 14):=by have t:=qvi L j o (strB [45]);have t2:=qvj L j o hj ho;rw[hw]at t;rw[h3]at t2;exact⟨.inl (te (tkA L j).pos 14 L j o),.of2 t t2 fun k b1 b2=>by simp only[nt,quZ,b1,b2,qvp,qvY,ae,altC,tup2,tup4,tup5,ql,ah,af,aj,ak],j,o,rfl⟩
theorem qmy (h3:(o==30)=false){p z}(h:W6 L (j+1) (o+1) (.err p z)):W6 L j o (.err p z):=by have t:=qvi L j o (strB [45]);have t2:=qvj L j o hj ho;rw[hw]at t;rw[h3]at t2;obtain⟨r,h1,u,v,rfl⟩:=h;exact⟨.inl (te p z L u v),.of3 t t2 h1 fun k b1 b2 b3=>by simp only[nt,quZ,b1,b2,b3,qvp,qvY,ae,altC,tup2,tup4,tup5,ql,ah,af,aj,ak],u,v,rfl⟩
theorem qnL (h3:(o==30)=false){m}(h:W6 L (j+1) (o+1) (.ok x m)):W6 L j o (.ok (una 6 x (tkA L j).pos) m):=by
 have t:=qvi L j o (strB [45]);have t2:=qvj L j o hj ho;rw[hw]at t;rw[h3]at t2;have st:∀ R:Rs,Goes quZ (.h2_148 6 R 0 0 (strB []) (strB []) (tkA L j).pos (rwT L) m o) (J6 (.inr (.inl (6,R,0,0,strB [],strB [],(tkA L j).pos,rwT L,(m:Int),(o:Int))))):=fun R=>.fin0 fun k rec=>rfl;obtain⟨r,h1,⟨Q,hQ,rfl⟩|rfl⟩:=h
 . exact⟨_,.of4 t t2 h1 (st _) fun k b1 b2 b3 b4=>by simp only[nt,quZ,b1,b2,b3,qvp,qvY,ae,altC,tup2,tup4,tup5,ql,ah,af,aj,ak,wrD o ho];exact b4,.inl ⟨_,imm1 (x:=x) (by rw[hQ];exact imEx x),rfl⟩⟩
 . exact⟨_,.of4 t t2 h1 (st _) fun k b1 b2 b3 b4=>by simp only[nt,quZ,b1,b2,b3,qvp,qvY,ae,altC,tup2,tup4,tup5,ql,ah,af,aj,ak,wrD o ho];exact b4,.inl ⟨_,imm1 (imEx x),rfl⟩⟩
end
theorem qnk (hw:isW (tkA L j) (strB [78,79,84])=false){out}(h:W3 L j o out):W2 L j o out:=by
 have t:=qvi L j o (strB [78,79,84]);rw[hw]at t;obtain⟨r,h1,h2⟩:=h;cases out with
 |err p z=>obtain⟨u,v,rfl⟩:=h2;exact⟨.inl (te p z L u v),.of2 t h1 fun k b1 b2=>by simp only[nt,quZ,b1,b2,qvs,qwc,ae,altC,tup2,tup4,tup5,ql,ah,af,aj,ak],u,v,rfl⟩
 |ok x m=>cases h2;exact⟨_,.of2 t h1 fun k b1 b2=>by simp only[nt,quZ,b1,b2,qvs,qwc,ae,altC,tup2,tup4,tup5,ql,ah,af,aj,ak],.inl rfl⟩
theorem qnM (hw:isW (tkA L j) (strB [45])=false){out}(h:W7 L j o out):W6 L j o out:=by
 have t:=qvi L j o (strB [45]);rw[hw]at t;obtain⟨r,h1,h2⟩:=h;cases out with
 |err p z=>obtain⟨u,v,rfl⟩:=h2;exact⟨.inl (te p z L u v),.of2 t h1 fun k b1 b2=>by simp only[nt,quZ,b1,b2,qvp,qvY,ae,altC,tup2,tup4,tup5,ql,ah,af,aj,ak],u,v,rfl⟩
 |ok x m=>
  rcases h2 with rfl|⟨Q,hQ,rfl⟩
  . have st:Goes quZ (.h0_148 x.op (qg x.args) x.n x.scale x.name x.attr x.pos (rwT L) m o) (J6 (.inr (.inr (tp x (qg x.args) L m o)))):=.fin0 fun k rec=>rfl;exact⟨_,.of3 t h1 st fun k b1 b2 b3=>by simp only[nt,quZ,b1,b2,qvp,qvY,ae,altC,tup2,tup4,tup5,ql,ah,af,aj,ak];exact b3,.inr rfl⟩
  . have st:Goes quZ (.h1_148 x.op Q x.n x.scale x.name x.attr x.pos (rwT L) m o) (J6 (.inr (.inl (tp x Q L m o)))):=.fin0 fun k rec=>rfl;exact⟨_,.of3 t h1 st fun k b1 b2 b3=>by simp only[nt,quZ,b1,b2,qvp,qvY,ae,altC,tup2,tup4,tup5,ql,ah,af,aj,ak];exact b3,.inl ⟨Q,hQ,rfl⟩⟩
end
end
end Ab
end Go.Proofs.YtgfbbmjoflehlaaGreatDoor
