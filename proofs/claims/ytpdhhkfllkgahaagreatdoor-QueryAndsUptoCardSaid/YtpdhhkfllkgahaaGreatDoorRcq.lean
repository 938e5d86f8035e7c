import Derived.Test.YtpdhhkfllkgahaaGreatDoorQiq
import Derived.Test.YtpdhhkfllkgahaaGreatDoorRbq
set_option linter.all false
namespace Go.Proofs.YtpdhhkfllkgahaaGreatDoor
namespace Ab
theorem qFQ {x y:Ex}(h:hdX x y=false):x.op=y.op∧x.n=y.n∧x.scale=y.scale∧x.name=y.name∧x.attr=y.attr∧x.args.length=y.args.length:=by unfold hdX at h;simp only[Bool.or_eq_false_iff,bne_eq_false_iff_eq,Bool.not_eq_false',beq_iff_eq]at h;obtain⟨h1,h2,h3,h4,h5,h6⟩:=h;exact⟨h1,h2,h3,toList_inj h4,toList_inj h5,by omega⟩
theorem qF7 {x y:Ex}(h:x.op=y.op∧x.n=y.n∧x.scale=y.scale∧x.name=y.name∧x.attr=y.attr∧x.args.length=y.args.length):hdX x y=false:=by obtain⟨h1,h2,h3,h4,h5,h6⟩:=h;unfold hdX;simp[h1,h2,h3,h4,h5,h6]
mutual
theorem qFl:∀ x y z:Ex,qbA x z=true→qbA y z=true→qbA x y=true
 |.mk o1 g1 n1 s1 a1 b1 p1,.mk o2 g2 n2 s2 a2 b2 p2,.mk o3 g3 n3 s3 a3 b3 p3,h1,h2=>by rw[qi8,aC,Bool.not_eq_true']at h1 h2 ⊢;obtain⟨h1,k1⟩:=h1;obtain⟨h2,k2⟩:=h2;have e1:=qFQ h1;have e2:=qFQ h2;exact⟨qF7 ⟨e1.1.trans e2.1.symm,e1.2.1.trans e2.2.1.symm,e1.2.2.1.trans e2.2.2.1.symm,e1.2.2.2.1.trans e2.2.2.2.1.symm,e1.2.2.2.2.1.trans e2.2.2.2.2.1.symm,e1.2.2.2.2.2.trans e2.2.2.2.2.2.symm⟩,qE8 g1 g2 g3 e1.2.2.2.2.2 e2.2.2.2.2.2 k1 k2⟩
theorem qE8:∀ l m n:List Ex,l.length=n.length→m.length=n.length→Zp l n=true→Zp m n=true→Zp l m=true
 |[],[],_,_,_,_,_=>by rw[Zp]
 |a::l,b::m,c::n,h1,h2,h3,h4=>by rw[Zp,aC]at h3 h4 ⊢;exact⟨qFl a b c h3.1 h4.1,qE8 l m n (by simpa using h1) (by simpa using h2) h3.2 h4.2⟩
 |[],_::_,[],_,h,_,_=>by simp at h
 |[],_::_,_::_,h,_,_,_=>by simp at h
 |_::_,_,[],h,_,_,_=>by simp at h
 |_::_,[],_::_,_,h,_,_=>by simp at h
end
mutual
theorem sh_0:∀ x:Ex,shX 0 x=x
 |.mk op args n s a b p=>by rw[shX,qFX args,Int.add_zero]
theorem qFX:∀ l:List Ex,shXs 0 l=l
 |[]=>by rw[shXs]
 |x::l=>by rw[shXs,sh_0 x,qFX l]
end
theorem st_0 (t:Tok):shT 0 t=t:=by unfold shT;rw[Int.add_zero]
noncomputable def bkK (x:Ex):List Tk:=lp::(pr x).2.2++[rp]
theorem qFJ {x:Ex}(hr:Rg x)(hn:(pr x).2.1≤30){L:List Tok}{i:Nat}(hA:At L i (bkK x)):∃ n out,pp L (n+1) (.p 7 i 0)=some out∧((∃ p,out=.err p 14)∨∃ y,out=.ok y (i+(bkK x).length)∧qbA y x=true):=by
 obtain⟨h1,h2⟩:=qAh hA;obtain⟨tl,h3⟩:=qzM h1;have tr:=(qzM h2).1;have hj:i+(lp::(pr x).2.2).length=i+1+(pr x).2.2.length:=by simp only[List.length_cons];omega
 have hj2:i+(bkK x).length=i+1+(pr x).2.2.length+1:=by unfold bkK;simp only[List.length_append,List.length_cons,List.length_nil];omega
 rw[hj]at tr;rw[hj2];obtain⟨n,y,g1,g2⟩:=(rb hr L (i+1) 0 h3 (by omega)).1 0 (Nat.zero_le _) (qEr tr);have dp:=(qjL (L:=L) (L':=L) (d:=0) (c:=0) n).1 0 (i+1) 0 1 y _ (by omega) (by omega) (by omega) g1 (fun k _ _=>(st_0 _).symm) (.inl (st_0 _).symm);rw[sh_0]at dp;have k:vD L i=.brk 1 fun x=>x:=by unfold vD;rw[qz3 tl];kernel_rfl
 have e:pp L (n+1) (.p 7 i 0)=bnd (pp L n (.p 0 (i+1) 1)) (clo L fun x=>x):=by rw[pp7];unfold Qm;rw[k];rfl
 rcases dp with h|⟨_,p,h⟩
 · refine⟨n,.ok y (i+1+(pr x).2.2.length+1),?_,.inr ⟨y,rfl,g2⟩⟩;have h:pp L n (.p 0 (i+1) 1)=some (.ok y (i+1+(pr x).2.2.length)):=h;rw[e,h];simp only[bnd,clo,show isW (tkA L (i+1+(pr x).2.2.length)) (strB [41])=true from qAq tr,aj,af]
 · have h:pp L n (.p 0 (i+1) 1)=some (.err p 14):=h;exact⟨n,.err p 14,by rw[e,h];rfl,.inl ⟨p,rfl⟩⟩
noncomputable def axT:By:=lfT 24 0 0 (strB [97]) (strB [120])
noncomputable def axK:List Tk:=lfK 24 0 0 (strB [97]) (strB [120])
def axE (p:Int):Ex:=lit 24 0 0 (strB [97]) (strB [120]) p
theorem qFz:LfOk 24 0 0 (strB [97]) (strB [120]):=.inr (.inr (.inr (.inr (.inl ⟨rfl,gn_a,.inl gn_x,rfl,rfl⟩))))
theorem qFH {L:List Tok}{i:Nat}(hA:At L i axK)(n:Nat):pp L (n+1) (.p 7 i 0)=some (.ok (axE (tkA L i).pos) (i+axK.length)):=by rw[pp7];unfold Qm;rw[lf_k qFz hA];rfl
theorem ax_1:axK=[nk (strB [97]),pt,atk (strB [120])]:=qDh _ _ _ _
theorem qFM (a:By):Fst (nk a) 7:=⟨fun _ p=>rfl,fun _ p=>rfl⟩
theorem qFs {L:List Tok}{n i j:Nat}{x:Ex}{out:PO}{t u:Tk}(h1:pp L (n+1) (.p 7 i 0)=some (.ok x j))(h2:pp L (n+1) (.p 7 (j+1) 0)=some out)(ht:nop (tkA L i)=t)(ft:Fst t 7)(hu:nop (tkA L (j+1))=u)(fu:Fst u 7)(hj:nop (tkA L j)=opk 13)(he:∀ y k,out=.ok y k→EO L k 0):∃ m,pp L m (.p 0 i 0)=some (midO 13 x (tkA L j).pos out):=by
 have o:=qEL (op:=13) (by omega) (tkA L j).pos;rw[← qz3 hj]at o;have o1:opA 1 (tkA L j)=13:=o.1;have w:∀ {t:Tk} {i:Nat},nop (tkA L i)=t→Fst t 7→isW (tkA L i) (strB [45])=false∧isW (tkA L i) (strB [78,79,84])=false:=fun h f=>by rw[qz3 h];exact⟨f.2 (by omega) _,f.1 (by omega) _⟩
 have a1:=upr 7 2 (by omega) (by omega) h1 (w ht ft).1 (w ht ft).2 fun y k e m hm _=>by cases e;exact o.2 m (show 1<m by omega)
 have a2:=upr 7 2 (by omega) (by omega) h2 (w hu fu).1 (w hu fu).2 fun y k e m _ _=>he y k e m (Nat.zero_le _);have a1:=qoA L _ _ _ a1;have b:=mid (n:=n+5) (l:=1) (by omega) a1 (by rw[o1];decide) a2 fun y k e=>he y k e 1 (by omega);rw[o1]at b;refine⟨n+9,up1 (n:=n+7) (by omega) b (fun h=>by omega) (fun h=>by omega) fun y k e=>?_⟩;cases out with
 |err p e'=>cases e
 |ok z k'=>cases e;exact he z _ rfl 0 (Nat.zero_le _)
theorem qF3 {L:List Tok}{n i:Nat}{p e:Int}{t:Tk}(h:pp L (n+1) (.p 7 i 0)=some (.err p e))(ht:nop (tkA L i)=t)(ft:Fst t 7):∃ m,pp L m (.p 0 i 0)=some (.err p e):=by
 have w:isW (tkA L i) (strB [45])=false∧isW (tkA L i) (strB [78,79,84])=false:=by rw[qz3 ht];exact⟨ft.2 (by omega) _,ft.1 (by omega) _⟩
 exact⟨_,upr 7 0 (by omega) (by omega) h w.1 w.2 fun x j e=>(by cases e)⟩
def okX (x:Ex)(l:Bool)(out:PO):Prop:=(∃ p,out=.err p 14)∨∃ y p q j,out=.ok (if l then two 13 (axE p) y q else two 13 y (axE p) q) j∧qbA y x=true
theorem qFG {L:List Tok}{i:Nat}(h:At L i tlK3):EO L i 0:=qEO (at_1 (show At L i (wk sgB::_)from h))
section
variable {x:Ex} (hr:Rg x) (hn:(pr x).2.1≤30) {L:List Tok} {i:Nat}
include hr hn
theorem qFZ (h:At L i ((pr x).2.2++tlK3)):∃ n out,pp L n (.p 0 i 0)=some out∧(∀ y j,out=.ok y j→j=i+(pr x).2.2.length)∧∃ y j,out=.ok y j∧qbA y x=true:=by obtain⟨h1,h2⟩:=qAh h;obtain⟨n,y,g1,g2⟩:=(rb hr L i 0 h1 (by omega)).1 0 (Nat.zero_le _) (qFG h2);exact⟨n,_,g1,fun y j e=>by cases e;rfl,y,_,rfl,g2⟩
theorem qF0 (h:At L i ((bkK x++opk 13::axK)++tlK3)):∃ n out,pp L n (.p 0 i 0)=some out∧(∀ y j,out=.ok y j→j=i+(bkK x++opk 13::axK).length)∧okX x false out:=by
 obtain⟨h1,h4⟩:=qAh h;obtain⟨h1,h2⟩:=qAh h1;obtain⟨ha,h3⟩:=qzM h2;have t0:nop (tkA L i)=lp:=at_1 (show At L i (lp::_)from h1);obtain⟨n,out,g1,g2⟩:=qFJ hr hn h1;rcases g2 with⟨p,rfl⟩|⟨y,rfl,g2⟩
 · obtain⟨m,g⟩:=qF3 g1 t0 qDu;exact⟨m,_,g,fun y j e=>(by cases e),.inl ⟨p,rfl⟩⟩
 ·
  have hl:i+(bkK x++opk 13::axK).length=i+(bkK x).length+1+axK.length:=by simp only[List.length_append,List.length_cons];omega
  rw[hl]at h4 ⊢;have h3':=h3;rw[ax_1]at h3';obtain⟨m,g⟩:=qFs g1 (qFH h3 n) t0 qDu (at_1 h3') (qFM _) ha fun y k e=>by cases e;exact qFG h4
  exact⟨m,_,g,fun y j e=>by cases e;rfl,.inr ⟨y,_,_,_,rfl,g2⟩⟩
theorem qF1 (h:At L i ((axK++opk 13::bkK x)++tlK3)):∃ n out,pp L n (.p 0 i 0)=some out∧(∀ y j,out=.ok y j→j=i+(axK++opk 13::bkK x).length)∧okX x true out:=by
 obtain⟨h1,h4⟩:=qAh h;obtain⟨h1,h2⟩:=qAh h1;obtain⟨ha,h3⟩:=qzM h2;have hl:i+(axK++opk 13::bkK x).length=i+axK.length+1+(bkK x).length:=by simp only[List.length_append,List.length_cons];omega
 rw[hl]at h4 ⊢;have t0:nop (tkA L (i+axK.length+1))=lp:=at_1 (show At L _ (lp::_)from h3);obtain⟨n,out,g1,g2⟩:=qFJ hr hn h3;have h1':=h1;rw[ax_1]at h1';obtain⟨m,g⟩:=qFs (qFH h1 n) g1 (at_1 h1') (qFM _) t0 qDu ha fun y k e=>by
  rcases g2 with⟨p,rfl⟩|⟨z,rfl,g2⟩
  · cases e
  · cases e;exact qFG h4
 rcases g2 with⟨p,rfl⟩|⟨y,rfl,g2⟩
 · exact⟨m,_,g,fun y j e=>(by cases e),.inl ⟨p,rfl⟩⟩
 · exact⟨m,_,g,fun y j e=>by cases e;rfl,.inr ⟨y,_,_,_,rfl,g2⟩⟩
end
section
def mBl (m:By):By:=(strB [40]++m)++strB [41,32,65,78,68,32,97,46,120]
def mBr (m:By):By:=(strB [97,46,120,32,65,78,68,32,40]++m)++strB [41]
theorem qFt:axT=(strB [97]++strB [46])++strB [120]:=qCj _ _ _ _
theorem qFS (m:By):mBl m=(((((strB [40]++m)++strB [41])++strB [32])++sgA 13)++strB [32])++axT:=by
 have e:strB [41,32,65,78,68,32,97,46,120]=((((strB [41]++strB [32])++sgA 13)++strB [32])++((strB [97]++strB [46])++strB [120])):=by kernel_rfl
 unfold mBl;rw[e,qFt];simp only[ByteArray.append_assoc]
theorem qFU (m:By):mBr m=(((axT++strB [32])++sgA 13)++strB [32])++((strB [40]++m)++strB [41]):=by
 have e:strB [97,46,120,32,65,78,68,32,40]=((((((strB [97]++strB [46])++strB [120])++strB [32])++sgA 13)++strB [32])++strB [40]):=by kernel_rfl
 unfold mBr;rw[e,qFt];simp only[ByteArray.append_assoc]
theorem qFK {u:By}{q:Nat}(h:Has u q (strB [32])):Fo u q:=fun _=>by rw[(qAO h).2];rfl
section
variable {x:Ex} (hr:Rg x)
include hr
theorem bk_rd {u:By}{q:Nat}(h:Has u q ((strB [40]++(pr x).1)++strB [41]))(hf:Fo u (q+((strB [40]++(pr x).1)++strB [41]).size)):Rd u q (bkK x) (q+((strB [40]++(pr x).1)++strB [41]).size):=by have e:opr 8 (x.op,pr x)=((strB [40]++(pr x).1)++strB [41],(pr x).2.1+1,bkK x):=aD (show lev x.op<8 by have:=qDc x.op;omega);have:=qBb (qDK hr) 8 x.op (u:=u) (q:=q);rw[e]at this;exact this h hf
theorem qFT {u:By}{q:Nat}(h:Has u q (mBl (pr x).1))(hf:Fo u (q+(mBl (pr x).1).size)):Rd u q (bkK x++opk 13::axK) (q+(mBl (pr x).1).size):=by rw[qFS]at h hf ⊢;have b:=bk_rd hr (u:=u) (q:=q);generalize (strB [40]++(pr x).1)++strB [41]=B at *;obtain⟨h,h4⟩:=qzL h;obtain⟨h,h3⟩:=qzL h;obtain⟨h,h2⟩:=qzL h;obtain⟨h0,h1⟩:=qzL h;simp only[ByteArray.size_append (a:=((B++strB [32])++sgA 13)++strB [32]),ByteArray.size_append (a:=(B++strB [32])++sgA 13),ByteArray.size_append (a:=B++strB [32]),ByteArray.size_append (a:=B),bsz1]at *;simp only[← Nat.add_assoc]at *;exact qzO (b h0 (qFK h1)) (qAc h1 (by simp) (qzO (S:=[opk 13]) (qEM (by omega) h2 (qAO h3).2) (qAc h3 (qEH _ _ _ _ _) (qEI qFz h4 hf))))
theorem qFV {u:By}{q:Nat}(h:Has u q (mBr (pr x).1))(hf:Fo u (q+(mBr (pr x).1).size)):Rd u q (axK++opk 13::bkK x) (q+(mBr (pr x).1).size):=by rw[qFU]at h hf ⊢;have b:=fun q=>bk_rd hr (u:=u) (q:=q);have a:=fun h=>qEI qFz (u:=u) (q:=q) h;have ea:axT=lfT 24 0 0 (strB [97]) (strB [120]):=rfl;rw[← ea]at a;generalize (strB [40]++(pr x).1)++strB [41]=B at *;generalize axT=A at *;obtain⟨h,h4⟩:=qzL h;obtain⟨h,h3⟩:=qzL h;obtain⟨h,h2⟩:=qzL h;obtain⟨h0,h1⟩:=qzL h;simp only[ByteArray.size_append (a:=((A++strB [32])++sgA 13)++strB [32]),ByteArray.size_append (a:=(A++strB [32])++sgA 13),ByteArray.size_append (a:=A++strB [32]),ByteArray.size_append (a:=A),bsz1]at *;simp only[← Nat.add_assoc]at *;exact qzO (a h0 (qFK h1)) (qAc h1 (by simp) (qzO (S:=[opk 13]) (qEM (by omega) h2 (qAO h3).2) (qAc h3 (by simp) (b _ h4 hf))))
end
theorem qFA {x y:Ex}(hr:Rg x)(h:qbA y x=true)(q:Qu)(hq:q.wh=qzU y):qu2 q=cnt x:=by have f:=qA3 y x h;unfold qu2;rw[hq,qBn f.1 f.2,f.1];exact qEX hr
theorem qE0:∀ {l m:List Ex} {i:Nat} {a b:Ex},Zp l m=true→l[i]? = some a→m[i]? = some b→qbA a b=true
 |[],_,_,_,_,_,h,_=>by simp at h
 |_::_,[],_,_,_,_,_,h=>by simp at h
 |a::l,b::m,0,_,_,h,h1,h2=>by rw[Zp,aC]at h;cases h1;cases h2;exact h.1
 |a::l,b::m,i+1,_,_,h,h1,h2=>by rw[Zp,aC]at h;exact qE0 h.2 (by simpa using h1) (by simpa using h2)
section
variable [vo]
theorem qFO {A B C:List Ex}(hl:A.length=B.length)(h1:Zp A B=true)(hl2:A.length=C.length)(h2:Zp A C=true)(h13:∀ z∈C,z.op≠13)(hc:cnts A≤1000)(br:Rs)(s w:Int)(ky:By)(ka:Int):∀ (m i:Nat),A.length-i=m→Goes qon (.h5 (qg A) (A.length:Int) (i:Int) br (qg B) s w ky ka) true
 |0,i,h=>by refine .fin0 fun k rec=>?_;simp only[qon,ltF (show ¬ i<A.length by omega),af]
 |m+1,i,h=>by
  have hi:i<A.length:=by omega
  have e1:=ax hi;have e2:=ax (show i<B.length by omega);have e3:=ax (show i<C.length by omega);have hm:=List.getElem_mem (show i<C.length by omega);generalize A[i]=a at e1;generalize B[i]=b at e2;generalize C[i]=c at e3 hm;have n13:(a.op==13)=false:=by have:=(qDM (qE0 h2 e1 e3)).1;have:=h13 c hm;rw[beq_eq_false_iff_ne];omega
  have hl3:=qfm A;have t:=qyU _ a b (Nat.le_refl _) (by have:=qfF e1;omega);rw[qE0 h1 e1 e2]at t;have s6:Goes qon (.h6 (qg A) (A.length:Int) (i:Int) false br (qg B) s w ky ka) true:=by refine Goes.rec0 (qFO hl h1 hl2 h2 h13 hc br s w ky ka m (i+1) (by omega)) fun k rec=>?_;simp only[qon,af,zq i (by omega)]
  have t:Tot (fun k=>g9 k a.op (qg a.args) a.n a.scale a.name a.attr a.pos b.op (qg b.args) b.n b.scale b.name b.attr b.pos false) true:=t;refine Goes.call t s6 fun k rec e=>?_;simp only[qon,ltT hi,ah,Yi (qhi e1),Yi (qhi e2),qkU,e,ae,aj,af,n13]
theorem qFD {W:List Ex}{l h:Nat}(h1:l≤h)(h2:h≤W.length):slOk (l:Int) (h:Int) (qg W) 7=true:=by
 unfold slOk;rw[Yt];refine aO ⟨by omega,by omega,by omega,?_⟩;cases W with
 |nil=>rfl
 |cons a W=>rw[qg];cases a;rfl
theorem qF6 {A B:List Ex}{y:Ex}{p:Int}(l:Bool)(hl:A.length=B.length)(h1:Zp A B=true){C:List Ex}(hl2:A.length=C.length)(h2:Zp A C=true)(h13:∀ z∈C,z.op≠13)(hc:cnts A≤1000)(b2 br:Rs)(s2 w2 s w:Int)(k2 ky:By)(a2 ka:Int):
  Goes qon (.h3 l false b2 (qg (if l then axE p::A else A++[axE p])) s2 w2 k2 a2 br (qg B) s w ky ka) true:=by
 have s5:=qFO hl h1 hl2 h2 h13 hc br s w ky ka _ 0 rfl;have s4:Goes qon (.h4 (qg A) br (qg B) s w ky ka) true:=.rec0 s5 fun k rec=>by simp only[qon,Yt];rfl
 refine Goes.rec0 s4 fun k rec=>?_;cases l with
 |true=>
  simp only[if_true,qon,af,ah];have z1:slOk 0 ((qg B).length:Int) (qg (axE p::A)) 7=true:=by rw[Yt];exact qFD (l:=0) (Nat.zero_le _) (by simp;omega)
  have z2:slOk 1 ((qg (axE p::A)).length:Int) (qg (axE p::A)) 7=true:=by rw[Yt];exact qFD (l:=1) (by simp) (Nat.le_refl _)
  rw[z1,z2,ZW,ZW];have e:List.drop (Int.toNat 1) (List.take (Int.toNat ((qg (axE p::A)).length:Int)) (qg (axE p::A)))=qg A:=by rw[Int.toNat_natCast,List.take_length];rfl
  rw[e]
 |false=>
  simp only[aT,if_false,qon,af];have z1:slOk 0 ((qg B).length:Int) (qg (A++[axE p])) 7=true:=by rw[Yt];exact qFD (l:=0) (Nat.zero_le _) (by simp;omega)
  rw[z1,ZW];have e:List.drop (Int.toNat 0) (List.take (Int.toNat ((qg B).length:Int)) (qg (A++[axE p])))=qg A:=by rw[Int.toNat_natCast,qvL];show List.take _ _=_;rw[List.take_left' (by rw[Yt,Yt,hl])]
  rw[e]
theorem qF5 {l:Bool}{b c d e:By}{n1 n2:Nat}{t1 t2:Qu×Int×Int}(s1:((c++b)++d).size≤4000)(s2:((c++e)++d).size≤4000)(p1:parQ ((c++b)++d) n1=some t1)(p2:parQ ((c++e)++d) n2=some t2)(h:Goes qon (.h2 l t1.2.2 t2.2.2 (t2.2.2==14||t2.2.2==2) (zf t2.1.br) (qg t2.1.wh) t2.1.st t2.1.wd t2.1.key t2.1.ka (zf t1.1.br) (qg t1.1.wh) t1.1.st t1.1.wd t1.1.key t1.1.ka) true):Goes qon (.h1 l b c d e) true:=by
 obtain⟨r1,g1,k1⟩:=qEg p1;obtain⟨r2,g2,k2⟩:=qEg p2;simp only[ByteArray.size_append]at s1 s2;have gg:∀ o:Option R3,gd (decide (c.size+b.size≤1000000000)) (gd (decide ((c++b).size+d.size≤1000000000)) o)=o:=fun o=>by rw[gdT (by omega),gdT (by rw[ByteArray.size_append];omega)]
 have gh:∀ o:Option R3,gd (decide (c.size+e.size≤1000000000)) (gd (decide ((c++e).size+d.size≤1000000000)) o)=o:=fun o=>by rw[gdT (by omega),gdT (by rw[ByteArray.size_append];omega)]
 obtain⟨q1,a1,e1⟩:=t1;obtain⟨q2,a2,e2⟩:=t2;simp only at h;refine Goes.of3 g1 g2 h fun k b1 b2 b3=>?_;have cc:∀ x y:Option R3,e2=14∧x=some true∨e2≠14∧y=some true→(bif e2==14 then x else y)=some true:=fun x y h=>by
  rcases h with⟨h,h'⟩|⟨h,h'⟩
  · rw[show(e2==14)=true by simpa using h];exact h'
  · rw[show(e2==14)=false by simpa using h];exact h'
 have b4:e2=14∧itS qon k (.h2 l e1 e2 true (zf q2.br) (qg q2.wh) q2.st q2.wd q2.key q2.ka (zf q1.br) (qg q1.wh) q1.st q1.wd q1.key q1.ka)=some true∨e2≠14∧itS qon k (.h2 l e1 e2 (e2==2) (zf q2.br) (qg q2.wh) q2.st q2.wd q2.key q2.ka (zf q1.br) (qg q1.wh) q1.st q1.wd q1.key q1.ka)=some true:=by
  by_cases he:e2=14
  · refine .inl ⟨he,?_⟩;rw[show(e2==14)=true by simpa using he]at b3;exact b3
  · refine .inr ⟨he,?_⟩;rw[show(e2==14)=false by simpa using he]at b3;exact b3
 rcases k1 with rfl|⟨z1,rfl⟩<;>rcases k2 with rfl|⟨z2,rfl⟩
 · simp only[qon,gg,gh,b1,b2,ae,altC,tup8];exact cc _ _ b4
 · simp only at z2;subst z2;simp only[qon,gg,gh,b1,b2,ae,altC,tup8,tup6];exact cc _ _ b4
 · simp only at z1;subst z1;simp only[qon,gg,gh,b1,b2,ae,altC,tup8,tup6];exact cc _ _ b4
 · simp only at z1 z2;subst z1 z2;simp only[qon,gg,gh,b1,b2,ae,altC,tup6];exact cc _ _ b4
theorem qFN {x:Ex}(hr:Rg x)(hn:(pr x).2.1≤30)(hc:cnt x≤200)(hs:(pr x).1.size≤3000)(l:Bool){e:By}{K:List Tk}(se:e.size≤(pr x).1.size+10)(hK:K≠[])(hM:∀ (u:By) (q:Nat),Has u q e→Fo u (q+e.size)→Rd u q K (q+e.size))(hp:∀ L:List Tok,At L 7 (K++tlK3)→∃ n out,pp L n (.p 0 7 0)=some out∧(∀ y j,out=.ok y j→j=7+K.length)∧okX x l out):Goes qon (.h1 l (pr x).1 hdB tlB e) true:=by
 have z1:hdB.size=23:=by kernel_rfl
 have z2:tlB.size=22:=by kernel_rfl
 have s1:((hdB++(pr x).1)++tlB).size≤4000:=by simp only[ByteArray.size_append];omega
 have s2:((hdB++e)++tlB).size≤4000:=by simp only[ByteArray.size_append];omega
 obtain⟨n1,o1,t1,⟨y,j,rfl,hy⟩,p1,_,k1⟩:=qE3 (P:=fun out=>∃ y j,out=.ok y j∧qbA y x=true) s1 (qDG hr) (fun u q h hf=>qDK hr u q h hf) fun L h=>qFZ hr hn h;obtain⟨n2,o2,t2,hx,p2,k2,k3⟩:=qE3 s2 hK hM hp;obtain⟨q1,w1,rfl⟩:=k1 y j rfl;rw[aD (show qu2 q1≤200 by rw[qFA hr hy q1 w1];exact hc)]at p1;refine qF5 s1 s2 p1 p2 ?_;have big:∀ (q:Qu) (a e:Int),e=14∨e=2→Goes qon (.h2 l 0 e (e==14||e==2) (zf q.br) (qg q.wh) q.st q.wd q.key q.ka (zf q1.br) (qg q1.wh) q1.st q1.wd q1.key q1.ka) true:=fun q a e he=>by rw[show(e==14||e==2)=true by simpa using he];exact .fin0 fun k rec=>rfl
 rcases hx with⟨p,rfl⟩|⟨y2,p,q,j2,rfl,hy2⟩
 · rw[k2 p 14 rfl];exact big _ 0 14 (.inl rfl)
 ·
  obtain⟨q2,w2,rfl⟩:=k3 _ _ rfl;by_cases hn:qu2 q2≤200
  ·
   rw[aD hn];have f1:=qA3 y x hy;have f2:=qA3 y2 x hy2;have f3:=qA3 y2 y (qFl _ _ _ hy2 hy);have hA:=qBn f2.1 f2.2;have nf:=qEX hr;have ew:q2.wh=if l then axE p::qzU y2 else qzU y2++[axE p]:=by
    rw[w2];have ea:qzU (axE p)=[axE p]:=qzR (show(lit 24 0 0 (strB [97]) (strB [120]) p).op≠13 by show(24:Int)≠13;decide);cases l with
    |true=>rw[aD rfl,aD rfl,qz4,ea];rfl
    |false=>rw[aF (by decide),aF (by decide),qz4,ea]
   have h3:=qF6 (y:=y) (p:=p) l f3.1 f3.2 f2.1 f2.2 (fun z hz=>(qBV hr z hz).2.1) (by omega) (zf q2.br) (zf q1.br) q2.st q2.wd q1.st q1.wd q2.key q1.key q2.ka q1.ka;rw[← ew,← w1]at h3;have hlen:q2.wh.length=q1.wh.length+1:=by rw[ew,w1,← f3.1];cases l<;>simp
   have hb:=qfm (qzU x);refine Goes.rec0 h3 fun k rec=>?_;simp only[qon,show((0:Int)==14||(0:Int)==2)=false from rfl,af,bne_self_eq_false,Yt,zq q1.wh.length (by rw[w1,f1.1];omega),hlen]
  · rw[aF hn];exact big _ 0 2 (.inr rfl)
theorem qFd {x:Ex}(hc:cnt x≤1048576)(hn:nB x)(l:Bool):Tot (fun k=>g3 k x.op (qg x.args) x.n x.scale x.name x.attr x.pos l) true:=by
 have q6:=p6 hc hn;have t7:Tot (fun k=>g7 k) true:=qjj 200 awk;have bad:∀ m,Goes qon (.h0 l m true) true:=fun m=>.of1 t7 fun k b=>by simp only[qon,ah,b,ae]
 by_cases h0:(prA x).2=0
 ·
  have hr:rtB x=true∧cnt x≤200∧(pr x).1.size≤4000∧(pr x).2.1≤30∧(prA x).1=(pr x).1:=by
   unfold prA at h0 ⊢;by_cases r:rtB x=true
   ·
    rw[aD r]at h0 ⊢;by_cases h2:200<cnt x
    · rw[aD h2]at h0;cases h0
    ·
     rw[aF h2]at h0 ⊢;by_cases hs:4000<(pr x).1.size
     · rw[aD hs]at h0;cases h0
     · rw[aF hs]at h0 ⊢;by_cases hd:30<(pr x).2.1
       · rw[aD hd]at h0;cases h0
       · rw[aF hd];exact⟨r,by omega,by omega,by omega,rfl⟩
   · rw[aF r]at h0;cases h0
  obtain⟨r,h2,hs,hd,e1⟩:=hr;have hr:=rg_of _ x (Nat.le_refl _) hn r;have go:Goes qon (.h0 l (pr x).1 (decide (((pr x).1.size:Int)>3000))) true:=by
   by_cases hb:((pr x).1.size:Int)>3000
   · rw[aO hb];exact bad _
   · rw[aN hb];have sz:(pr x).1.size≤3000:=by omega
     cases l with
     |true=>have w:=qFN hr hd h2 sz true (e:=mBr (pr x).1) (by unfold mBr;simp only[ByteArray.size_append];show 9+_+1≤_;omega) (by rw[ax_1];simp) (fun u q h hf=>qFV hr h hf) fun L h=>qF1 hr hd h;refine Goes.rec0 w fun k rec=>?_;simp only[qon,af,ah];rw[gdT (by show 1+_≤_;omega),gdT (by rw[ByteArray.size_append];show 1+_+9≤_;omega),gdT (by show 9+_≤_;omega),gdT (by rw[ByteArray.size_append];show 9+_+1≤_;omega)];rfl
     |false=>have w:=qFN hr hd h2 sz false (e:=mBl (pr x).1) (by unfold mBl;simp only[ByteArray.size_append];show 1+_+9≤_;omega) (by unfold bkK;simp) (fun u q h hf=>qFT hr h hf) fun L h=>qF0 hr hd h;refine Goes.rec0 w fun k rec=>?_;simp only[qon,af];rw[gdT (by show 1+_≤_;omega),gdT (by rw[ByteArray.size_append];show 1+_+9≤_;omega)];rfl
  have e6:prA x=((pr x).1,0):=Prod.ext e1 h0;rw[e6]at q6;refine Goes.of3 (step:=qon) (s:=.e x.op (qg x.args) x.n x.scale x.name x.attr x.pos l) q6 t7 go fun k b b2 b3=>?_;have b:g6 k x.op (qg x.args) x.n x.scale x.name x.attr x.pos=some ((pr x).1,0):=b;simp only[qon,b,b2,ae,tup2,aj,af,bne_self_eq_false];exact b3
 · have hb:((prA x).2 != 0)=true:=by simpa using h0
   refine Goes.of3 (step:=qon) (s:=.e x.op (qg x.args) x.n x.scale x.name x.attr x.pos l) q6 t7 (bad (prA x).1) fun k b b2 b3=>?_;have b:g6 k x.op (qg x.args) x.n x.scale x.name x.attr x.pos=some (prA x):=b;simp only[qon,b,b2,ae,tup2,aj,af,hb,ah];exact b3
end
end
end Ab
end Go.Proofs.YtpdhhkfllkgahaaGreatDoor
