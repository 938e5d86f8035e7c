/-
  The functions that print a query tell a right query's text.
-/
import Derived.Test.YtpdhhkfllkgahaaGreatDoorQgq
set_option linter.all false
namespace Go.Proofs.YtpdhhkfllkgahaaGreatDoor
namespace Ab
theorem GN.len {a:By}(h:GN a):a.size≤24:=h.pos.2.1
theorem qEl {x:It}(h:RgI x):(itT x).size≤51:=by
 have h1:=h.typ.len;have h2:=h.nm.len;have h3:(f1B x.form).size≤1:=by unfold f1B;split<;>decide
 have h4:(f2B x.form).size≤1:=by unfold f2B;split<;>decide
 unfold itT;simp only[ByteArray.size_append,bsz1];omega
theorem qBB:∀ {l:List It},(∀ x∈l,RgI x)→(itsT l).size≤53*l.length
 |[],_=>Nat.zero_le _
 |[x],h=>by have:=qEl (h x au);simp only[itsT,List.length_cons,List.length_nil];omega
 |x::y::l,h=>by have h1:=qEl (h x au);have h2:=qBB (l:=y::l) fun z hz=>h z (aB _ hz);rw[show itsT (x::y::l)=(itT x++strB [44,32])++itsT (y::l)from rfl];simp only[ByteArray.size_append,List.length_cons,show(strB [44,32]).size=2 from rfl]at *;omega
theorem qCE {l:List It}(h:∀ x∈l,RgI x)(h8:l.length≤8):(brT l).size≤500:=by have:=qBB h;unfold brT;simp only[ByteArray.size_append,bsz1,show(strB [83,69,81,40]).size=4 from rfl];omega
theorem qCZ:∀ {l:List (List It)},(∀ b∈l,b≠[]∧b.length≤8∧∀ x∈b,RgI x)→(brsT l).size≤503*l.length
 |[],_=>Nat.zero_le _
 |[b],h=>by have hb:=h b au;have:=qCE hb.2.2 hb.2.1;simp only[brsT,List.length_cons,List.length_nil];omega
 |b::c::l,h=>by have hb:=h b au;have h1:=qCE hb.2.2 hb.2.1;have h2:=qCZ (l:=c::l) fun z hz=>h z (aB _ hz);rw[show brsT (b::c::l)=(brT b++strB [32,124,32])++brsT (c::l)from rfl];simp only[ByteArray.size_append,List.length_cons,show(strB [32,124,32]).size=3 from rfl]at *;omega
section
variable [vo]
theorem qEn {key:By}(h:key=strB []∨GN key):(key.toList==(strB []).toList)=true∨(key.toList==(strB []).toList)=false∧YF key=some true:=by
 rcases h with rfl|h
 · exact .inl (beq_self_eq_true _)
 · refine .inr ⟨?_,qBa h⟩;rw[beq_eq_false_iff_ne];intro e;have:=toList_inj e;have h1:=h.pos.1;rw[this]at h1;exact absurd h1 (by decide)
theorem qD4 {wh:List Ex}(hw:∀ x∈wh,Rg x∧x.op≠13∧(pr x).2.1≤30)(hc:cnts wh≤200):∀ (j i:Nat),wh.length-i=j→Goes qjZ (.h3 (qg wh) (wh.length:Int) (i:Int)) true:=by
 have hlen:=qfm wh;intro j
 induction j with
 |zero=>intro i hi;refine .fin0 fun k rec=>?_;simp only[qjZ,ltF (show ¬ i<wh.length by omega),af]
 |succ j ih=>
  intro i hi;have h1:i<wh.length:=by omega
  have e1:=ax h1;have hm:=List.getElem_mem h1;generalize wh[i]=x at e1 hm;have hx:=qfF e1;obtain⟨hr,h13,hn⟩:=hw x hm;have self:=qEf hr hn (by omega);have s1:Goes qjZ (.h5 (qg wh) (wh.length:Int) (i:Int) false) true:=.rec0 (ih (i+1) (by omega)) fun k rec=>by simp only[qjZ,af,zq i (by omega)]
  have o13:(x.op==13)=false:=by simpa using h13
  have o3:((prP x).2==3)=false:=by unfold prP;split<;>rfl
  refine Goes.call self s1 fun k rec e=>?_;simp only[qjZ,ltT h1,ah,Yi (qhi e1),qkU,e,ae,tup2,o3,af,o13]
theorem qD3 {q:Qu}{l:List It}{i:Nat}(hl:∀ x∈l,RgI x)(hs:l.length≤8)(hi:i<1000)(next:Goes qjZ (.h1 (zf q.br) (q.br.length:Int) ((i+1:Nat):Int) (zf q.br) (qg q.wh) q.st q.wd q.key q.ka) true):
  ∀ (n j:Nat),l.length-j=n→Goes qjZ (.h2 (zf q.br) (q.br.length:Int) (i:Int) (xe l) (l.length:Int) (j:Int) (zf q.br) (qg q.wh) q.st q.wd q.key q.ka) true:=by
 intro n
 induction n with
 |zero=>
  intro j hj;refine .rec0 next fun k rec=>?_
  simp only[qjZ,ltF (show ¬ j<l.length by omega),af,zq i (by omega)]
 |succ n ih=>
  intro j hj;have h1:j<l.length:=by omega
  have e1:=ax h1;have hm:=List.getElem_mem h1;generalize l[j]=x at e1 hm;have hx:=hl x hm;have s1:Goes qjZ (.h4 (zf q.br) (q.br.length:Int) (i:Int) (xe l) (l.length:Int) (j:Int) false (zf q.br) (qg q.wh) q.st q.wd q.key q.ka) true:=.rec0 (ih (j+1) (by omega)) fun k rec=>by simp only[qjZ,af,zq j (by omega)]
  refine .rec0 s1 fun k rec=>?_;have f1:decide (x.form<1)=false:=aN (by have:=hx.form;omega);have f3:decide (x.form>3)=false:=aN (by have:=hx.form;omega);simp only[qjZ,ltT h1,ah,Yi (qwt e1),qx6,f1,f3,af,qBa hx.typ,qBa hx.nm,ae,aj]
theorem qD5 {q:Qu}(h:RgQ q):Tot (fun k=>g25 k (zf q.br) (qg q.wh) q.st q.wd q.key q.ka) true:=by
 have hnd:=h.nd;unfold qu2 at hnd;have h4:=h.br.2;have w0:Goes qjZ (.h3 (qg q.wh) (q.wh.length:Int) 0) true:=qD4 h.wh (by omega) _ 0 rfl;have loop:∀ (j i:Nat),q.br.length-i=j→Goes qjZ (.h1 (zf q.br) (q.br.length:Int) (i:Int) (zf q.br) (qg q.wh) q.st q.wd q.key q.ka) true:=by
  intro j
  induction j with
  |zero=>intro i hi;refine .rec0 w0 fun k rec=>?_;simp only[qjZ,ltF (show ¬ i<q.br.length by omega),af,Yt]
  |succ j ih=>
   intro i hi;have h1:i<q.br.length:=by omega
   have e1:=ax h1;have hm:=List.getElem_mem h1;generalize q.br[i]=b at e1 hm;have hb:=h.it b hm;have s1:=qD3 (q:=q) (l:=b) (i:=i) hb.2.2 hb.2.1 (by omega) (ih (i+1) (by omega)) _ 0 rfl;have hz:((b.length:Int)==0)=false:=by have:=List.length_pos_iff.2 hb.1;rw[beq_eq_false_iff_ne];omega
   refine .rec0 s1 fun k rec=>?_;simp only[qjZ,ltT h1,ah,Yi (qvx e1),qv1,qu5,hz,af];rfl
 have s0:Goes qjZ (.h0 false (zf q.br) (qg q.wh) q.st q.wd q.key q.ka) true:=.rec0 (loop _ 0 rfl) fun k rec=>by simp only[qjZ,af,qu0];rfl
 refine Goes.rec0 (step:=qjZ) (s:=.e (zf q.br) (qg q.wh) q.st q.wd q.key q.ka) s0 fun k rec=>?_;have hz:((q.br.length:Int)==0)=false:=by have:=List.length_pos_iff.2 h.br.1;rw[beq_eq_false_iff_ne];omega
 have t1:decide (q.st<1)=false:=aN (by have:=h.st;omega);have t2:decide (q.st>3)=false:=aN (by have:=h.st;omega);have t3:decide (q.wd<0)=false:=aN (by have:=h.wd.1;omega);have t4:decide (q.wd>1152921504606846976)=false:=aN (by have:=h.wd.2.1;omega);simp only[qjZ,qu0,hz,af,t1,t2,t3,t4];rcases qEn h.key with e|⟨e,e2⟩
 · rw[e];rfl
 · rw[e,e2];rfl
theorem qC2 {q:Qu}(h:RgQ q):Few q:=by have:=h.nd;unfold qu2 at this;exact⟨by have:=h.br.2;omega,fun l hl=>by have:=(h.it l hl).2.1;omega,by omega⟩
theorem qD6 {q:Qu}(h:RgQ q):Tot (fun k=>g26 k (zf q.br) (qg q.wh) q.st q.wd q.key q.ka) false:=by
 have h4:=h.br.2;have loop:∀ (j i:Nat),q.br.length-i=j→Goes qsr (.h1 (zf q.br) (q.br.length:Int) (i:Int)) false:=by
  intro j
  induction j with
  |zero=>intro i hi;refine .fin0 fun k rec=>?_;simp only[qsr,ltF (show ¬ i<q.br.length by omega),af]
  |succ j ih=>
   intro i hi;have h1:i<q.br.length:=by omega
   have e1:=ax h1;have hm:=List.getElem_mem h1;generalize q.br[i]=b at e1 hm;have hb:=h.it b hm;refine .rec0 (ih (i+1) (by omega)) fun k rec=>?_;simp only[qsr,ltT h1,ah,Yi (qvx e1),qv1,qu5,show decide ((b.length:Int)>8)=false from aN (by omega),af,zq i (by omega)]
 have s0:Goes qsr (.h0 (decide (((qu2 q:Nat):Int)>200)) (zf q.br) (qg q.wh) q.st q.wd q.key q.ka) false:=by rw[show decide (((qu2 q:Nat):Int)>200)=false from aN (by have:=h.nd;omega)];exact .rec0 (loop _ 0 rfl) fun k rec=>by simp only[qsr,af,qu0];rfl
 refine Goes.of2 (step:=qsr) (s:=.e (zf q.br) (qg q.wh) q.st q.wd q.key q.ka) (qyS (qC2 h)) s0 fun k b b2=>?_;simp only[qsr,qu0,show decide ((q.br.length:Int)>4)=false from aN (by omega),af,b,ae];exact b2
def sRow (x:It):List Cell:=[sc (itT x)]
theorem qBI:∀ l:List It,strs (l.map sRow)=some (l.map itT)
 |[]=>rfl
 |x::l=>by show(strs (l.map sRow)).map (itT x :: ·)=_;rw[qBI l];rfl
theorem qCI (x y:List UInt8)(r:List (List UInt8))(sep:List UInt8):Lib.join (x::y::r) sep=(x++sep)++Lib.join (y::r) sep:=by rw[Lib.join_cons,Lib.join_cons];simp[Lib.joinTail]
theorem qBD:∀ (l:List It),l≠[]→Lib.join ((l.map itT).map (·.data.toList)) (strB [44,32]).data.toList=(itsT l).data.toList
 |[],h=>absurd rfl h
 |[x],_=>by simp[Lib.join_one,itsT]
 |x::y::l,_=>by have ih:=qBD (y::l) (by simp);rw[show itsT (x::y::l)=(itT x++strB [44,32])++itsT (y::l)from rfl,YO,YO,← ih];exact qCI _ _ _ _
theorem qDC {l:List It}(hn:l≠[])(hl:∀ x∈l,RgI x)(h8:l.length≤8):qx2 (l.map sRow) (strB [44,32])=some (itsT l):=by have:=qBB hl;unfold qx2;rw[qBI];simp only;rw[qBD l hn,aD ⟨by simp;omega,by rw[Array.length_toList];show(itsT l).size≤_;omega⟩]
theorem qB9 (l:List It):qG (l.map sRow)=l.map sRow:=by rw[Yr,List.map_map];rfl
theorem ap_s {l:List It}{s:By}(h:l.length<1000):apOk 16 1 (l.map sRow) [[sc s]]=true:=by unfold apOk;simp[lim];omega
theorem qC3 {l:List It}(hn:l≠[])(hl:∀ x∈l,RgI x)(h8:l.length≤8):Tot (fun k=>g28 k (xe l)) (brT l):=by
 have hsz:=qBB hl;have loop:∀ (j i:Nat),l.length-i=j→i≤l.length→Goes qjV (.h0 ((l.take i).map sRow) (xe l) (l.length:Int) (i:Int)) (brT l):=by
  intro j
  induction j with
  |zero=>intro i hi hil;rw[List.take_of_length_le (by omega)];refine .fin0 fun k rec=>?_;simp only[qjV,ltF (show ¬ i<l.length by omega),af,qB9,qDC hn hl h8,ae];rw[gdT (by rw[show(strB [83,69,81,40]).size=4 from rfl];omega),gdT (by rw[ByteArray.size_append,show(strB [83,69,81,40]).size=4 from rfl,bsz1];omega)];rfl
  |succ j ih=>
   intro i hi hil;have h1:i<l.length:=by omega
   have e1:=ax h1;have hm:=List.getElem_mem h1;have ht:l.take (i+1)=l.take i++[l[i]]:=(List.take_append_getElem h1).symm;have ih':=ih (i+1) (by omega) (by omega);rw[ht,List.map_append]at ih';generalize l[i]=x at e1 hm ih';have hx:=hl x hm;have s1:=hx.typ.len;have s2:=hx.nm.len;have f1:aixS [strB [],strB [],strB [],strB [33]] x.form=fun k=>(k (f1B x.form):Option By):=by have hf:=hx.form;generalize x.form=fm at hf;rcases hf with rfl|rfl|rfl<;>rfl
   have f2:aixS [strB [],strB [],strB [43],strB []] x.form=fun k=>(k (f2B x.form):Option By):=by have hf:=hx.form;generalize x.form=fm at hf;rcases hf with rfl|rfl|rfl<;>rfl
   have z1:(f1B x.form).size≤1:=by unfold f1B;split<;>decide
   have z2:(f2B x.form).size≤1:=by unfold f2B;split<;>decide
   refine .rec0 ih' fun k rec=>?_;simp only[qjV,ltT h1,ah,Yi (qwt e1),qx6,f1,f2,zq i (by omega)];rw[gdT (by omega),gdT (by simp only[ByteArray.size_append];omega),gdT (by simp only[ByteArray.size_append,bsz1];omega),gdT (by simp only[ByteArray.size_append,bsz1];omega),ap_s (by rw[List.length_take];omega),ZW];rfl
 refine Goes.rec0 (step:=qjV) (s:=.e (xe l)) (loop _ 0 rfl (Nat.zero_le _)) fun k rec=>?_;simp only[qjV,qu5];rfl
noncomputable def whX:List Ex→By×Int
 |[]=>(strB [],0)
 |x::l=>(strB [32,87,72,69,82,69,32]++(prP (andL x l)).1,(prP (andL x l)).2)
theorem qDn (x:Ex):(prP x).1.size≤4000:=by
 unfold prP;split
 · exact Nat.zero_le _
 · show(pr x).1.size≤4000;omega
theorem ix_0 {α:Type}(x:Ex)(l:List Ex)(f:List Cell→Option α):ixR (qg (x::l)) 0 f=f (Xe x):=rfl
theorem qCv (x y:Ex)(p:Int):qg (two 13 x y p).args=[[ic x.op,.imm (qg x.args),ic x.n,ic x.scale,sc x.name,sc x.attr,ic x.pos],[ic y.op,.imm (qg y.args),ic y.n,ic y.scale,sc y.name,sc y.attr,ic y.pos]]:=by show qg [x,y]=_;rw[qg,qg,qg,qjn,qjn]
theorem qjW {wh:List Ex}(hl:wh.length≤1000)(ht:∀ x l,wh=x::l→Rg (andL x l)∧(pr (andL x l)).2.1≤30∧cnt (andL x l)≤200):Tot (fun k=>g29 k (qg wh)) (whX wh):=by
 cases wh with
 |nil=>exact Goes.fin0 (step:=qfO) (s:=.e (qg [])) fun k rec=>rfl
 |cons x l=>
  obtain⟨hr,hn,hc⟩:=ht x l rfl;have fin:=qEf hr hn hc;simp only[List.length_cons]at hl;have hsz:=qDn (andL x l);have hgd:∀ o:Option (By×Int),gd (decide ((strB [32,87,72,69,82,69,32]).size+(prP (andL x l)).1.size≤1000000000)) o=o:=gdT (by rw[show(strB [32,87,72,69,82,69,32]).size=7 from rfl];omega);have l2:∀ (m:List Ex) (c:Ex) (i:Nat),l.drop i=m→i≤l.length→andL c m=andL x l→Goes qfO (.h2 (qg l) (l.length:Int) (i:Int) c.op (qg c.args) c.n c.scale c.name c.attr c.pos) (whX (x::l)):=by
   intro m
   induction m with
   |nil=>intro c i hd hi he;have:l.length≤i:=List.drop_eq_nil_iff.1 hd;have he:c=andL x l:=he;rw[← he]at fin hgd;refine .done fin fun k rec b=>?_;simp only[qfO,ltF (show ¬ i<l.length by omega),af,qvu,b,ae,tup2];rw[hgd];show _=some (strB [32,87,72,69,82,69,32]++(prP (andL x l)).1,(prP (andL x l)).2);rw[← he]
   |cons y m ih=>
    intro c i hd hi he;have h1:i<l.length:=by
     rcases Nat.lt_or_ge i l.length with h|h
     · exact h
     · rw[List.drop_eq_nil_of_le h]at hd;cases hd
    have e1:l[i]? = some y:=by rw[← List.head?_drop,hd];rfl
    have s1:=ih (two 13 c y 0) (i+1) (by rw[← List.drop_drop,hd];rfl) (by omega) he;rw[qCv]at s1;have s2:Goes qfO (.h1 (qg l) (l.length:Int) (i:Int) 13 [[ic c.op,.imm (qg c.args),ic c.n,ic c.scale,sc c.name,sc c.attr,ic c.pos],[ic y.op,.imm (qg y.args),ic y.n,ic y.scale,sc y.name,sc y.attr,ic y.pos]] 0 0 (strB []) (strB []) 0) (whX (x::l)):=.rec0 s1 fun k rec=>by simp only[qfO,zq i (by omega)];rfl
    refine .rec0 s2 fun k rec=>?_;simp only[qfO,ltT h1,ah,Yi (qhi e1),qkU,qvu]
  have s0:Goes qfO (.h0 (qg l) (l.length:Int) 0 x.op (qg x.args) x.n x.scale x.name x.attr x.pos) (whX (x::l)):=by
   cases l with
   |nil=>refine .done fin fun k rec b=>?_;have b:g6 k x.op (qg x.args) x.n x.scale x.name x.attr x.pos=some (prP (andL x [])):=b;simp only[qfO,List.length_nil,show decide ((0:Int)<((0:Nat):Int))=false from rfl,af,b,ae,tup2];rw[hgd];rfl
   |cons y m=>
    have s1:=l2 m (two 13 x y 0) 1 rfl (by simp) rfl;rw[qCv]at s1;have s2:Goes qfO (.h1 (qg (y::m)) ((y::m).length:Int) 0 13 [[ic x.op,.imm (qg x.args),ic x.n,ic x.scale,sc x.name,sc x.attr,ic x.pos],[ic y.op,.imm (qg y.args),ic y.n,ic y.scale,sc y.name,sc y.attr,ic y.pos]] 0 0 (strB []) (strB []) 0) (whX (x::y::m)):=.rec0 s1 fun k rec=>by simp only[qfO];rfl
    refine .rec0 s2 fun k rec=>?_;simp only[qfO,show decide ((0:Int)<((y::m).length:Int))=true from aO (by simp only[List.length_cons];omega),ah,ix_0,qkU]
  refine Goes.rec0 (step:=qfO) (s:=.e (qg (x::l))) s0 fun k rec=>?_;have hz:(((qg (x::l)).length:Int)==0)=false:=by rw[Yt,beq_eq_false_iff_ne];simp only[List.length_cons];omega
  have hsl:slOk 1 ((qg (x::l)).length:Int) (qg (x::l)) 7=true:=by unfold slOk;rw[aX,Yt];refine⟨by omega,by simp only[List.length_cons];omega,Int.le_refl _,?_⟩;rw[qg,qjn];rfl
  have hdr:List.drop (Int.toNat 1) (List.take (Int.toNat ((qg (x::l)).length:Int)) (qg (x::l)))=qg l:=by rw[Int.toNat_natCast,List.take_length];rfl
  simp only[qfO,hz,af,ix_0,qkU,hsl,ZW,hdr];rw[Yt]
set_option maxRecDepth 100000 in
theorem qBR:∀ (l:List (List It)) (j:Nat) (acc:List UInt8),(∀ b∈l,b≠[]∧b.length≤8∧∀ x∈b,RgI x)→acc.length+600*l.length≤100000 →
  Tot (fun k=>qvT k j (zf l) acc) (match l with
   |[]=>acc
   |b::m=>(if j=0 then acc else acc++[32,124,32])++(brsT (b::m)).data.toList)
 |[],j,acc,_,_=>⟨0,fun k _=>rfl⟩
 |[b],j,acc,h,hl=>by have hb:=h b au;obtain⟨N,hN⟩:=qC3 hb.1 hb.2.2 hb.2.1;have:=qCE hb.2.2 hb.2.1;refine⟨N,fun k hk=>?_⟩;have e:=hN k hk;simp only at e;show qvT k j [[.imm (xe b)]] acc=_;simp only[List.length_cons,List.length_nil]at hl;simp only[qvT,e,ae];rw[aD (by omega)];rfl
 |b::c::l,j,acc,h,hl=>by
  have hb:=h b au;have hz:=qCE hb.2.2 hb.2.1;simp only[List.length_cons]at hl;have ha:((if j=0 then acc else acc++[32,124,32])++(brT b).data.toList).length≤acc.length+503:=by
   have:(brT b).data.toList.length=(brT b).size:=by rw[Array.length_toList];rfl
   split<;>simp only[List.length_append,this,List.length_cons,List.length_nil]<;>omega
  obtain⟨N,hN⟩:=qC3 hb.1 hb.2.2 hb.2.1;obtain⟨A,hA⟩:∃ A,A=(if j=0 then acc else acc++[32,124,32])++(brT b).data.toList:=⟨_,rfl⟩
  rw[← hA]at ha;have hb2:A.length+600*(c::l).length≤100000:=by rw[List.length_cons];omega
  obtain⟨M,hM⟩:=qBR (c::l) (j+1) A (fun z hz=>h z (aB _ hz)) hb2;refine⟨N+M,fun k hk=>?_⟩;have e:=hN k (by omega);have e2:=hM k (by omega);simp only at e e2;show qvT k j ([.imm (xe b)]::zf (c::l)) acc=_;simp only[qvT,e,ae];rw[aD (by omega),← hA,e2,aF (by omega),hA];rw[show brsT (b::c::l)=(brT b++strB [32,124,32])++brsT (c::l)from rfl,YO,YO];simp only[List.append_assoc,List.cons_append,List.nil_append];rfl
theorem qCR {st:Int}(h:st=1∨st=2∨st=3):strat st=some (stB st):=by rcases h with rfl|rfl|rfl<;>rfl
theorem qDX {w:By}{n:Int}(h:Own ⟨3,strB [],n,0⟩ w):w.size≤4000:=h.size.2
noncomputable def prQ (q:Qu):By×Int:=if 4000<(quT q).size then(strB [],2)else(quT q,0)
theorem qCJ (key:By):keyL key=(kyT key).data.toList:=by unfold keyL kyT;split<;>rfl
theorem qDH (q:Qu){wh ws:By}(h1:wh=whT q.wh)(h2:ws=decS q.wd.toNat):(patL++(brsT q.br).data.toList++(behB wh (stB q.st) ws).data.toList++keyL q.key)=(quT q).data.toList:=by subst h1 h2;unfold quT;rw[YO,YO,YO,qCJ];rfl
theorem qBc {q:Qu}(h:RgQ q):Tot (fun k=>qvw k (zf q.br) (qg q.wh) q.st q.wd q.key q.ka) (prQ q):=by
 have h4:=h.br.2;obtain⟨N1,t1⟩:=qD5 h;obtain⟨N2,t2⟩:=qD6 h;have hwl:q.wh.length≤1000:=by have:=h.nd;unfold qu2 at this;have:=qfm q.wh;omega
 obtain⟨N3,t3⟩:=qjW hwl fun x l e=>h.tree e;obtain⟨b,m,hbr⟩:∃ b m,q.br=b::m:=by
  cases hb:q.br with
  |nil=>exact absurd hb h.br.1
  |cons b m=>exact⟨b,m,rfl⟩
 obtain⟨N4,t4⟩:=qBR q.br 0 patL h.it (by simp only[patL,List.length_cons,List.length_nil];omega);rw[hbr]at t4;simp only[aD]at t4;rw[← hbr]at t4;have hv:q.wd=((q.wd.toNat:Nat):Int):=by have:=h.wd.1;omega
 have t5:fmtX q.wd=some (decS q.wd.toNat):=by rw[hv,Int.toNat_natCast];exact qAP (by have:=h.wd.2.1;omega)
 have hws:=qDX h.wd.2.2;have hsb:=qCZ h.it;have hky:q.key.size≤24:=by
  rcases h.key with e|e
  · rw[e];decide
  · exact e.len
 have hwx:(whX q.wh).1.size≤4007:=by
  cases q.wh with
  |nil=>decide
  |cons x l=>have:=qDn (andL x l);unfold whX;simp only[ByteArray.size_append,show(strB [32,87,72,69,82,69,32]).size=7 from rfl];omega
 refine⟨N1+N2+N3+N4,fun k hk=>?_⟩;have t1:=t1 k (by omega);have t2:=t2 k (by omega);have t3:=t3 k (by omega);have t4:=t4 k (by omega);simp only at t1 t2 t3 t4;have hbl:(patL++(brsT q.br).data.toList).length≤3000:=by rw[List.length_append,Array.length_toList];show 8+(brsT q.br).size≤3000;omega
 unfold qvw;simp only[t1,t2,t3,t4,t5,qCR h.st,ae,ah,af,tup2];rw[show(decide ((whX q.wh).1.size≤1000000)&&(decide ((decS q.wd.toNat).size≤1000000)&&(decide ((patL++(brsT q.br).data.toList).length≤1000000000)&&(decide ((zf q.br).length≤1000000000)&&decide (q.key.size≤1000000)))))=true by simp only[aC,aX,qu0];omega];rw[ah];have hx:whX q.wh=(whT q.wh,0)∨(whX q.wh).2=2∧4000<(quT q).size:=by
  cases hw:q.wh with
  |nil=>exact .inl rfl
  |cons x l=>
   have e:whX (x::l)=(strB [32,87,72,69,82,69,32]++(prP (andL x l)).1,(prP (andL x l)).2):=rfl;rw[e];unfold prP;by_cases hs:4000<(pr (andL x l)).1.size
   · rw[aD hs];refine .inr ⟨rfl,?_⟩;unfold quT behB;rw[hw];unfold whT;simp only[ByteArray.size_append];omega
   · rw[aF hs];exact .inl rfl
 rcases hx with hx|⟨hx,hs⟩
 ·
  rw[hx];simp only;rw[qDH q rfl rfl];have hl:(quT q).data.toList.length=(quT q).size:=by rw[Array.length_toList];rfl
  rw[hl];unfold prQ;by_cases hs:4000<(quT q).size
  · rw[aD hs,show(decide ((quT q).size>4000)||(0:Int)==2)=true by simp[hs]];rfl
  · rw[aF hs,show(decide ((quT q).size>4000)||(0:Int)==2)=false by simp;omega];rfl
 · unfold prQ;rw[aD hs,hx,show((2:Int)==2)=true from rfl,Bool.or_true];rfl
end
end Ab
end Go.Proofs.YtpdhhkfllkgahaaGreatDoor
