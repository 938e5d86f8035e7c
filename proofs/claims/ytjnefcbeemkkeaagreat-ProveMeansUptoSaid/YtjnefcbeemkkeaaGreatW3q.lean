/-
  Which code may be run: the document's answer. No claim stands here.
-/
import Derived.Test.YtjnefcbeemkkeaaGreatW2q
set_option linter.all false
namespace Go.Proofs.YtjnefcbeemkkeaaGreat
namespace Ab
variable [Glob]
section
variable {c:quY} (hL:c.L.length<1073741824)
include hL
theorem qBQ {n:Int}{rm sm:Es}{i:Int}:Goes qb (.h4 n false rm sm i c.regs c.slots c.Ir c.Cr c.Lr) false:=by have h:Goes qb (.h5 n false rm sm i false c.regs c.slots c.Ir c.Cr c.Lr) false:=Goes.fin fun k=>rfl;exact h.go fun k=>rfl
theorem qBP {b r:Bool}{n:Int}{rm sm:Es}{i:Nat}(hi:i<c.L.length)(h:b=true->Goes qb (.h4 n true rm sm ((i+1:Nat):Int) c.regs c.slots c.Ir c.Cr c.Lr) r):Goes qb (.h12 n b rm sm (i:Int) c.regs c.slots c.Ir c.Cr c.Lr) (b&&r):=by
 have e:Goes qb (.h4 n b rm sm ((i+1:Nat):Int) c.regs c.slots c.Ir c.Cr c.Lr) (b&&r):=by
  cases b
  . exact qBQ hL
  . exact h rfl
 refine e.go fun k=>?_;simp only[qb];rw[zq (by omega)]
def qy4 (c:quY)(i:Nat)(x:Ins4):Bool:=
 if x.op=50 then decide (0<=x.a/\x.a<c.I.length)
 else if x.op=51 then decide (0<=x.a/\x.a<c.C.length)
 else if x.op=54 then isW c.L true i x.a
 else decide (nOps x.op>0)
def badB (c:quY)(i:Nat)(x:Ins4):Bool:=decide ((nOps x.op<2/\x.op≠53/\x.b≠0)\/¬ (x.op=52↔i+1=c.L.length))
theorem qDy (c:quY)(i:Nat)(x:Ins4):okB c i x=(!badB c i x&&((reads x).all (isW c.L false i) &&
  (if x.op=52 then decide (x.dst=0)else if x.op=53 then decide (x.dst=0/\0<=x.a/\x.a<c.slots)&&isW c.L false i x.b else qy4 c i x&&decide (0<=x.dst/\x.dst<c.regs)))):=by
 have c50:nOps 50=0:=rfl;have c51:nOps 51=0:=rfl;have c52:nOps 52=0:=rfl;have c53:nOps 53=0:=rfl;have c54:nOps 54=0:=rfl;rw[Bool.eq_iff_iff];unfold okB qvB badB qy4 reads;by_cases h50:x.op=50
 . simp[h50,c50];omega
 by_cases h51:x.op=51
 . simp[h51,c51];omega
 by_cases h53:x.op=53
 . cases isW c.L false i x.b<;>(simp[h53,c53];try omega)
 by_cases h54:x.op=54
 . simp[h54,c54];cases isW c.L true i x.a<;>simp;omega
 by_cases h52:x.op=52
 . simp[h52,c52];cases isW c.L false i x.a<;>simp;omega
 rcases qxC x.op with hn|hn|hn
 . simp[h50,h51,h53,h54,h52,hn]
 . simp[h50,h51,h53,h54,h52,hn];cases isW c.L false i x.a<;>simp;omega
 . simp[h50,h51,h53,h54,h52,hn];cases isW c.L false i x.a<;>cases isW c.L false i x.b<;>simp;omega
theorem qC5 {x:Ins4}{b r:Bool}{rm sm:Es}{i:Nat}(hi:i<c.L.length)(hbad:badB c i x=false)(hr:SetM rm (isW c.L false i))(hs:SetM sm (isW c.L true i))(hx:c.L[i]? = some x)(h52:x.op=52->r=true)(h:∀ rm sm,SetM rm (isW c.L false (i+1))->SetM sm (isW c.L true (i+1))->Goes qb (.h4 (c.L.length:Int) true rm sm ((i+1:Nat):Int) c.regs c.slots c.Ir c.Cr c.Lr) r):
  Goes qb (.h11 (c.L.length:Int) b rm sm (i:Int) (nOps x.op) false x.op x.dst x.a x.b c.regs c.slots c.Ir c.Cr c.Lr) ((b&&(if x.op=52 then decide (x.dst=0)else if x.op=53 then decide (x.dst=0/\0<=x.a/\x.a<c.slots)&&isW c.L false i x.b else qy4 c i x&&decide (0<=x.dst/\x.dst<c.regs)))&&r):=by
 have li:(c.Ir.length:Int)=c.I.length:=by simp[quY.Ir]
 have lc:(c.Cr.length:Int)=c.C.length:=by simp[quY.Cr]
 by_cases h52':x.op=52
 . rw[h52 h52',Bool.and_true];refine Goes.fin fun k=>?_;simp only[qb,af,zt,aF h52'];cases b<;>simp;exact qxO ..
 by_cases h53:x.op=53
 .
  obtain⟨es',p1,p2⟩:=hs.put x.a;rw[aG h52',aF h53];have go:=qBP hL (b:=b&&(decide (x.dst=0/\0<=x.a/\x.a<c.slots)&&isW c.L false i x.b)) (n:=(c.L.length:Int)) (rm:=rm) (sm:=es') (r:=r) hi fun _=>h _ _ (hr.eq (by funext r;rw[qvm hx];simp[wrote,h53])) (p2.eq (by funext r;rw[qvm hx];simp[wrote,h53,eq_comm]));refine go.go fun k=>?_;simp only[qb,af,zt,aG h52',aF h53,xe,p1,ae];cases b
  . simp
  .
   rw[ah,hr.look _ _ _ (by rfl)];by_cases h1:x.dst=0/\0<=x.a/\x.a<c.slots
   . rw[aF h1.1,aF h1.2.1,aF h1.2.2,decide_eq_true h1];rfl
   . rw[aO h1]
     (repeat' split)<;>first|rfl|(exfalso;omega)
 rw[aG h52',aG h53];have h13:∀ b',Goes qb (.h13 (c.L.length:Int) b' rm sm (i:Int) x.op x.dst x.a x.b c.regs c.slots c.Ir c.Cr c.Lr) ((b'&&decide (0<=x.dst/\x.dst<c.regs))&&r):=fun b'=>by
  obtain⟨es',p1,p2⟩:=hr.put x.dst;have go:=qBP hL (b:=b'&&decide (0<=x.dst/\x.dst<c.regs)) (n:=(c.L.length:Int)) (rm:=es') (sm:=sm) (r:=r) hi fun _=>h _ _ (p2.eq (by funext r;rw[qvm hx];simp[wrote,h53,h52',eq_comm])) (hs.eq (by funext r;rw[qvm hx];simp[wrote,h53]));refine go.go fun k=>?_;simp only[qb,xe,p1,ae];cases b'
  . simp
  . rw[ah];by_cases h1:x.dst>=0
    . rw[aF h1,show decide (0<=x.dst/\x.dst<c.regs)=decide (x.dst<c.regs)by simp only[show(0<=x.dst)from h1,true_and]];rfl
    . rw[aG h1,aO (by omega)];rfl
 have e:=h13 (b&&qy4 c i x);rw[Bool.and_assoc b]at e;refine e.go fun k=>?_;simp only[qb,af,zt,aG h52',aG h53,xe,qy4,li,lc];by_cases h50:x.op=50
 .
  simp only[aF h50];cases b
  . simp
  . rw[ah];by_cases h1:x.a>=0
    . rw[aF h1,show decide (0<=x.a/\x.a<(c.I.length:Int))=decide (x.a<(c.I.length:Int))by simp only[show(0<=x.a)from h1,true_and]];rfl
    . rw[aG h1,aO (by omega)];rfl
 by_cases h51:x.op=51
 .
  simp only[aG h50,aF h51];cases b
  . simp
  . rw[ah];by_cases h1:x.a>=0
    . rw[aF h1,show decide (0<=x.a/\x.a<(c.C.length:Int))=decide (x.a<(c.C.length:Int))by simp only[show(0<=x.a)from h1,true_and]];rfl
    . rw[aG h1,aO (by omega)];rfl
 by_cases h54:x.op=54
 .
  simp only[aG h50,aG h51,aF h54];cases b
  . simp
  . rw[ah,hs.look _ _ _ (by rfl)];simp
 .
  simp only[aG h50,aG h51,aG h54];cases b
  . simp
  . rw[ah];simp
theorem qEi {x:Ins4}{b r:Bool}{rm sm:Es}{i:Nat}(hi:i<c.L.length)(hr:SetM rm (isW c.L false i))(hs:SetM sm (isW c.L true i))(hx:c.L[i]? = some x)(h52:x.op=52->i+1=c.L.length->r=true)(h:∀ rm sm,SetM rm (isW c.L false (i+1))->SetM sm (isW c.L true (i+1))->Goes qb (.h4 (c.L.length:Int) true rm sm ((i+1:Nat):Int) c.regs c.slots c.Ir c.Cr c.Lr) r):
  Goes qb (.h9 (c.L.length:Int) b rm sm (i:Int) (nOps x.op) x.op x.dst x.a x.b c.regs c.slots c.Ir c.Cr c.Lr) ((!badB c i x&&(b&&(if x.op=52 then decide (x.dst=0)else if x.op=53 then decide (x.dst=0/\0<=x.a/\x.a<c.slots)&&isW c.L false i x.b else qy4 c i x&&decide (0<=x.dst/\x.dst<c.regs))))&&r):=by
 have hw:IntKind.i64.wrap ((c.L.length:Int)-1)=((c.L.length-1:Nat):Int):=by rw[wrapN (by omega) (by omega)];omega
 have hbd:Goes qb (.h11 (c.L.length:Int) b rm sm (i:Int) (nOps x.op) (badB c i x) x.op x.dst x.a x.b c.regs c.slots c.Ir c.Cr c.Lr) ((!badB c i x&&(b&&(if x.op=52 then decide (x.dst=0)else if x.op=53 then decide (x.dst=0/\0<=x.a/\x.a<c.slots)&&isW c.L false i x.b else qy4 c i x&&decide (0<=x.dst/\x.dst<c.regs))))&&r):=by
  cases hb:badB c i x with
  |true=>exact Goes.fin fun k=>rfl
  |false=>rw[Bool.not_false,Bool.true_and];refine qC5 hL hi hb hr hs hx (fun h2=>h52 h2 ?_) h;simp only[badB,decide_eq_false_iff_not]at hb;simpa [h2]using fun q=>hb (.inr q)
 refine hbd.go fun k=>?_;simp only[qb,xe,qvM,hw,badB];have e1:((x.op==52)!=((i:Int)==((c.L.length-1:Nat):Int)))=decide (¬ (x.op=52↔i+1=c.L.length)):=qBX (by omega);have e2:x.op=53->(false != ((i:Int)==((c.L.length-1:Nat):Int)))=decide (¬ (x.op=52↔i+1=c.L.length)):=by intro a1;rw[<- e1,a1];rfl
 by_cases hk:nOps x.op<2
 .
  rw[aF hk];by_cases h53:x.op=53
  . rw[aF h53,e2 h53];congr 2;rw[Bool.eq_iff_iff,aY,aY];omega
  . rw[aG h53];by_cases hb:x.b=0
    . rw[aF hb,e1];congr 2;rw[Bool.eq_iff_iff,aY,aY];omega
    . rw[aG hb,decide_eq_true (.inl ⟨hk,h53,hb⟩)]
 . rw[aG hk,e1];congr 2;rw[Bool.eq_iff_iff,aY,aY];omega
theorem qC8 {x:Ins4}{r:Bool}{rm sm:Es}{i:Nat}(hr:SetM rm (isW c.L false i))(R:List Int)(hR:R.length<100):
  ∀ (m j:Nat) (b:Bool),j+m=R.length->Goes qb (.h9 (c.L.length:Int) (b&&(R.drop j).all (isW c.L false i)) rm sm (i:Int) (nOps x.op) x.op x.dst x.a x.b c.regs c.slots c.Ir c.Cr c.Lr) r ->
  Goes qb (.h6 (c.L.length:Int) b rm sm (i:Int) (nOps x.op) (R.map oneR) (R.length:Int) (j:Int) x.op x.dst x.a x.b c.regs c.slots c.Ir c.Cr c.Lr) r
 |0,j,b,hj,h=>by rw[List.drop_eq_nil_of_le (by omega),List.all_nil,Bool.and_true]at h;refine h.go fun k=>?_;simp only[qb,xe];rw[aG (by omega)]
 |m+1,j,b,hj,h=>by
  have hlt:j<R.length:=by omega
  have hx:R[j]? = some R[j]:=ax hlt;rw[List.drop_eq_getElem_cons hlt,List.all_cons]at h;have ih:=qC8 (x:=x) (r:=r) (rm:=rm) (sm:=sm) (i:=i) hr R hR m (j+1) (b&&isW c.L false i R[j]) (by omega) (by rw[Bool.and_assoc];exact h);have ih8:Goes qb (.h8 (c.L.length:Int) (b&&isW c.L false i R[j]) rm sm (i:Int) (nOps x.op) (R.map oneR) (R.length:Int) (j:Int) x.op x.dst x.a x.b c.regs c.slots c.Ir c.Cr c.Lr) r:=by refine ih.go fun k=>?_;simp only[qb];rw[zq (by omega)]
  refine ih8.go fun k=>?_;simp only[qb,xe];rw[aF (by omega),Yi (rwAt hx),qyC];cases b
  . rfl
  . rw[ah,hr.look _ _ _ (by rfl),Bool.true_and]
theorem qC9 {x:Ins4}{r:Bool}{rm sm:Es}{i:Nat}(hr:SetM rm (isW c.L false i))(R:List Int)(hR:R.length<100):
  ∀ (m j:Nat) (b:Bool),j+m=R.length->Goes qb (.h9 (c.L.length:Int) (b&&(R.drop j).all (isW c.L false i)) rm sm (i:Int) (nOps x.op) x.op x.dst x.a x.b c.regs c.slots c.Ir c.Cr c.Lr) r ->
  Goes qb (.h7 (c.L.length:Int) b rm sm (i:Int) (nOps x.op) (R.map oneR) (R.length:Int) (j:Int) x.op x.dst x.a x.b c.regs c.slots c.Ir c.Cr c.Lr) r
 |0,j,b,hj,h=>by rw[List.drop_eq_nil_of_le (by omega),List.all_nil,Bool.and_true]at h;refine h.go fun k=>?_;simp only[qb,xe];rw[aG (by omega)]
 |m+1,j,b,hj,h=>by
  have hlt:j<R.length:=by omega
  have hx:R[j]? = some R[j]:=ax hlt;rw[List.drop_eq_getElem_cons hlt,List.all_cons]at h;have ih:=qC9 (x:=x) (r:=r) (rm:=rm) (sm:=sm) (i:=i) hr R hR m (j+1) (b&&isW c.L false i R[j]) (by omega) (by rw[Bool.and_assoc];exact h);have ih8:Goes qb (.h10 (c.L.length:Int) (b&&isW c.L false i R[j]) rm sm (i:Int) (nOps x.op) (R.map oneR) (R.length:Int) (j:Int) x.op x.dst x.a x.b c.regs c.slots c.Ir c.Cr c.Lr) r:=by refine ih.go fun k=>?_;simp only[qb];rw[zq (by omega)]
  refine ih8.go fun k=>?_;simp only[qb,xe];rw[aF (by omega),Yi (rwAt hx),qyC];cases b
  . rfl
  . rw[ah,hr.look _ _ _ (by rfl),Bool.true_and]
theorem qxo (x:Ins4):(reads x).length<100:=by unfold reads;(repeat' split)<;>simp
theorem qC7:∀ (m i:Nat) {rm sm:Es},i+m=c.L.length->SetM rm (isW c.L false i)->SetM sm (isW c.L true i)->Goes qb (.h4 (c.L.length:Int) true rm sm (i:Int) c.regs c.slots c.Ir c.Cr c.Lr) (allB c i m)
 |0,i,rm,sm,hi,hr,hs=>by
  have h:Goes qb (.h5 (c.L.length:Int) true rm sm (i:Int) (decide ((i:Int)<(c.L.length:Int))) c.regs c.slots c.Ir c.Cr c.Lr) true:=Goes.fin fun k=>by rw[show decide ((i:Int)<(c.L.length:Int))=false by simp;omega];rfl
  exact h.go fun k=>rfl
 |m+1,i,rm,sm,hi,hr,hs=>by
  have hlt:i<c.L.length:=by omega
  obtain⟨x,hx⟩:∃ x,c.L[i]? = some x:=⟨_,ax hlt⟩
  have ih:=fun (rm sm:Es)=>qC7 (m:=m) (i:=i+1) (rm:=rm) (sm:=sm) (by omega);have h9:=qEi hL (x:=x) (b:=(reads x).all (isW c.L false i)) (r:=allB c (i+1) m) hlt hr hs hx (fun _ h=>by rw[show m=0 by omega];rfl) ih;rw[<- qDy hL c i x]at h9;have e:allB c i (m+1)=(okB c i x&&allB c (i+1) m):=by simp only[allB,hx]
  rw[<- e]at h9;have h67:Goes qb (.h5 (c.L.length:Int) true rm sm (i:Int) (decide ((i:Int)<(c.L.length:Int))) c.regs c.slots c.Ir c.Cr c.Lr) (allB c i (m+1)):=by
   by_cases h52:x.op=52
   . refine Goes.of3 (qm6 x.op) (qiE x) (qC8 hL (x:=x) (sm:=sm) hr (reads x) (qxo hL x) (reads x).length 0 true (by omega) (by simpa using h9)) fun k q1 q2 q3=>?_;simp only[qb,decide_eq_true (show(i:Int)<(c.L.length:Int)by omega),ah];rw[Yi (qwc hx),qvs,q1,ae,q2,ae];simp only[qxH,aF h52,altC,List.length_map];exact q3
   . refine Goes.of3 (qm6 x.op) (qiE x) (qC9 hL (x:=x) (sm:=sm) hr (reads x) (qxo hL x) (reads x).length 0 true (by omega) (by simpa using h9)) fun k q1 q2 q3=>?_;simp only[qb,decide_eq_true (show(i:Int)<(c.L.length:Int)by omega),ah];rw[Yi (qwc hx),qvs,q1,ae,q2,ae];simp only[qxH,aG h52,altC,List.length_map];exact q3
  exact h67.go fun k=>rfl
theorem qC6 (hC:∀ v∈c.C,0<=v.bits/\v.bits<18446744073709551616)(hc:c.C.length<1073741824):∀ (m i:Nat) (b:Bool),i+m=c.C.length ->
  Goes qb (.h2 (c.L.length:Int) b c.Cr (c.C.length:Int) (i:Int) c.regs c.slots c.Ir c.Cr c.Lr) (b&&((c.C.drop i).all (fun v=>decide (clB v=(v.kind,v.bits)))&&allB c 0 c.L.length))
 |0,i,b,hi=>by
  rw[List.drop_eq_nil_of_le (by omega),List.all_nil,Bool.true_and];have h:Goes qb (.h4 (c.L.length:Int) b [] [] ((0:Nat):Int) c.regs c.slots c.Ir c.Cr c.Lr) (b&&allB c 0 c.L.length):=by
   cases b
   . exact qBQ hL
   . exact qC7 hL c.L.length 0 (rm:=[]) (sm:=[]) (by omega) ⟨fun p hp=>(by cases hp),fun k=>rfl⟩ ⟨fun p hp=>(by cases hp),fun k=>rfl⟩
  refine h.go fun k=>?_;simp only[qb,xe];rw[aG (by omega)];rfl
 |m+1,i,b,hi=>by
  have hlt:i<c.C.length:=by omega
  have hx:c.C[i]? = some c.C[i]:=ax hlt;have hb:=hC _ (List.getElem_mem hlt);have ih:=fun b=>qC6 hC hc m (i+1) b (by omega);rw[List.drop_eq_getElem_cons hlt,List.all_cons];have h3:∀ b',Goes qb (.h3 (c.L.length:Int) b' c.Cr (c.C.length:Int) (i:Int) c.regs c.slots c.Ir c.Cr c.Lr) (b'&&((c.C.drop (i+1)).all (fun v=>decide (clB v=(v.kind,v.bits)))&&allB c 0 c.L.length)):=fun b'=>by refine(ih b').go fun k=>?_;simp only[qb];rw[zq (by omega)]
  have h3:=h3 (b&&decide (clB c.C[i]=(c.C[i].kind,c.C[i].bits)));rw[Bool.and_assoc,<- Bool.and_assoc (decide _)]at h3;refine Goes.of2 (zK c.C[i] hb.1 hb.2) h3 fun k q1 q2=>?_;simp only[qb,xe];rw[aF (by omega),Yi (qBd hx),qBG,q1];simp only[ae,tup2];cases b
  . exact q2
  . rw[ah];rw[Bool.true_and]at q2;have:((clB c.C[i]).1==c.C[i].kind&&((clB c.C[i]).2==c.C[i].bits&&true))=decide (clB c.C[i]=(c.C[i].kind,c.C[i].bits)):=by rw[Bool.eq_iff_iff];simp[Prod.ext_iff]
    rw[this];exact q2
theorem qC4 (hC:∀ v∈c.C,0<=v.bits/\v.bits<18446744073709551616)(hc:c.C.length<1073741824)(hI:c.I.length<1073741824):∀ (m i:Nat) (b:Bool),i+m=c.I.length ->
  Goes qb (.h0 (c.L.length:Int) b c.Ir (c.I.length:Int) (i:Int) c.regs c.slots c.Ir c.Cr c.Lr) (b&&((c.I.drop i).all inB&&(c.C.all (fun v=>decide (clB v=(v.kind,v.bits)))&&allB c 0 c.L.length)))
 |0,i,b,hi=>by rw[List.drop_eq_nil_of_le (by omega),List.all_nil,Bool.true_and];refine(qC6 hL hC hc c.C.length 0 b (by omega)).go fun k=>?_;simp only[qb,xe];rw[aG (by omega)];simp[quY.Cr]
 |m+1,i,b,hi=>by
  have hlt:i<c.I.length:=by omega
  have hx:c.I[i]? = some c.I[i]:=ax hlt;have ih:=fun b=>qC4 hC hc hI m (i+1) b (by omega);rw[List.drop_eq_getElem_cons hlt,List.all_cons];have h1:∀ b',Goes qb (.h1 (c.L.length:Int) b' c.Ir (c.I.length:Int) (i:Int) c.regs c.slots c.Ir c.Cr c.Lr) (b'&&((c.I.drop (i+1)).all inB&&(c.C.all (fun v=>decide (clB v=(v.kind,v.bits)))&&allB c 0 c.L.length))):=fun b'=>by refine(ih b').go fun k=>?_;simp only[qb];rw[zq (by omega)]
  have h1:=h1 (b&&inB c.I[i]);rw[Bool.and_assoc,<- Bool.and_assoc (inB _)]at h1;refine Goes.of2 (qDl c.I[i]) h1 fun k q1 q2=>?_;simp only[qb,xe];rw[aF (by omega),Yi (qBe hx),qBE,q1];cases b
  . exact q2
  . exact q2
theorem qtv (hC:∀ v∈c.C,0<=v.bits/\v.bits<18446744073709551616)(hc:c.C.length<1073741824)(hI:c.I.length<1073741824):Tot (fun k=>g22 k c.regs c.slots c.Ir c.Cr c.Lr) (qwV c):=by
 have ll:(c.Lr.length:Int)=c.L.length:=by simp[quY.Lr]
 have h0:=qC4 hL hC hc hI c.I.length 0 (decide (1<=c.regs/\c.regs<=1024/\0<=c.slots/\c.slots<=256/\1<=c.L.length/\c.L.length<=1024)) (by omega);refine Goes.go (s:=S22.e ..) (show Goes qb _ (qwV c)from h0) fun k=>?_;simp only[qb,xe,ll];have li:(c.Ir.length:Int)=c.I.length:=by simp[quY.Ir]
 rw[li]
 (repeat' split)<;>(congr 2;rw[Bool.eq_iff_iff];simp only[aY,decide_eq_false_iff_not,false_iff,aU];omega)
end
end Ab
end Go.Proofs.YtjnefcbeemkkeaaGreat
