/-
  Which code may be run: the program and the document say the same. No claim stands here.
-/
import Derived.Test.YtjnefcbeemkkeaaGreatX1q
set_option linter.all false
namespace Go.Proofs.YtjnefcbeemkkeaaGreat
namespace Ab
variable [Glob]
def quY.Ir (c:quY):Rs:=c.I.map inR
def quY.Cr (c:quY):Rs:=c.C.map vlR
def quY.Lr (c:quY):Rs:=c.L.map insR
theorem qwc {c:quY}{i:Nat}{x:Ins4}(h:c.L[i]? = some x):c.Lr[i]? = some (insR x):=rwAt h
theorem qBe {c:quY}{i:Nat}{x:In4}(h:c.I[i]? = some x):c.Ir[i]? = some (inR x):=rwAt h
theorem qBd {c:quY}{i:Nat}{x:Vl}(h:c.C[i]? = some x):c.Cr[i]? = some (vlR x):=rwAt h
def wrote (slot:Bool)(r:Int)(x:Ins4):Bool:=if slot then decide (x.op=53/\x.a=r)else decide (x.op≠53/\x.op≠52/\x.dst=r)
def qwa (L:List Ins4)(slot:Bool)(r:Int):Nat->Option Nat
 |0=>none
 |i+1=>match L[i]? with
  |some x=>if wrote slot r x=true then some i else qwa L slot r i
  |none=>qwa L slot r i
def isW (L:List Ins4)(slot:Bool)(i:Nat)(r:Int):Bool:=(qwa L slot r i).isSome
theorem qvm {L:List Ins4}{i:Nat}{x:Ins4}(h:L[i]? = some x)(slot:Bool)(r:Int):isW L slot (i+1) r=(wrote slot r x||isW L slot i r):=by
 simp only[isW,qwa,h];split
 . rename_i h;rw[h];rfl
 . rename_i h;rw[show wrote slot r x=false by simpa using h];rfl
def qvB (c:quY)(i:Nat)(x:Ins4):Bool:=
 if x.op=50 then decide (0<=x.dst/\x.dst<c.regs)&&decide (x.b=0/\0<=x.a/\x.a<c.I.length)
 else if x.op=51 then decide (0<=x.dst/\x.dst<c.regs)&&decide (x.b=0/\0<=x.a/\x.a<c.C.length)
 else if x.op=53 then decide (x.dst=0/\0<=x.a/\x.a<c.slots)&&isW c.L false i x.b
 else if x.op=54 then decide (0<=x.dst/\x.dst<c.regs)&&(decide (x.b=0)&&isW c.L true i x.a)
 else if x.op=52 then decide (x.dst=0/\x.b=0)&&isW c.L false i x.a
 else if nOps x.op=1 then decide (0<=x.dst/\x.dst<c.regs)&&(decide (x.b=0)&&isW c.L false i x.a)
 else decide (nOps x.op=2)&&(decide (0<=x.dst/\x.dst<c.regs)&&(isW c.L false i x.a&&isW c.L false i x.b))
def okB (c:quY)(i:Nat)(x:Ins4):Bool:=qvB c i x&&decide (x.op=52↔i+1=c.L.length)
def allB (c:quY)(i:Nat):Nat->Bool
 |0=>true
 |m+1=>(match c.L[i]? with|some x=>okB c i x|none=>true)&&allB c (i+1) m
def qwV (c:quY):Bool:=decide (1<=c.regs/\c.regs<=1024/\0<=c.slots/\c.slots<=256/\1<=c.L.length/\c.L.length<=1024)&&(c.I.all inB&&(c.C.all (fun v=>decide (clB v=(v.kind,v.bits)))&&allB c 0 c.L.length))
def SetM (es:Es)(w:Int->Bool):Prop:=OkE es/\∀ k,lk es k=if w k then some [bc true]else none
theorem SetM.put {es:Es}{w:Int->Bool}(h:SetM es w)(k:Int):∃ es',xL Tryz.prog 3 (.int .i64 k) [bc true] es=some es'/\SetM es' fun r=>decide (r=k)||w r:=by obtain⟨es',h1,h2,h3⟩:=qzD (k:=k) (l:=[bc true]) h.1;refine⟨es',h1,h2,fun j=>?_⟩;rw[h3,h.2];by_cases hj:j=k<;>simp[hj]
theorem SetM.look {es:Es}{w:Int->Bool}(h:SetM es w)(k:Int){α:Type}(z:Option α)(f:Bool->Option α)(hz:z=f false):((yU Tryz.prog 3 (.int .i64 k) es).bind fun p=>optC p z fun q=>un_b q f)=f (w k):=by
 rw[find_ok h.1,h.2,ae];cases w k
 . exact hz
 . rfl
theorem SetM.eq {es:Es}{w v:Int->Bool}(h:SetM es w)(e:w=v):SetM es v:=e▸h
section
variable {c:quY} {i:Nat} {x:Ins4} {rm sm:Es} (hr:SetM rm (isW c.L false i)) (hs:SetM sm (isW c.L true i))
include hr hs
theorem qDg (h:x.op≠50/\x.op≠51/\x.op≠52/\x.op≠53/\x.op≠54):Goes qvz (.h1 (decide (0<=x.dst/\x.dst<c.regs)) (decide (nOps x.op=1)) x.op x.dst x.a x.b c.regs c.slots c.Ir c.Cr c.Lr rm sm) (qvB c i x,c.Ir,c.Cr,c.Lr,rm,sm):=Goes.fin fun k=>by
 simp only[qvz,xe,zt,qvB,aG h.1,aG h.2.1,aG h.2.2.1,aG h.2.2.2.1,aG h.2.2.2.2];by_cases h1:nOps x.op=1
 .
  rw[aF h1,aF h1];by_cases hd:0<=x.dst/\x.dst<c.regs
  . rw[aF hd];by_cases hb:x.b=0
    . rw[aF hb,hr.look _ _ _ (by rfl)];simp[hd,hb]
    . rw[aG hb];simp[hb]
  . rw[aG hd];simp[hd]
 .
  rw[aG h1,aG h1];have e2:(nOps x.op=2)↔(x.op>=1/\x.op<=14):=by
   unfold nOps at h1 |-;split at h1
   . exact absurd rfl h1
   . rename_i h3;rw[aG h3];split<;>simp<;>omega
  by_cases h2:x.op>=1
  .
   rw[aF h2];by_cases h3:x.op<=14
   .
    rw[aF h3];by_cases hd:0<=x.dst/\x.dst<c.regs
    . rw[aF hd,hr.look _ _ _ (by rfl)];cases isW c.L false i x.a
      . simp
      . rw[ah,hr.look _ _ _ (by rfl)];simp[hd,e2,h2,h3]
    . rw[aG hd];simp[hd]
   . rw[aG h3];simp[e2,h3]
  . rw[aG h2];simp[e2,h2]
theorem qDf:Goes qvz (.h0 (decide (0<=x.dst/\x.dst<c.regs)) (x.op==50) x.op x.dst x.a x.b c.regs c.slots c.Ir c.Cr c.Lr rm sm) (qvB c i x,c.Ir,c.Cr,c.Lr,rm,sm):=by
 have li:(c.Ir.length:Int)=c.I.length:=by simp[quY.Ir]
 have lc:(c.Cr.length:Int)=c.C.length:=by simp[quY.Cr]
 by_cases h50:x.op=50
 . refine Goes.fin fun k=>?_;simp only[qvz,xe,zt,qvB,aF h50,li]
   (repeat' split)<;>(first|(simp_all;done)|(simp_all;omega))
 by_cases h51:x.op=51
 . refine Goes.fin fun k=>?_;simp only[qvz,xe,zt,qvB,aG h50,aF h51,lc]
   (repeat' split)<;>(first|(simp_all;done)|(simp_all;omega))
 by_cases h53:x.op=53
 . refine Goes.fin fun k=>?_;simp only[qvz,xe,zt,qvB,aG h50,aG h51,aF h53];rw[hr.look _ _ _ (by rfl)]
   (repeat' split)<;>(first|(simp_all;done)|(simp_all;omega))
 by_cases h54:x.op=54
 . refine Goes.fin fun k=>?_;simp only[qvz,xe,zt,qvB,aG h50,aG h51,aG h53,aF h54];rw[hs.look _ _ _ (by rfl)]
   (repeat' split)<;>(first|(simp_all;done)|(simp_all;omega))
 by_cases h52:x.op=52
 . refine Goes.fin fun k=>?_;simp only[qvz,xe,zt,qvB,aG h50,aG h51,aG h53,aG h54,aF h52];rw[hr.look _ _ _ (by rfl)]
   (repeat' split)<;>(first|(simp_all;done)|(simp_all;omega))
 refine(qDg hr hs ⟨h50,h51,h52,h53,h54⟩).go fun k=>?_;simp only[qvz,xe,zt,aG h50,aG h51,aG h53,aG h54,aG h52];have e:(nOps x.op=1)↔(x.op=6\/(x.op>=15/\x.op<=17)):=by unfold nOps;split<;>(try split)<;>simp<;>omega
 by_cases h6:x.op=6
 . rw[aF h6,aQ (e.2 (.inl h6))]
 .
  rw[aG h6];by_cases h15:x.op>=15
  . rw[aF h15];simp[e,h6,h15]
  . rw[aG h15];simp[e,h6,h15]
theorem qDh:Tot (fun k=>g57 k x.op x.dst x.a x.b c.regs c.slots c.Ir c.Cr c.Lr rm sm) (qvB c i x,c.Ir,c.Cr,c.Lr,rm,sm):=by
 refine(qDf hr hs).go (s:=S57.e ..) fun k=>?_;simp only[qvz,xe];by_cases h:x.dst>=0
 . rw[aF h];simp[h]
 . rw[aG h];simp[h]
end
section
variable {c:quY} (hL:c.L.length<1073741824)
include hL
theorem qBN:∀ (m i:Nat) {rm sm:Es},i+m=c.L.length->SetM rm (isW c.L false i)->SetM sm (isW c.L true i) ->
  Goes qve (.h3 c.Lr (c.L.length:Int) (i:Int) c.regs c.slots c.Ir c.Cr c.Lr rm sm c.regs c.slots c.Ir c.Cr c.Lr) (allB c i m)
 |0,i,rm,sm,hi,hr,hs=>Goes.fin fun k=>by simp only[qve,xe];rw[aG (by omega)];rfl
 |m+1,i,rm,sm,hi,hr,hs=>by
  have hlt:i<c.L.length:=by omega
  obtain⟨x,hx⟩:∃ x,c.L[i]? = some x:=⟨_,ax hlt⟩
  have ih:=fun {rm sm:Es}=>qBN (m:=m) (i:=i+1) (rm:=rm) (sm:=sm) (by omega);have hn:(((c.Lr.length:Int)-1))=((c.L.length-1:Nat):Int):=by simp[quY.Lr];omega
  have hw:IntKind.i64.wrap ((c.Lr.length:Int)-1)=((c.L.length-1:Nat):Int):=by rw[hn];exact wrapN (by omega) (by omega)
  have h5:∀ {rm sm:Es} {b:Bool},(b=true->SetM rm (isW c.L false (i+1))/\SetM sm (isW c.L true (i+1)))->b=true->Goes qve (.h5 c.Lr (c.L.length:Int) (i:Int) c.regs c.slots c.Ir c.Cr c.Lr rm sm c.regs c.slots c.Ir c.Cr c.Lr) (b&&allB c (i+1) m):=by intro rm sm b h hb;rw[hb,Bool.true_and];refine(ih (h hb).1 (h hb).2).go fun k=>?_;simp only[qve];rw[zq (by omega)]
  have h4:Goes qve (.h4 c.Lr (c.L.length:Int) (i:Int) (!okB c i x) x.op x.dst x.a x.b c.regs c.slots c.Ir c.Cr c.Lr rm sm c.regs c.slots c.Ir c.Cr c.Lr) (okB c i x&&allB c (i+1) m):=by
   cases hok:okB c i x with
   |false=>exact Goes.fin fun k=>rfl
   |true=>
    by_cases h53:x.op=53
    . obtain⟨es',p1,p2⟩:=hs.put x.a;refine(h5 (rm:=rm) (sm:=es') (b:=true) (fun _=>⟨hr.eq ?_,p2.eq ?_⟩) rfl).go fun k=>?_
      . funext r;rw[qvm hx];simp[wrote,h53]
      . funext r;rw[qvm hx];simp[wrote,h53,eq_comm]
      . simp only[qve,aj,af,zt,aF h53,p1,ae]
    .
     by_cases h52:x.op=52
     . refine(h5 (rm:=rm) (sm:=sm) (b:=true) (fun _=>⟨hr.eq ?_,hs.eq ?_⟩) rfl).go fun k=>?_
       . funext r;rw[qvm hx];simp[wrote,h52]
       . funext r;rw[qvm hx];simp[wrote,h53]
       . simp only[qve,aj,af,zt,qvM,aG h53,aF h52]
     . obtain⟨es',p1,p2⟩:=hr.put x.dst;refine(h5 (rm:=es') (sm:=sm) (b:=true) (fun _=>⟨p2.eq ?_,hs.eq ?_⟩) rfl).go fun k=>?_
       . funext r;rw[qvm hx];simp[wrote,h53,h52,eq_comm]
       . funext r;rw[qvm hx];simp[wrote,h53]
       . simp only[qve,aj,af,zt,qvM,aG h53,aG h52,p1,ae]
  have e:allB c i (m+1)=(okB c i x&&allB c (i+1) m):=by simp only[allB,hx]
  rw[e];refine Goes.of2 (qDh (x:=x) hr hs) h4 fun k q1 q2=>?_;simp only[qve,xe];rw[aF (by omega),Yi (qwc hx),qvs,q1];simp only[ae,tup6];rw[<- q2];cases hb:qvB c i x
  . simp[okB,hb]
  . simp only[aj,af];congr 2;rw[hw,qBX (P:=i+1=c.L.length) (by omega)];simp[okB,hb]
theorem qBM (hC:∀ v∈c.C,0<=v.bits/\v.bits<18446744073709551616)(hc:c.C.length<1073741824):∀ (m i:Nat),i+m=c.C.length ->
  Goes qve (.h2 c.Cr (c.C.length:Int) (i:Int) c.regs c.slots c.Ir c.Cr c.Lr) ((c.C.drop i).all (fun v=>decide (clB v=(v.kind,v.bits)))&&allB c 0 c.L.length)
 |0,i,hi=>by rw[List.drop_eq_nil_of_le (by omega)];refine(qBN hL c.L.length 0 (rm:=[]) (sm:=[]) (by omega) ⟨fun p hp=>(by cases hp),fun k=>rfl⟩ ⟨fun p hp=>(by cases hp),fun k=>rfl⟩).go fun k=>?_;simp only[qve,xe];rw[aG (by omega)];simp[quY.Lr]
 |m+1,i,hi=>by
  have hlt:i<c.C.length:=by omega
  have hx:c.C[i]? = some c.C[i]:=ax hlt;have hb:=hC _ (List.getElem_mem hlt);have ih:=qBM hC hc m (i+1) (by omega);rw[List.drop_eq_getElem_cons hlt,List.all_cons];refine Goes.of2 (qDe c.C[i] hb.1 hb.2) ih fun k q1 q2=>?_;simp only[qve,xe];rw[aF (by omega),Yi (qBd hx),qBG,q1];simp only[ae,tup2];by_cases hcl:clB c.C[i]=(c.C[i].kind,c.C[i].bits)
  . rw[hcl];simp only[beq_self_eq_true,Bool.and_self,aj,af,decide_true,Bool.true_and];rw[zq (by omega)];exact q2
  . have:((clB c.C[i]).1==c.C[i].kind&&((clB c.C[i]).2==c.C[i].bits&&true))=false:=by rw[Bool.eq_false_iff];intro h;simp only[Bool.and_true,aD,beq_iff_eq]at h;exact hcl (Prod.ext h.1 h.2)
    rw[this];simp[hcl]
theorem qBL (hC:∀ v∈c.C,0<=v.bits/\v.bits<18446744073709551616)(hc:c.C.length<1073741824)(hI:c.I.length<1073741824):∀ (m i:Nat),i+m=c.I.length ->
  Goes qve (.h1 c.Ir (c.I.length:Int) (i:Int) c.regs c.slots c.Ir c.Cr c.Lr) ((c.I.drop i).all inB&&(c.C.all (fun v=>decide (clB v=(v.kind,v.bits)))&&allB c 0 c.L.length))
 |0,i,hi=>by rw[List.drop_eq_nil_of_le (by omega)];refine(qBM hL hC hc c.C.length 0 (by omega)).go fun k=>?_;simp only[qve,xe];rw[aG (by omega)];simp[quY.Cr]
 |m+1,i,hi=>by
  have hlt:i<c.I.length:=by omega
  have hx:c.I[i]? = some c.I[i]:=ax hlt;have ih:=qBL hC hc hI m (i+1) (by omega);rw[List.drop_eq_getElem_cons hlt,List.all_cons];refine Goes.of2 (qDd c.I[i]) ih fun k q1 q2=>?_;simp only[qve,xe];rw[aF (by omega),Yi (qBe hx),qBE,q1];simp only[ae];cases inB c.I[i]
  . rfl
  . simp only[aj,af,Bool.true_and];rw[zq (by omega)];exact q2
theorem qBO (hC:∀ v∈c.C,0<=v.bits/\v.bits<18446744073709551616)(hc:c.C.length<1073741824)(hI:c.I.length<1073741824):Tot (fun k=>g19 k c.regs c.slots c.Ir c.Cr c.Lr) (qwV c):=by
 have ll:(c.Lr.length:Int)=c.L.length:=by simp[quY.Lr]
 have h0:∀ b:Bool,b=decide (1<=c.regs/\c.regs<=1024/\0<=c.slots/\c.slots<=256/\1<=c.L.length/\c.L.length<=1024)->Goes qve (.h0 (!b) c.regs c.slots c.Ir c.Cr c.Lr) (qwV c):=by
  intro b hb;unfold qwV;rw[<- hb];cases b
  . exact Goes.fin fun k=>rfl
  . rw[Bool.true_and];refine(qBL hL hC hc hI c.I.length 0 (by omega)).go fun k=>?_;simp only[qve,aj,af];simp[quY.Ir]
 refine(h0 _ rfl).go (s:=S19.e ..) fun k=>?_;simp only[qve,xe,ll]
 (repeat' split)<;>(congr 2;rw[Bool.eq_iff_iff];simp only[aY,Bool.not_eq_true',decide_eq_false_iff_not,true_iff];omega)
end
end Ab
end Go.Proofs.YtjnefcbeemkkeaaGreat
