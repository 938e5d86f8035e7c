/-
  What is parsed is a right tree, of no more nest than may be; trees that are the same have the same text.
-/
import Derived.Test.YtfekohpjaafnhaaGreatDoorBcq
set_option linter.all false
namespace Go.Proofs.YtfekohpjaafnhaaGreatDoor
namespace Ab
def TkOk (t:Tk):Prop:=∃ w,Own t w∧(t.kind=2→GN t.text)∧(t.kind=5→GN t.text∧w=(strB [39]++t.text)++strB [39])∧(t.kind=3→t.text=strB []∧t.scale=0)∧(t.kind=4→t.text=strB [])
def TsOk (L:List Tok):Prop:=∀ i,(tkA L i).kind≠0→TkOk (nop (tkA L i))
section
variable {L:List Tok} (hL:TsOk L)
include hL
omit hL in
end
def Ne (x:Ex)(l o:Nat):Prop:=Rg x∧(opr l (x.op,pr x)).2.1+o≤30
theorem qvX {x:Int×Pr}{l m:Nat}(h:l≤m):(opr l x).2.1≤(opr m x).2.1:=by
 unfold opr;split
 · rw[aD (by omega)];exact Nat.le_refl _
 ·
  split
  · exact Nat.le_succ _
  · exact Nat.le_refl _
theorem Ne.le {x:Ex}{l m o:Nat}(h:Ne x m o)(hl:l≤m):Ne x l o:=⟨h.1,by have:=qvX (x:=(x.op,pr x)) hl;have:=h.2;omega⟩
mutual
theorem qvg:∀ x y:Ex,qbA x y=true→pr x=pr y∧x.op=y.op∧cnt x=cnt y
 |.mk o gs n s nm am p,.mk o' gs' n' s' nm' am' p',h=>by
  rw[qbA]at h;simp only[aC,Bool.not_eq_true',Bool.or_eq_false_iff,bne_eq_false_iff_eq,Bool.not_eq_false',beq_iff_eq]at h;obtain⟨⟨rfl,rfl,rfl,h1,h2,h3⟩,h4⟩:=h;have e1:=toList_inj h1;have e2:=toList_inj h2;subst e1;subst e2;obtain⟨e3,e4⟩:=qvp gs gs' (by omega) h4;refine⟨?_,rfl,?_⟩
  · simp only[pr,e3]
  · simp only[cnt,e4]
theorem qvp:∀ l m:List Ex,l.length=m.length→Zp l m=true→prs l=prs m∧cnts l=cnts m
 |[],[],_,_=>⟨rfl,rfl⟩
 |[],_::_,h,_=>by cases h
 |_::_,[],h,_=>by cases h
 |a::l,b::m,h,h2=>by rw[Zp,aC]at h2;obtain⟨e1,e2,e3⟩:=qvg a b h2.1;obtain⟨e4,e5⟩:=qvp l m (by simpa using h) h2.2;simp only[prs,cnts,e1,e2,e3,e4,e5,and_self]
end
theorem qv2 {op:Int}(h:0≤op∧op≤17):(sgA op).size≤5:=by rcases(by omega:op=0∨op=1∨op=2∨op=3∨op=4∨op=5∨op=6∨op=7∨op=8∨op=9∨op=10∨op=11∨op=12∨op=13∨op=14∨op=15∨op=16∨op=17)with rfl|rfl|rfl|rfl|rfl|rfl|rfl|rfl|rfl|rfl|rfl|rfl|rfl|rfl|rfl|rfl|rfl|rfl<;>decide
theorem GA.sz {b:ByteArray}(h:GA b):b.size≤24:=by
 rcases h with h|rfl
 · exact h.pos.2.1
 · decide
theorem qwY {op n s:Int}{a b:ByteArray}(h:LfOk op n s a b):(lfT op n s a b).size≤4040:=by
 rcases h with⟨rfl,h,rfl,rfl,rfl⟩|⟨rfl,h,rfl,rfl⟩|⟨rfl,h,rfl,rfl,rfl⟩|⟨rfl,h,h2,rfl,rfl,rfl⟩|⟨rfl,h,h2,rfl,rfl⟩|⟨rfl,h,rfl,rfl,rfl⟩|⟨h1,h3,h,h2,rfl,rfl⟩
 · rw[qvz];have:=(quZ h).size;omega
 · rw[qvA];have:=(quZ h).size;omega
 · rw[qvB];rcases h with rfl|rfl<;>decide
 · rw[qvC];have:=h.size;omega
 · rw[qvD];simp only[ByteArray.size_append,bsz1];have:=h.pos;have:=h2.sz;omega
 · rw[qvE];simp only[ByteArray.size_append,bsz1];have:(strB [67,79,85,78,84]).size=5:=rfl;have:=h.pos;omega
 · rw[qvF ⟨h1,h3⟩];simp only[ByteArray.size_append,bsz1];have:(agA op).size≤5:=by rcases(by omega:op=26∨op=27∨op=28∨op=29∨op=30∨op=31)with rfl|rfl|rfl|rfl|rfl|rfl<;>decide
   have:=h.pos;have:=h2.sz;omega
theorem qu4 (l:Nat)(x:Int×Pr):(opr l x).1.size≤x.2.1.size+2:=by
 unfold opr;split
 · simp only[ByteArray.size_append,bsz1];omega
 · omega
theorem qvZ {x:Ex}(h:Rg x):(pr x).1.size+60≤4100*cnt x:=by
 induction h with
 |@leaf op n s a b p h=>
  rw[qu0];have:=qwY h;have e:cnt (lit op n s a b p)=1:=by simp[lit,cnt,cnts]
  show(lfT op n s a b).size+60≤_;omega
 |@una op x p h hx ih=>
  rw[qk8];have h1:=qv2 (op:=op) (by omega);have h2:=qu4 (lsL op) (x.op,pr x);have e:(pr (una op x p)).1.size≤5+((opr (lsL op) (x.op,pr x)).1.size+2):=by
   rw[quY];split
   · show(sgA op++((strB [40]++(opr (lsL op) (x.op,pr x)).1)++strB [41])).size≤_;simp only[ByteArray.size_append,bsz1];omega
   · show(sgA op++(opr (lsL op) (x.op,pr x)).1).size≤_;simp only[ByteArray.size_append];omega
  simp only at h2;omega
 |@two op x y p h hx hy ihx ihy=>
  rw[qiA];have h1:=qv2 (op:=op) (by omega);have h2:=qu4 (lsL op) (x.op,pr x);have h3:=qu4 (lsR op) (y.op,pr y);have e:(pr (two op x y p)).1.size=(opr (lsL op) (x.op,pr x)).1.size+1+(sgA op).size+1+(opr (lsR op) (y.op,pr y)).1.size:=by rw[qu1];show(((((opr (lsL op) (x.op,pr x)).1++strB [32])++sgA op)++strB [32])++(opr (lsR op) (y.op,pr y)).1).size=_;simp only[ByteArray.size_append,bsz1]
  simp only at h2 h3;omega
end Ab
end Go.Proofs.YtfekohpjaafnhaaGreatDoor
