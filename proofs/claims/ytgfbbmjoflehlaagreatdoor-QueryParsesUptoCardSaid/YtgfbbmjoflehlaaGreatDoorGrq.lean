/-
  Functions of plain values, called from a walk by hand: memory has only grown behind them.
-/
import Derived.Test.YtgfbbmjoflehlaaGreatDoorFQq
set_option linter.all false
namespace Go.Proofs
namespace YtgfbbmjoflehlaaGreatDoor
namespace Ab
variable [Glob]
structure Grew (B:Nat) (w w':World):Prop where
 os:w'.os=w.os
 output:w'.output=w.output
 size:w.heap.size<=w'.heap.size
 block:∀ k,k<B->w'.heap[k]? = w.heap[k]?
theorem Grew.of {B:Nat}{w w':World}(h:Go.RowKit.Below B w w'):Grew B w w':=⟨h.os,h.output,h.size,h.block⟩
theorem Grew.trans {B:Nat}{a b c:World}(h:Grew B a b)(k:Grew B b c):Grew B a c:=⟨k.os.trans h.os,k.output.trans h.output,Nat.le_trans h.size k.size,fun i hi=>(k.block i hi).trans (h.block i hi)⟩
theorem Grew.mono {B B':Nat}{w w':World}(h:Grew B w w')(hB:B'<=B):Grew B' w w':=⟨h.os,h.output,h.size,fun k hk=>h.block k (Nat.lt_of_lt_of_le hk hB)⟩
def bare (im:Nat->Prop):Gh:=⟨fun _=>none,im,fun _=>False⟩
theorem qwj {im:Nat->Prop}{w w':World}(h:GInv (bare im) w){B:Nat}(hB:∀ b,im b->b<B)(hg:Grew B w w'):GInv (bare im) w':=⟨fun k k' x x' e=>(by cases e),fun k x e=>(by cases e),fun b hb=>Nat.lt_of_lt_of_le (h.imlt b hb) hg.size,fun b hb=>⟨(h.glob b hb).1,(hg.block b (hB b (h.glob b hb).1)).trans (h.glob b hb).2⟩⟩
theorem qwS {im:Nat->Prop}{w:World}(hinv:GInv (bare im) w){args:List AV}{Vs:Array Value}(hl:args.length=Vs.size)(hv:∀ (k:Nat) v,args[k]? = some v->(∀ r o c,cellAt v.rows r o=some c->∀ zz rs,c≠.own zz rs)/\∃ V,Vs[k]? = some V/\YY (bare im) w ⟨.slot k,[]⟩ v V):RelF (bare im) w ⟨args,qd 0 []⟩ Vs:=by
 refine⟨hinv,hl,fun k v e=>(hv k v e).2,fun r l e=>by simp[qd]at e,fun d hd=>hd.elim,fun k rows e hi=>?_⟩;exfalso;by_cases hp:k.path=[]
 .
  rcases hi with hi|hi
  . exact hi hp
  . obtain⟨root,path⟩:=k;cases root<;>simp[Root.boxed]at hi<;>simp[Fr.rowsAt,Fr.rows,qd]at e
 .
  obtain⟨r,o,zz,rs,hg⟩:=Zg e hp;unfold Fr.get at hg;cases hx:Fr.rowsAt ⟨args,qd 0 []⟩ ⟨k.root,[]⟩with
  |none=>simp[hx]at hg
  |some rows'=>
   simp only[hx,ae]at hg;obtain⟨root,path⟩:=k;cases root with
   |slot j=>
    cases hj:args[j]? with
    |none=>simp[Fr.rowsAt,Fr.rows,hj]at hx
    |some v=>simp[Fr.rowsAt,Fr.rows,hj,getR]at hx;subst hx;exact(hv j v hj).1 r o _ hg zz rs rfl
   |_=>simp[Fr.rowsAt,Fr.rows,qd]at hx
theorem Ev.grew {P:Program}{f:Nat}{args:List AV}{v:AV}(he:Ev P noHand f args [] (.ret v) []){im:Nat->Prop}{w:World}{Vs:Array Value}(hr:RelF (bare im) w ⟨args,qd 0 []⟩ Vs):Calls P f Vs w fun e w'=>(∃ V G,e=.returned V/\RelF G w' ⟨[v],qd 0 []⟩ #[V])/\Grew w.heap.size w w':=by
 refine(he.2 _ w Vs hr).mono ?_
 rintro e w' ⟨G',hg,V,rfl,h⟩
 exact⟨⟨V,G',rfl,h⟩,hg.out.1,hg.out.2,hg.size,fun k hk=>(hg.rest k hk fun _ _ e=>(by cases e)).1⟩
theorem qxv {G:Gh}{w:World}{x V:Value}(h:RelF G w ⟨[.c (.val x)],qd 0 []⟩ #[V]):V=x:=by
 obtain⟨V',hV,hr⟩:=h.slots 0 _ rfl;obtain⟨u,hu,hs⟩:=hr.2 0 0 (.val x) rfl;simp only[List.getElem?_toArray,aI,aa]at hV;subst hV;rcases hs with hs|hs
 . cases hs
 . have:V=u:=by simpa [AV.c,qX]using hu
   rw[this,hs.1]
theorem qCN {G:Gh}{w:World}{x y V:Value}(h:RelF G w ⟨[⟨.tup [false,false],[[.val x],[.val y]]⟩],qd 0 []⟩ #[V]):V=.tuple #[x,y]:=by
 obtain⟨V',hV,hr⟩:=h.slots 0 _ rfl;simp only[List.getElem?_toArray,aI,aa]at hV;subst hV;obtain⟨hsh,hc⟩:=hr;simp only[QO]at hsh;obtain⟨Vs,rfl,_,h2,_⟩:=hsh;obtain⟨u,hu,hs⟩:=hc 0 0 (.val x) rfl;obtain⟨u',hu',hs'⟩:=hc 1 0 (.val y) rfl;have e0:Vs[0]? = some x:=by
  rcases hs with hs|hs
  . cases hs
  . rw[hs.1]at hu;simp only[qX,aI]at hu;split at hu<;>simp_all
 have e1:Vs[1]? = some y:=by
  rcases hs' with hs|hs
  . cases hs
  . rw[hs.1]at hu';simp only[qX,List.getElem?_cons_succ,aI]at hu';split at hu'<;>simp_all
 have:Vs = #[x,y]:=by
  apply Array.ext_getElem?;intro i
  match i with
  |0=>rw[e0];rfl
  |1=>rw[e1];rfl
  |i+2=>
   have:Vs.size<=i+2:=by simp at h2;omega
   rw[Array.getElem?_eq_none this];simp
 rw[this]
theorem qAT {im:Nat->Prop}{w w':World}{rows:Rs}{V:Value}(h:RelI im w (.imm rows) V){B:Nat}(hB:∀ b,im b->b<B)(hg:Grew B w w')(k:Key):YY (bare im) w' k (.c (.imm rows)) V:=by refine⟨by simp[AV.c,QO],fun r o c e=>?_⟩;obtain⟨rfl,rfl,rfl⟩:=one_cell e;exact⟨V,rfl,.inr (h.mono (fun _ h=>h) fun b hb=>hg.block b (hB b hb))⟩
theorem qAU {im:Nat->Prop}{w:World}{x:Value}(hx:oneC x=true)(k:Key):YY (bare im) w k (.c (.val x)) x:=qgW hx
end Ab
end YtgfbbmjoflehlaaGreatDoor
end Go.Proofs
