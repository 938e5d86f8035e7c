/-
  strings.Fields by the shelf: a new slice of strings, behind a call that hands nothing but a string.
-/
import Derived.Shelf.Strings.Fields
import Derived.Test.YtgfbbmjoflehlaaGreatDoorSqq
set_option linter.all false
namespace Go.Proofs
open Go.Shelf Go.RowKit
namespace YtgfbbmjoflehlaaGreatDoor
namespace Ab
def aixS {α:Type}(xs:List ByteArray)(n:Int)(k:ByteArray->Option α):Option α:=if 0<=n then(match xs[n.toNat]? with
  |some s=>k s
  |none=>none)else none
theorem qcW {α:Type}{xs:List ByteArray}{n:Int}{k:ByteArray->Option α}{r:α}(h:aixS xs n k=some r):∃ s,(0<=n/\n<(xs.length:Int)/\(xs.map Value.string)[n.toNat]? = some (.string s))/\k s=some r:=by
  unfold aixS at h;split at h
  . rename_i h0;split at h
    . rename_i s hs;have hl:=(az.1 hs).1;exact⟨s,⟨h0,by omega,by rw[aH,hs];rfl⟩,h⟩
    . cases h
  . cases h
class vo extends qjw where
  spc:∀ w:World,(∀ b,b<n->w.heap[b]? = H b)->Lib.TabIs Tryz.prog w "strings.asciiSpace" .u8 Lib.asciiSpaceTab
section
variable [Glob]
theorem qic {G:Gh}{w:World}(hinv:GInv G w)(hlv:∀ d,¬ G.lv d){v:AV}{V:Value}(hv:∀ r o c,cellAt v.rows r o=some c->∀ zz rs,c≠.own zz rs/\∀ es,c≠.mp es)(hr:YY G w ⟨.slot 0,[]⟩ v V):RelF G w ⟨[v],qd 0 []⟩ #[V]:=by
  refine⟨hinv,rfl,fun k v' e=>?_,fun r l e=>by simp[qd]at e,fun d hd=>absurd hd (hlv d),fun k rows e hi=>?_⟩
  . cases k with
    |zero=>simp only[aI,aa]at e;subst e;exact⟨V,rfl,hr⟩
    |succ k=>simp at e
  . exfalso;by_cases hp:k.path=[]
    . rcases hi with hi|hi
      . exact hi hp
      . obtain⟨root,path⟩:=k;cases root<;>simp[Root.boxed]at hi<;>simp[Fr.rowsAt,Fr.rows,qd]at e
    . obtain⟨r,o,zz,rs,hg⟩:=Zg e hp;unfold Fr.get at hg;cases hx:Fr.rowsAt ⟨[v],qd 0 []⟩ ⟨k.root,[]⟩with
      |none=>simp[hx]at hg
      | some rows'=>
        simp only[hx,ae]at hg;have:∃ r o,cellAt v.rows r o=some (.own zz rs):=by
          obtain⟨root,path⟩:=k;cases root with
          | slot j=>
            cases j with
            |zero=>simp[Fr.rowsAt,Fr.rows,getR]at hx;subst hx;exact⟨_,_,hg⟩
            |succ j=>simp[Fr.rowsAt,Fr.rows]at hx
          |_=>simp[Fr.rowsAt,Fr.rows,qd]at hx
        obtain⟨r,o,hc⟩:=this;exact(hv r o _ hc zz rs).1 rfl
def ZR (xs:List ByteArray):List (List Cell):=xs.map fun s=>[sc s]
theorem qh8 {G:Gh}{w:World}{args:List AV}{Vs:Array Value}(h:RelF G w ⟨args,qd 0 []⟩ Vs)(xs:List ByteArray)(T:TypeId):
    Went G w (.ret (.c (.imm (ZR xs)))) [] (.returned (.slice (some ⟨w.heap.size,0,none⟩) xs.length xs.length)) (w.alloc (.cells (xs.map Value.string).toArray T)):=by
  have hlv:∀ d,¬ G.lv d:=fun d hd=>by have:=h.live d hd;simp[qd]at this
  have hsz:(w.alloc (.cells (xs.map Value.string).toArray T)).heap.size=w.heap.size+1:=Array.size_push ..;have old:∀ k,k<w.heap.size->(w.alloc (.cells (xs.map Value.string).toArray T)).heap[k]? = w.heap[k]?:=fun k hk=>by show(w.heap.push _)[k]? = _;rw[Array.getElem?_push,aF (by omega)]
  have new:(w.alloc (.cells (xs.map Value.string).toArray T)).heap[w.heap.size]? = some (.cells (xs.map Value.string).toArray T):=by show(w.heap.push _)[w.heap.size]? = _;simp
  generalize hw1:w.alloc (.cells (xs.map Value.string).toArray T)=w1 at hsz old new;have hos:w1.os=w.os/\w1.output=w.output:=by rw[<- hw1];exact⟨rfl,rfl⟩
  have r1:RelF G w1 ⟨args,qd 0 []⟩ Vs:=h.same ⟨by omega,fun k hk=>old k (h.inv.imlt k hk),fun k y hk=>old _ (h.inv.lt k y hk)⟩;have r2:=r1.freeze (fun k=>G.im k\/k=w.heap.size) (fun _ hk=>.inl hk) (fun k hk=>by
    rcases hk with hk|rfl
    . exact r1.inv.imlt k hk
    . omega) (fun k y hk _ hi=>by
    rcases hi with hi|hi
    . exact hi
    . have:=h.inv.lt k y hk;omega)
  have out:Out w w1:=⟨hos.1,hos.2⟩
  have hg:Gain G w { G with im:=fun k=>G.im k\/k=w.heap.size } w1:=
    ⟨by omega,fun _ hk=>.inl hk,fun k hk=>old k (h.inv.imlt k hk),fun k hk _=>⟨old k hk,fun hi=>by
      rcases hi with hi|hi
      . exact hi
      . omega⟩,fun k y hk=>.inl ⟨k,y,hk,rfl⟩,fun _=>rfl,out,fun _ hd=>⟨hd,rfl⟩⟩
  have hat:∀ r o c,cellAt (ZR xs) r o=some c->∃ y,xs[r]? = some y/\o=0/\c=sc y:=by
    intro r o c hc;obtain⟨row,k1,k2⟩:=qc.1 hc;simp only[ZR,aH]at k1;cases hy:xs[r]? with
    |none=>simp[hy]at k1
    | some y=>
      simp only[hy,av,aa]at k1;subst k1;cases o with
      |zero=>simp at k2;exact⟨y,rfl,rfl,k2.symm⟩
      |succ o=>simp at k2
  have hlen:(ZR xs).length=xs.length:=List.length_map ..;have ri:RelI (fun k=>G.im k\/k=w.heap.size) w1 (.imm (ZR xs)) (.slice (some ⟨w.heap.size,0,none⟩) xs.length xs.length):=by
    have:=RelI.imm (im:=fun k=>G.im k\/k=w.heap.size) (w:=w1) (ZR xs) w.heap.size 0 xs.length 1 (xs.map Value.string).toArray T _ (fun r _=>.string (xs.getD r ByteArray.empty)) new (.inr rfl) (by rw[hlen];exact Nat.le_refl _)
      (fun row hr=>by simp only[ZR,List.mem_map]at hr;obtain⟨y,_,rfl⟩:=hr;rfl)
      (fun r o c hc=>by
        obtain⟨y,hy,rfl,rfl⟩:=hat r o c hc;have e2:xs.getD r ByteArray.empty=y:=by simp[List.getD,hy]
        rw[e2];simp[hy])
      (fun r o c hc=>by
        obtain⟨y,hy,rfl,rfl⟩:=hat r o c hc;have e2:xs.getD r ByteArray.empty=y:=by simp[List.getD,hy]
        rw[e2];exact .val _ rfl)
    rw[hlen]at this;exact this
  refine⟨_,hg,_,rfl,qic r2.inv hlv ?_ ?_⟩
  . intro r o c e zz rs
    match r,o,e with
    |0,0,e=>simp only[AV.c,cellAt,aI,ae,aa]at e;subst e;exact⟨by simp,by simp⟩
    |0,o+1,e=>simp[AV.c,cellAt]at e
    |r+1,o,e=>simp[AV.c,cellAt]at e
  . refine⟨by simp[AV.c,QO],fun r o c e=>?_⟩
    match r,o,e with
    |0,0,e=>simp only[AV.c,cellAt,aI,ae,aa]at e;subst e;exact⟨_,rfl,.inr ri⟩
    |0,o+1,e=>simp[AV.c,cellAt]at e
    |r+1,o,e=>simp[AV.c,cellAt]at e
end
variable [vo]
def qeV (s:ByteArray):List ByteArray:=(Lib.fields s.data.toList).map fun l=>⟨l.toArray⟩
noncomputable def YZ (s:ByteArray):Option Rs:=if s.size<4294967281/\s.data.toList.all (fun b=>decide (b.toNat<128))=true then some (ZR (qeV s))else none
theorem qgF {s:ByteArray}{r:Rs}(h:YZ s=some r):Ev Tryz.prog noHand 147 [.c (sc s)] [] (.ret (.c (.imm r))) []:=by
  refine⟨⟨Tryz.f147,by kernel_rfl,by kernel_rfl,by kernel_rfl⟩,fun G w Vs hr=>?_⟩;unfold YZ at h;split at h
  . rename_i hc;cases h;have e0:=yG hr (k:=0) (x:=.string s) rfl;have hs:=hr.size;have hVs:Vs = #[.string s]:=by
      apply Array.ext_getElem?;intro i
      match i with
      |0=>rw[e0];rfl
      | i+1=>
        have:Vs.size<=i+1:=by rw[<- hs];simp
        rw[Array.getElem?_eq_none this];simp
    subst hVs;refine(Any.strings_Fields Tryz.laysFL (by kernel_rfl) (by kernel_rfl) s w hc.1 (fun j b hb=>of_decide_eq_true (List.all_eq_true.1 hc.2 b (aM hb))) (vo.spc w fun b hb=>(hr.inv.glob b hb).2)).mono fun e w' he=>?_;obtain⟨rfl,rfl⟩:=he;have:=qh8 hr (qeV s) 9;unfold qeV at this;rw[List.map_map,List.length_map]at this;exact this
  . cases h
end Ab
end YtgfbbmjoflehlaaGreatDoor
end Go.Proofs
