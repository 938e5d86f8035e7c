/-
  A closed call that the kernel has run, as the other interpreter tells calls. No claim stands here.
-/
import Derived.Test.YtjnefcbeemkkeaaGreatAwq
import Derived.Test.YtjnefcbeemkkeaaGreatStq
set_option linter.all false
namespace Go.Proofs.YtjnefcbeemkkeaaGreat
namespace Ab
variable [Glob]
theorem qyk {P:Program}{hand:Nat->Nat->Bool}{rec:E.Rec}{f:Nat}(hrec:E.RecSound P rec)(h:E.isTrue (rec (.fn f) [] (.mk 0 .e))=true)(hnum:(P.funcs.toList.all fun fn=>!(fn.name == "runtime.NumGoroutine"))=true){fn:Func}(hf:P.funcs[f]? = some fn)(hb:fn.body.isSome=true):Ev P hand f [] [] (.ret (.c (.val (.bool true)))) []:=by
 have hnum':(fn.name == "runtime.NumGoroutine")=false:=by have:=(List.all_eq_true.1 hnum) fn (aN (by rw[aR];exact hf));simpa using this
 refine⟨⟨fn,hf,hb,hnum'⟩,fun G w Vs hr=>?_⟩;have hv:Vs = #[]:=by have:=hr.size;exact Array.eq_empty_of_size_eq_zero this.symm
 subst hv;refine(E.closed_callsR hrec h hnum hf hb w).mono fun e w' ⟨he,hs,hk,ho⟩=>?_;refine⟨G,⟨hs,fun _ h=>h,fun b hb=>hk b (hr.inv.imlt b hb),fun b hb _=>⟨hk b hb,fun h=>h⟩,fun k x e=>.inl ⟨k,x,e,rfl⟩,fun _=>rfl,ho,fun _ h=>⟨h,rfl⟩⟩,.bool true,he,?_⟩;refine⟨⟨hr.inv.inj,fun k x e=>Nat.lt_of_lt_of_le (hr.inv.lt k x e) hs,fun b hb=>Nat.lt_of_lt_of_le (hr.inv.imlt b hb) hs,fun b hb=>?_⟩,rfl,fun k v e=>?_,fun r l e=>(by cases e),fun d hd=>hr.live d hd,fun k rows e hi=>?_⟩
 . obtain⟨h1,h2⟩:=hr.inv.glob b hb;exact⟨h1,by rw[hk b (hr.inv.imlt b h1)];exact h2⟩
 .
  cases k with
  |zero=>simp only[aJ,aa]at e;subst e;refine⟨.bool true,rfl,trivial,fun r o c hc=>?_⟩;obtain⟨rfl,rfl,rfl⟩:=one_cell hc;exact⟨_,rfl,.inr ⟨rfl,rfl⟩⟩
  |succ k=>simp at e
 .
  exfalso;obtain⟨root,path⟩:=k;cases root with
  |slot j=>
   cases path with
   |nil=>
    rcases hi with hi|hi
    . exact hi rfl
    . simp[Root.boxed]at hi
   |cons y π=>
    obtain⟨r,o⟩:=y;cases j with
    |zero=>
     simp only[Fr.rowsAt,Fr.rows,aJ,av,ae,getR]at e;cases hc:cellAt (AV.c (.val (.bool true))).rows r o with
     |none=>rw[hc]at e;cases e
     |some c=>obtain⟨rfl,rfl,rfl⟩:=one_cell hc;rw[hc]at e;cases e
    |succ j=>simp[Fr.rowsAt,Fr.rows]at e
  |_=>simp[Fr.rowsAt,Fr.rows,qd]at e
theorem qDn:(Tryz.prog.funcs.toList.all fun fn=>!(fn.name == "runtime.NumGoroutine"))=true:=by kernel_rfl
theorem clAw:Ev Tryz.prog noHand 6 [] [] (.ret (.c (.val (.bool true)))) []:=qyk (E.aw_sound hmix qDn) E.aw_true qDn Tryz.func6 (by kernel_rfl)
end Ab
end Go.Proofs.YtjnefcbeemkkeaaGreat
