/-
  A closed call that the kernel has run, as the other interpreter tells calls. No claim stands here.
-/
import Derived.Test.YtnnhdcidgfjfpaaGreatDoorAwq
import Derived.Test.YtnnhdcidgfjfpaaGreatDoorStq
set_option linter.all false
namespace Go.Proofs.YtnnhdcidgfjfpaaGreatDoor
namespace Ab
variable [Glob]
theorem qzd {P:Program}{hand:Nat->Nat->Bool}{C D n f:Nat}(h:E.isTrue (E.call P C D n (.fn f) [] (.mk 0 .e))=true)(t:E.NE P C)(u:E.NZ P D)(hmix:P.follows .mixedOrders=true)(g:(P.funcs.toList.all λm=>!(m.name == "runtime.NumGoroutine"))=true){m:Func}(z:P.funcs[f]? = some m)(a:m.body.isSome=true):Ev P hand f [] [] (.ret (.c (.val (.bool true)))) []:=by
 have p:(m.name == "runtime.NumGoroutine")=false:=by have:=(List.all_eq_true.1 g) m (aM (by rw[aP];exact z));simpa using this
 refine⟨⟨m,z,a,p⟩,λG w Vs i=>?_⟩;have H:Vs = #[]:=by have:=i.size;exact Array.eq_empty_of_size_eq_zero this.symm
 subst H;refine(E.closed_calls h t u hmix g z a w).mono λe w' ⟨I,A,B,J⟩=>?_;refine⟨G,⟨A,λ_ h=>h,λb a=>B b (i.inv.imlt b a),λb a _=>⟨B b a,λh=>h⟩,λk x e=>.inl ⟨k,x,e,rfl⟩,λ_=>rfl,J,λ_ h=>⟨h,rfl⟩⟩,.bool true,I,?_⟩;refine⟨⟨i.inv.inj,λk x e=>Nat.lt_of_lt_of_le (i.inv.lt k x e) A,λb a=>Nat.lt_of_lt_of_le (i.inv.imlt b a) A,λb a=>?_⟩,rfl,λk v e=>?_,λr l e=>(by cases e),λd hd=>i.live d hd,λk rows e hi=>?_⟩
 . obtain⟨F,K⟩:=i.inv.glob b a;exact⟨F,by rw[B b (i.inv.imlt b F)];exact K⟩
 .
  cases k with
  |zero=>simp only[aI,aa]at e;subst e;refine⟨.bool true,rfl,trivial,λr o c q=>?_⟩;obtain⟨rfl,rfl,rfl⟩:=one_cell q;exact⟨_,rfl,.inr ⟨rfl,rfl⟩⟩
  |succ k=>simp at e
 .
  exfalso;obtain⟨root,s⟩:=k;cases root with
  |slot j=>
   cases s with
   |nil=>
    rcases hi with hi|hi
    . exact hi rfl
    . simp[Root.boxed]at hi
   |cons y π=>
    obtain⟨r,o⟩:=y;cases j with
    |zero=>
     simp only[Fr.rowsAt,Fr.rows,aI,av,ae,getR]at e;cases q:cellAt (AV.c (.val (.bool true))).rows r o with
     |none=>rw[q]at e;cases e
     |some c=>obtain⟨rfl,rfl,rfl⟩:=one_cell q;rw[q]at e;cases e
    |succ j=>simp[Fr.rowsAt,Fr.rows]at e
  |_=>simp[Fr.rowsAt,Fr.rows,qd]at e
theorem clAw:Ev Tryz.prog noHand 11 [] [] (.ret (.c (.val (.bool true)))) []:=qzd E.aw_true E.ne_ok E.nz_ok hmix (by kernel_rfl) Tryz.func11 (by kernel_rfl)
end Ab
end Go.Proofs.YtnnhdcidgfjfpaaGreatDoor
