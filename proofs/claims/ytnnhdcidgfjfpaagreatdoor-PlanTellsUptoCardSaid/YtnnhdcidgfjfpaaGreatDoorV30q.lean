/-
  PlanTells' function gives true. No claim stands here.
-/
import Derived.Test.YtnnhdcidgfjfpaaGreatDoorV29q
set_option linter.all false
namespace Go.Proofs.YtnnhdcidgfjfpaaGreatDoor
namespace Ab
theorem vv {T S:Rs}{c d:By}(j:SC T S):En (λ(r:Bool)=>r=true) λk=>g7 k T S c d:=by
 refine .go ?_;simp only[nt,qm4,tup8,tup5,tup3];refine .call trivial λr p=>?_;refine .call trivial λq s=>?_;refine .bind (qDj j p) λw ⟨w1,a,z,t,b,i⟩=>?_;refine .bind (qDj j s) λv ⟨l,A,cs,u,B,C⟩=>?_;rw[t,u];refine .bind (qDs w1 l b a i) λe n=>.bind (qE5 w1 l b a i) λf o=>?_;obtain rfl:e=f:=by
  cases e<;>cases f
  . rfl
  . exact absurd (n.2 (o.1 rfl)) (by simp)
  . exact absurd (o.2 (n.1 rfl)) (by simp)
  . rfl
 refine .br (λ_=>?_) λh=>by simp at h
 refine .bind (qFG w1 a b i) λg x=>?_;subst x;exact .bind (qDs w1 w1 b a i) λm y=>.ret (y.2 ⟨rfl,rfl,rfl⟩)
end Ab
end Go.Proofs.YtnnhdcidgfjfpaaGreatDoor
