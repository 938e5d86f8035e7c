/-
  schema.sort and schema.Word by plain contracts; schema.Name, which ranges over a string, by hand.
-/
import Derived.Test.YtgfbbmjoflehlaaGreatDoorSyq
import Derived.WalkSpells
import Derived.Deep.LoopGhost
namespace Go.Proofs
namespace YtgfbbmjoflehlaaGreatDoor
namespace Ab
open Go.RowKit
def Xa (c:Int):Int:=if 97<=c/\c<=122 then 0 else if 65<=c/\c<=90 then 1 else if 48<=c/\c<=57 then 2 else if c=95 then 3 else 4
theorem qgy (c:Int)(w:World):Calls Tryz.prog 86 #[.int .i32 c] w fun e w'=>e=.returned (.int .i64 (Xa c))/\Below w.heap.size w w':=by
  go_enter Tryz.func86,Tryz.ntmps86
  go_wp2
  all_goals (go_ret;refine⟨?_,by first|exact Below.refl _ _|exact⟨rfl,rfl,rfl,Nat.le_refl _,fun _ _=>rfl⟩⟩;simp only[Xa];(try simp only[beq_iff_eq,beq_eq_false_iff_ne,ne_eq]at *);repeat (first|rfl|split|omega|(exfalso;omega)))
end Ab
end YtgfbbmjoflehlaaGreatDoor
end Go.Proofs
