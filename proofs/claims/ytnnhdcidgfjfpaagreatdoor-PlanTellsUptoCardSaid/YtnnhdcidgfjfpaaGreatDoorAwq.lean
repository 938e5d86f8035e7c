/-
  The planner's example, run by the kernel. No claim stands here.
-/
import Derived.Test.YtnnhdcidgfjfpaaGreatDoorEEq
import Derived.Test.YtnnhdcidgfjfpaaGreatDoorRows
set_option linter.all false
namespace Go.Proofs.YtnnhdcidgfjfpaaGreatDoor
namespace E
theorem aw_true:isTrue (call Tryz.prog 126 163 100000 (.fn 11) [] (.mk 0 .e))=true:=by kernel_rfl
theorem ne_ok:NE Tryz.prog 126:=λa h _=>by obtain rfl:a=Tryz.f126:=(Option.some.inj (Tryz.func126.symm.trans h)).symm;exact⟨by kernel_rfl,by kernel_rfl,by kernel_rfl⟩
theorem nz_ok:NZ Tryz.prog 163:=λb h _=>by
 obtain rfl:b=Tryz.f163:=(Option.some.inj (Tryz.func163.symm.trans h)).symm;have c:Tryz.f163.resultTypes.toList=[138]:=by kernel_rfl
 have d:Extern.find Tryz.f163=some (Extern.BytealgMakeNoZero.makeNoZero Tryz.f163.params #[138]):=by kernel_rfl
 refine⟨by kernel_rfl,Tryz.f163.params,λt a=>?_⟩;rw[c]at a;cases a;exact d
end E
end Go.Proofs.YtnnhdcidgfjfpaaGreatDoor
