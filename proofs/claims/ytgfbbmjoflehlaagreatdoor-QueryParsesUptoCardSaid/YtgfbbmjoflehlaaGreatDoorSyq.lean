/-
  FormatInt at base 10, by the shelf.
-/
import Derived.Shelf.Strconv.Itoa4
import Derived.Lib.AppendIntMem
import Derived.Test.YtgfbbmjoflehlaaGreatDoorSxq
namespace Go.Proofs
open Go.Shelf
namespace YtgfbbmjoflehlaaGreatDoor
namespace Ab
class Laid extends Glob where
  tab:∀ w:World,(∀ b,b<n->w.heap[b]? = H b)->Lib.TabIs Tryz.prog w "internal/strconv.uint64pow10" .u64 Lib.pow10Tab
variable [Laid]
noncomputable def fmtX (n:Int):Option ByteArray:=if -9223372036854775808<=n/\n<=9223372036854775807 then some ⟨(Lib.itoa n).toArray⟩else none
theorem qij {n:Int}{s:ByteArray}(h:fmtX n=some s):Ev Tryz.prog noHand 31 [.c (ic n),.c (ic 10)] [] (.ret (.c (sc s))) []:=by
  refine⟨⟨Tryz.f31,by kernel_rfl,by kernel_rfl,by kernel_rfl⟩,fun G w Vs hr=>?_⟩;unfold fmtX at h;split at h
  . rename_i hn;cases h;have e0:=yG hr (k:=0) (x:=.int .i64 n) rfl;have e1:=yG hr (k:=1) (x:=.int .i64 10) rfl;have hs:=hr.size;have hVs:Vs = #[.int .i64 n,.int .i64 10]:=by
      apply Array.ext_getElem?;intro i
      match i with
      |0=>rw[e0];rfl
      |1=>rw[e1];rfl
      | i+2=>
        have:Vs.size<=i+2:=by rw[<- hs];simp
        rw[Array.getElem?_eq_none this];simp
    subst hVs;refine(Any.strconv_FormatInt_10 Tryz.laysFI n hn.1 hn.2 w (Laid.tab w fun b hb=>(hr.inv.glob b hb).2)).mono fun e w' he=>?_;obtain⟨rfl,k,os,rfl⟩:=he;exact qfA hr (Lib.below_grow _ w (Nat.le_refl _) k os) rfl
  . cases h
end Ab
end YtgfbbmjoflehlaaGreatDoor
end Go.Proofs
