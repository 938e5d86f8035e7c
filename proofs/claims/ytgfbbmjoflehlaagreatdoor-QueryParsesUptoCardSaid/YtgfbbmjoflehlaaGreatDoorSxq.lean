/-
  The library's numbers and texts, by the shelf.
-/
import Derived.Shelf.Strconv.ParseIntPublic10
import Derived.Test.YtgfbbmjoflehlaaGreatDoorSlq
import Derived.Test.YtgfbbmjoflehlaaGreatDoorFdq
namespace Go.Proofs
open Go.Shelf
namespace YtgfbbmjoflehlaaGreatDoor
namespace Ab
variable [Glob]
noncomputable def qhk (s:ByteArray):Option Int:=match Lib.parseIntB 64 s.data.toList with
  |.ok v=>if s.size<=9223372036854775806 then some v else none
  |_=>none
theorem yG {G:Gh}{w:World}{F:Fr}{Vs:Array Value}(h:RelF G w F Vs){k:Nat}{x:Value}(e:F.slots[k]? = some (.c (.val x))):Vs[k]? = some x:=by
  obtain⟨V,hV,hr⟩:=h.slots k _ e;obtain⟨u,hu,hs⟩:=hr.2 0 0 (.val x) rfl;rcases hs with hs|hs
  . cases hs
  . have:V=u:=by simpa [AV.c,qX]using hu
    rw[hV,this,hs.1]
theorem qil {s:ByteArray}{v:Int}(h:qhk s=some v):Ev Tryz.prog noHand 99 [.c (sc s),.c (ic 10),.c (ic 64)] [] (.ret ⟨.tup [false,false],[[ic v],[.val .nilIface]]⟩) []:=by
  refine⟨⟨Tryz.f99,by kernel_rfl,by kernel_rfl,by kernel_rfl⟩,fun G w Vs hr=>?_⟩;unfold qhk at h;split at h
  . rename_i v' hv;split at h
    . rename_i hsz;cases h;have e0:=yG hr (k:=0) (x:=.string s) rfl;have e1:=yG hr (k:=1) (x:=.int .i64 10) rfl;have e2:=yG hr (k:=2) (x:=.int .i64 64) rfl;have hs:=hr.size;have hVs:Vs = #[.string s,.int .i64 10,.int .i64 64]:=by
        apply Array.ext_getElem?;intro i
        match i with
        |0=>rw[e0];rfl
        |1=>rw[e1];rfl
        |2=>rw[e2];rfl
        | i+3=>
          have:Vs.size<=i+3:=by rw[<- hs];simp
          rw[Array.getElem?_eq_none this];simp
      subst hVs;refine(Any.strconv_ParseInt_10_at64_ok Tryz.laysPI s hsz v hv w).mono fun e w' he=>?_;obtain⟨rfl,hw⟩:=he;refine Qn hr ?_ ?_ ?_
      . rcases hw with rfl|⟨t,rfl⟩
        . exact Go.RowKit.Below.refl _ _
        . exact Lib.bytesWorld_below _ _ _
      . intro r o c hc
        match r,o,hc with
        |0,0,hc=>exact⟨_,(by simpa [cellAt,ic]using hc.symm)⟩
        |1,0,hc=>exact⟨_,(by simpa [cellAt]using hc.symm)⟩
        |0,o+1,hc=>simp[cellAt]at hc
        |1,o+1,hc=>simp[cellAt]at hc
        |r+2,o,hc=>simp[cellAt]at hc
      . refine⟨⟨_,rfl,rfl,rfl,fun i g n e1 e2=>?_⟩,fun r o c hc=>?_⟩
        . match i,e1,e2 with
          |0,e1,e2=>simp at e1 e2;subst e1;subst e2;exact⟨_,rfl,rfl⟩
          |1,e1,e2=>simp at e1 e2;subst e1;subst e2;exact⟨_,rfl,rfl⟩
          |i+2,e1,e2=>simp at e1
        . match r,o,hc with
          |0,0,hc=>simp[cellAt]at hc;subst hc;exact⟨_,rfl,.inr ⟨rfl,rfl⟩⟩
          |1,0,hc=>simp[cellAt]at hc;subst hc;exact⟨_,rfl,.inr ⟨rfl,rfl⟩⟩
          |0,o+1,hc=>simp[cellAt]at hc
          |1,o+1,hc=>simp[cellAt]at hc
          |r+2,o,hc=>simp[cellAt]at hc
    . cases h
  . cases h
end Ab
end YtgfbbmjoflehlaaGreatDoor
end Go.Proofs
