/-
  ParseInt at base 10, whatever it is given: a number, or an error of which no more is told.
-/
import Derived.Shelf.Strconv.ErrVarParseInt
import Derived.Test.YtgfbbmjoflehlaaGreatDoorSnq
set_option linter.all false
namespace Go.Proofs
open Go.Shelf Go.RowKit
namespace YtgfbbmjoflehlaaGreatDoor
namespace Ab
class qjw extends Laid where
  syn:∀ w:World,(∀ b,b<n->w.heap[b]? = H b)->∃ tp p,w.var? Tryz.prog "strconv.ErrSyntax" = some #[.iface tp p]
  rng:∀ w:World,(∀ b,b<n->w.heap[b]? = H b)->∃ tp p,w.var? Tryz.prog "strconv.ErrRange" = some #[.iface tp p]
variable [qjw]
noncomputable def qag (s:ByteArray):Option (Option Int):=if s.size<=281474976710656 then(match Lib.parseIntB 64 s.data.toList with
  |.ok v=>some (some v)
  |_=>some none)else none
theorem qgu {G:Gh}{w:World}{s:ByteArray}{Vs:Array Value}(hr:RelF G w ⟨[.c (sc s),.c (ic 10),.c (ic 64)],qd 0 []⟩ Vs):Vs = #[.string s,.int .i64 10,.int .i64 64]:=by
  have e0:=yG hr (k:=0) (x:=.string s) rfl;have e1:=yG hr (k:=1) (x:=.int .i64 10) rfl;have e2:=yG hr (k:=2) (x:=.int .i64 64) rfl;have hs:=hr.size;apply Array.ext_getElem?;intro i
  match i with
  |0=>rw[e0];rfl
  |1=>rw[e1];rfl
  |2=>rw[e2];rfl
  | i+3=>
    have:Vs.size<=i+3:=by rw[<- hs];simp
    rw[Array.getElem?_eq_none this];simp
theorem qdZ {s:ByteArray}{v:Int}(h:qag s=some (some v)):Ev Tryz.prog noHand 99 [.c (sc s),.c (ic 10),.c (ic 64)] [] (.ret ⟨.tup [false,false],[[ic v],[.val .nilIface]]⟩) []:=by
  refine qil (s:=s) (v:=v) ?_;unfold qag at h;unfold qhk;split at h
  . rename_i hs;split at h
    . rename_i v' hv;cases h;simp only[hv,aD (show s.size<=9223372036854775806 by omega)]
    . cases h
  . cases h
def ZY (x:Int×Nat):AV:=⟨.tup [false,false],[[ic x.1],[.val (.iface 169 (.pointer (some ⟨x.2,0,none⟩)))]]⟩
theorem qga {s:ByteArray}(h:qag s=some none):EvX Tryz.prog 99 [.c (sc s),.c (ic 10),.c (ic 64)] (fun x:Int×Nat=>ZY x):=by
  refine⟨⟨Tryz.f99,by kernel_rfl,by kernel_rfl,by kernel_rfl⟩,fun w Vs hG=>?_⟩;obtain⟨G0,hr0⟩:=hG;have hVs:=qgu hr0;subst hVs;have went:∀ (n:Int) (N:Nat) (w':World),Below w.heap.size w w'->∀ G,RelF G w ⟨[.c (sc s),.c (ic 10),.c (ic 64)],qd 0 []⟩ #[.string s,.int .i64 10,.int .i64 64] ->
      Went G w (.ret (ZY (n,N))) [] (.returned (.tuple #[.int .i64 n,.iface 169 (.pointer (some ⟨N,0,none⟩))])) w':=by
    intro n N w' hb G hr;refine Qn hr hb ?_ ?_
    . intro r o c hc
      match r,o,hc with
      |0,0,hc=>exact⟨_,(by simpa [ZY,cellAt,ic]using hc.symm)⟩
      |1,0,hc=>exact⟨_,(by simpa [ZY,cellAt]using hc.symm)⟩
      |0,o+1,hc=>simp[ZY,cellAt]at hc
      |1,o+1,hc=>simp[ZY,cellAt]at hc
      |r+2,o,hc=>simp[ZY,cellAt]at hc
    . refine⟨⟨_,rfl,rfl,rfl,fun i g n e1 e2=>?_⟩,fun r o c hc=>?_⟩
      . match i,e1,e2 with
        |0,e1,e2=>simp[ZY]at e1 e2;subst e1;subst e2;exact⟨_,rfl,rfl⟩
        |1,e1,e2=>simp[ZY]at e1 e2;subst e1;subst e2;exact⟨_,rfl,rfl⟩
        |i+2,e1,e2=>simp[ZY]at e1
      . match r,o,hc with
        |0,0,hc=>simp[ZY,cellAt]at hc;subst hc;exact⟨_,rfl,.inr ⟨rfl,rfl⟩⟩
        |1,0,hc=>simp[ZY,cellAt]at hc;subst hc;exact⟨_,rfl,.inr ⟨rfl,rfl⟩⟩
        |0,o+1,hc=>simp[ZY,cellAt]at hc
        |1,o+1,hc=>simp[ZY,cellAt]at hc
        |r+2,o,hc=>simp[ZY,cellAt]at hc
  have hglob:∀ b,b<Glob.n->w.heap[b]? = Glob.H b:=fun b hb=>(hr0.inv.glob b hb).2;unfold qag at h;split at h
  . rename_i hs;rcases hp:Lib.parseIntB 64 s.data.toList with v|_|_
    . rw[hp]at h;cases h
    . obtain⟨tp,p,hv⟩:=qjw.syn w hglob;refine(Any.strconv_ParseInt_10_at64_syntax_var Tryz.laysPI s hs hp tp p w hv).mono fun e w' he=>?_;obtain⟨N,rfl,_,_,hb⟩:=he;exact⟨(0,N),went 0 N w' hb⟩
    . obtain⟨tp,p,hv⟩:=qjw.rng w hglob;refine(Any.strconv_ParseInt_10_at64_range_var Tryz.laysPI s hs hp tp p w hv).mono fun e w' he=>?_;obtain⟨N,rfl,_,_,hb⟩:=he;exact⟨(_,N),went _ N w' hb⟩
  . cases h
end Ab
end YtgfbbmjoflehlaaGreatDoor
end Go.Proofs
