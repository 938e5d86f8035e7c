/-
  schema.Word and schema.Name by plain walks; what Name gives as a plain function; its way as the interpreter has it.
-/
import Derived.Test.YtgfbbmjoflehlaaGreatDoorSzq
import Derived.Lib.OthersKept
import Derived.Laws.RangeAny
import Derived.Laws.RangeString
set_option linter.all false
namespace Go.Proofs
namespace YtgfbbmjoflehlaaGreatDoor
namespace Ab
open Go.RowKit
def qjc:List (List UInt8):=[[80,65,84,84,69,82,78],[83,69,81],[87,72,69,82,69],[83,84,82,65,84,69,71,89],[87,73,84,72,73,78],[80,65,82,84,73,84,73,79,78],[66,89],[83,84,82,73,67,84],[78,69,88,84],[65,78,89],[65,78,68],[79,82],[78,79,84],[84,82,85,69],[70,65,76,83,69],[84,73,77,69],[82,69,65,76],[73,83,78,65,78],[67,79,85,78,84],[70,73,82,83,84],[76,65,83,84],[83,85,77],[77,73,78],[77,65,88],[77,69,65,78]]
def YH (s:ByteArray):Bool:=qjc.any fun l=>s.toList==l
set_option maxRecDepth 1000000 in
theorem qgm (s:ByteArray)(w:World):Calls Tryz.prog 85 #[.string s] w fun e w'=>e=.returned (.bool (YH s))/\w=w':=by
  go_enter Tryz.func85,Tryz.ntmps85
  go_wp2
  all_goals (go_ret;refine⟨?_,rfl⟩;first|(exfalso;simp_all;done)|(show Ending.returned (Value.bool _)=_;simp only[YH,qjc,List.any_cons,List.any_nil,Bool.or_false,Bool.true_or,Bool.false_or,Bool.or_true, *]))
def qaV (s:ByteArray):Nat->Nat->Bool
  |0,_=>true
  |n+1,pos=>if pos<s.size then(let k:=Xa ((Utf8.decode s pos).1:Int);if k=4\/(pos=0/\k>1)then false else qaV s n (pos+(Utf8.decode s pos).2))else true
def qcL (s:ByteArray):Bool:=if s.toList=[]\/24<(s.size:Int)\/YH s=true then false else qaV s s.size 0
theorem qjg {s:ByteArray}(h:s.toList=[]\/24<(s.size:Int)\/YH s=true):qcL s=false:=aD h
theorem qfP {s:ByteArray}{n pos:Nat}(hp:pos<s.size)(h:Xa ((Utf8.decode s pos).1:Int)=4\/(pos=0/\Xa ((Utf8.decode s pos).1:Int)>1)):qaV s (n+1) pos=false:=by simp only[qaV,aD hp,aD h]
theorem qcQ {s:ByteArray}{n pos:Nat}(hp:pos<s.size)(h:¬ (Xa ((Utf8.decode s pos).1:Int)=4\/(pos=0/\Xa ((Utf8.decode s pos).1:Int)>1))):qaV s (n+1) pos=qaV s n (pos+(Utf8.decode s pos).2):=by simp only[qaV,aD hp,aF h]
theorem width_pos (s:ByteArray)(pos:Nat)(h:pos<s.size):1<=(Utf8.decode s pos).2:=by
  by_cases ha:(s[pos]'h).toNat<128
  . rw[decode_ascii s pos h ha];exact Nat.le_refl _
  . exact(decode_high s pos h (by omega)).2
theorem iterPos_of {w:World}{k:Nat}{s:ByteArray}{p:Nat}(h:w.heap[k]? = some (.stringIter s p)):w.iterPos k=p:=by simp[World.iterPos,h]
set_option maxRecDepth 1000000 in
theorem qgG (s:ByteArray)(w:World):Calls Tryz.prog 58 #[.string s] w fun e w'=>e=.returned (.bool (qcL s))/\Below w.heap.size w w':=by
  go_enter Tryz.func58,Tryz.ntmps58
  go_wp2_with (go_at_call 85;refine(qgm _ _).mono ?_;rintro e w' ⟨rfl,rfl⟩)
  all_goals first
    |(go_ret;refine⟨?_,Below.refl _ _⟩;rename_i h;rw[qjg (by simp_all)];rfl)
    |skip
  have hN:qcL s=qaV s s.size 0:=aF (by simp_all)
  rename ¬ s.toList=[]=>h1
  rename (s.size:Int)<=24=>h2
  rename (_/\_)/\_=>h3
  clear h1 h2 h3
  go_loopw [3,4,5] (fun _ _ _ wr=>∃ (pos fuel:Nat),wr.heap[w.heap.size]? = some (.stringIter s pos)/\Below w.heap.size w wr/\qaV s fuel pos=qaV s s.size 0/\s.size<=pos+fuel) (fun _ _ _ wr=>s.size-wr.iterPos w.heap.size)
  case atStart=>exact⟨0,s.size,World.iter_heap w s 0,(Below.refl _ _).alloc (Nat.le_refl _) _,rfl,by omega⟩
  case round=>
    obtain⟨pos,fuel,hit,hbw,HS,hb⟩:=hrel;have hpos0:=iterPos_of hit;by_cases hp:pos<s.size
    . have hnx:∀ ty,(Instr.next (.pointer (some ⟨w.heap.size,0,none⟩)) true ty).run Tryz.prog wr=_:=fun ty=>Lib.run_next_any_at wr w.heap.size s pos ty hit hp;have hwd:=width_pos s pos hp;obtain⟨fuel,rfl⟩:∃ f',fuel=f'+1:=⟨fuel-1,by omega⟩
      have hit2:=Lib.iterAt_heap wr w.heap.size s pos (pos+(Utf8.decode s pos).2) hit;have hbw2:=Lib.below_iterAt hbw (k:=w.heap.size) (Nat.le_refl _) s (pos+(Utf8.decode s pos).2);obtain⟨W1,hW1⟩:∃ W1,W1=wr.iterAt w.heap.size s (pos+(Utf8.decode s pos).2):=⟨_,rfl⟩
      rw[<- hW1]at hnx hit2 hbw2;clear hW1 hit hbw
      go_wp2_with (go_at_call 86;refine(qgy _ _).mono ?_;rintro e w' ⟨rfl,hw'⟩;have hit3:w'.heap[w.heap.size]? = some (.stringIter s (pos+(Utf8.decode s pos).2)):=(hw'.block _ (lt_of_block hit2)).trans hit2;have hbw3:Below w.heap.size w w':=hbw2.trans (hw'.mono (Nat.le_of_lt (lt_of_block hit2)));clear hw')
      all_goals first
        |(have hx:Xa ((Utf8.decode s pos).1:Int)=4\/(pos=0/\Xa ((Utf8.decode s pos).1:Int)>1):=(by clear hnx;grind)
          go_ret;refine⟨?_,hbw3⟩;rw[hN,<- HS,qfP hp hx];rfl)
        |(have hx:¬ (Xa ((Utf8.decode s pos).1:Int)=4\/(pos=0/\Xa ((Utf8.decode s pos).1:Int)>1)):=(by clear hnx;grind)
          go_roundw
          case rel=>exact⟨_,fuel,hit3,hbw3,(qcQ hp hx).symm.trans HS,by omega⟩
          case measure=>rw[iterPos_of hit3,hpos0];omega)
    . have hnx:∀ ty,(Instr.next (.pointer (some ⟨w.heap.size,0,none⟩)) true ty).run Tryz.prog wr=_:=fun ty=>Lib.run_next_end_at wr w.heap.size s pos ty hit hp
      go_wp2
      go_ret
      have hz:qcL s=true:=by
        rw[hN,<- HS];cases fuel with
        |zero=>rfl
        |succ n=>exact aF hp
      rw[hz];exact⟨rfl,hbw⟩
variable [Glob]
noncomputable def YF (s:ByteArray):Option Bool:=some (qcL s)
theorem qi {s:ByteArray}{b:Bool}(h:YF s=some b):Ev Tryz.prog noHand 58 [.c (sc s)] [] (.ret (.c (bc b))) []:=by
  refine⟨⟨Tryz.f58,by kernel_rfl,by kernel_rfl,by kernel_rfl⟩,fun G w Vs hr=>?_⟩;cases h;have e0:=yG hr (k:=0) (x:=.string s) rfl;have hs:=hr.size;have hVs:Vs = #[.string s]:=by
    apply Array.ext_getElem?;intro i
    match i with
    |0=>rw[e0];rfl
    | i+1=>
      have:Vs.size<=i+1:=by rw[<- hs];simp
      rw[Array.getElem?_eq_none this];simp
  subst hVs;refine(qgG s w).mono fun e w' he=>?_;obtain⟨rfl,hb⟩:=he;exact qfA hr hb rfl
end Ab
end YtgfbbmjoflehlaaGreatDoor
end Go.Proofs
