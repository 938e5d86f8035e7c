/-
  query.Print, walked by hand: it writes into a strings.Builder. The end of it.
-/
import Derived.Test.YtgfbbmjoflehlaaGreatDoorPtq
import Derived.WalkKit
import Derived.BigCall
import Derived.Deep.CutBlock
import Derived.Deep.RegionHeld3
set_option linter.all false
namespace Go.Proofs
open Go.RowKit
namespace YtgfbbmjoflehlaaGreatDoor
namespace Ab
variable [vo]
abbrev sepA:By:=⟨#[32,83,84,82,65,84,69,71,89,32]⟩
abbrev sepB:By:=⟨#[32,87,73,84,72,73,78,32]⟩
set_option maxHeartbeats 4000000 in
set_option maxRecDepth 1000000 in
theorem qEI {R:Ending->World->Prop}{A B:Nat}{im:Nat->Prop}{w6:World}{acc:List UInt8}{key wh ws T:By}{en st wd:Int}{s0 s2 s3 s5 s6 s9 s10 s11 s12 s13 s14 s15 s16 s17 s18 s19 s20 s21 s22 s23 s24 s25 s26 s27 s28 s29 s30 s31 s32 s33 s34 s35 s36 s37 s38 s39 s40 s41 s42 s43 s44 s45 s46 s47 s48 s49 s50 s51 s52 s53 s54 s55 s56 s57 s58 s59 s60 s61 s62 s63 s64 s65 s66 s67 s68:Value}(hinv:GInv (bare im) w6)(hb:Lib.BuilderAt 74 5 B B (.pointer (some ⟨B,0,none⟩)) (Lib.byteCells acc) w6)(cs6:w6.cell? ⟨A,2,none⟩=some (.int .i64 st))(cw6:w6.cell? ⟨A,3,none⟩=some (.int .i64 wd))(ck6:w6.cell? ⟨A,4,none⟩=some (.string key))(hA:A<B)(hB:B<=w6.heap.size)(him:∀ b,im b->b<B)(hacc:acc.length<=1000000000)(hkey:key.size<=1000000)(hwh:wh.size<=1000000)(hwss:ws.size<=1000000)(hws:fmtX wd=some ws)(hT:strat st=some T){r:By×Int}(hr:r=if (acc++(behB wh T ws).data.toList++keyL key).length>4000\/en=2 then(strB [],2)else if en=0 then(⟨(acc++(behB wh T ws).data.toList++keyL key).toArray⟩,0)else(strB [],en))(hR:∀ w',Grew B w6 w'->R (.returned (.tuple #[.string r.1,.int .i64 r.2])) w'):
  Code.wp Tryz.prog (qvA 7) (bodyPost Tryz.prog Tryz.f10 R) ⟨#[s0,.pointer (some ⟨A,0,none⟩),s2,s3,.pointer (some ⟨B,0,none⟩),s5,s6,.string wh,.int .i64 en,s9,s10,s11,s12,s13,s14,s15,s16,s17,s18,s19,s20,s21,s22,s23,s24,s25,s26,s27,s28,s29,s30,s31,s32,s33,s34,s35,s36,s37,s38,s39,s40,s41,s42,s43,s44,s45,s46,s47,s48,s49,s50,s51,s52,s53,s54,s55,s56,s57,s58,s59,s60,s61,s62,s63,s64,s65,s66,s67,s68],[]⟩ w6:=by
 rw[qvC 7 rfl];refine wp_seq ?_
 conv=>arg 2;whnf
 have relN:∀ w',Grew B w6 w'->RelF (bare im) w' ⟨[.c (ic wd),.c (ic 10)],qd 0 []⟩ #[.int .i64 wd,.int .i64 10]:=by
  intro w' hg';refine qwS (qwj hinv him hg') rfl fun k v e=>?_
  match k,e with
  |0,e=>simp only[aI,aa]at e;subst e;exact⟨fun r o c hc zz rs he=>(by obtain⟨rfl,rfl,rfl⟩:=one_cell hc;cases he),_,rfl,qAU rfl _⟩
  |1,e=>simp only[List.getElem?_cons_succ,aI,aa]at e;subst e;exact⟨fun r o c hc zz rs he=>(by obtain⟨rfl,rfl,rfl⟩:=one_cell hc;cases he),_,rfl,qAU rfl _⟩
  |k+2,e=>simp at e
 have L1:sepA.size=10:=by decide
 have L2:sepB.size=8:=by decide
 obtain⟨hTs,hidx⟩:T.size<=6/\∀ W,(Instr.index 81 (Value.agg #[Value.string ⟨#[83,84,82,73,67,84]⟩,Value.string ⟨#[78,69,88,84]⟩,Value.string ⟨#[65,78,89]⟩]) (Value.int .i64 (IntKind.i64.wrap (st-1)))).run Tryz.prog W=.ok (.string T) W:=by
  have h:=hT;unfold strat at h;split at h
  . rename_i e;subst e;cases h;exact⟨by decide,fun W=>rfl⟩
  .
   split at h
   . rename_i e;subst e;cases h;exact⟨by decide,fun W=>rfl⟩
   . split at h
     . rename_i e;subst e;cases h;exact⟨by decide,fun W=>rfl⟩
     . cases h
 have hidx2:∀ W,(Instr.index 81 (Value.agg #[Value.string ⟨#[83,84,82,73,67,84]⟩,Value.string ⟨#[78,69,88,84]⟩,Value.string ⟨#[65,78,89]⟩]) (Value.int .i64 (wrap64 (st-1)))).run Tryz.prog W=.ok (.string T) W:=fun W=>by have:=hidx W;rwa [show IntKind.i64.wrap (st-1)=wrap64 (st-1)by rw[IntKind.wrap_i64,wrap64]]at this
 have n1:¬ (9223372036854775807<wh.size+10):=by omega
 have n2:¬ (9223372036854775807<wh.size+10+T.size):=by omega
 have n3:¬ (9223372036854775807<wh.size+10+T.size+8):=by omega
 have n4:¬ (9223372036854775807<wh.size+10+T.size+8+ws.size):=by omega
 have hz:(wh++sepA++T++sepB++ws).size<=3000000:=by rw[ByteArray.size_append,ByteArray.size_append,ByteArray.size_append,ByteArray.size_append];omega
 clear L1 L2 hTs;have C30:Hid (∀ W:World,W.heap=w6.heap->W.os=w6.os->W.output=w6.output->Calls Tryz.prog 31 #[.int .i64 wd,.int .i64 10] W fun e w7=>e=.returned (.string ws) /\
   (w7.cell? ⟨A,2,none⟩=some (.int .i64 st)/\w7.cell? ⟨A,3,none⟩=some (.int .i64 wd)/\Lib.BuilderAt 74 5 B B (.pointer (some ⟨B,0,none⟩)) (Lib.byteCells acc) w7/\Grew w6.heap.size w6 w7)):=Any.hidJ fun W e1 e2 e3=>by
  have gW:Grew B w6 W:=⟨e2,e3,by rw[e1];exact Nat.le_refl _,fun k _=>by rw[e1]⟩
  refine((qij hws).grew (relN W gW)).mono ?_
  rintro e w7 ⟨⟨V,G7,rfl,hv⟩,hg7⟩
  have hV:=qxv hv;subst hV;have hg:Grew w6.heap.size w6 w7:=⟨hg7.os.trans e2,hg7.output.trans e3,by rw[<- e1];exact hg7.size,fun k hk=>by rw[<- e1];exact hg7.block k (by rw[e1];exact hk)⟩
  exact⟨rfl,(World.cell?_of_block (w:=w6) (hg.block _ (by show A<w6.heap.size;omega))).trans cs6,(World.cell?_of_block (w:=w6) (hg.block _ (by show A<w6.heap.size;omega))).trans cw6,qwP hb hg,hg⟩
 have C27:Hid (∀ w7:World,Lib.BuilderAt 74 5 B B (.pointer (some ⟨B,0,none⟩)) (Lib.byteCells acc) w7->Grew w6.heap.size w6 w7 ->
   Calls Tryz.prog 28 #[.pointer (some ⟨B,0,none⟩),.string (wh++sepA++T++sepB++ws)] w7 fun e w8=>e=.returned (.tuple #[.int .i64 (wh++sepA++T++sepB++ws).size,.nilIface]) /\
    (Lib.BuilderAt 74 5 B B (.pointer (some ⟨B,0,none⟩)) (Lib.byteCells (acc++(behB wh T ws).data.toList)) w8/\Grew B w6 w8/\w8.cell? ⟨A,2,none⟩=some (.int .i64 st)/\w8.cell? ⟨A,3,none⟩=some (.int .i64 wd))):=Any.hidJ fun w7 hb7 g7=>by
  refine(qy4 B B _ _ _ (Or.inr hb7) (by rw[Lib.byteCells_length];omega) (Nat.le_trans hB g7.size)).mono ?_
  rintro e w8 ⟨rfl,hb8,b8⟩
  have g8:=(g7.mono hB).trans (Grew.of b8);exact⟨rfl,by rw[Lib.byteCells_append];exact hb8,g8,(World.cell?_of_block (w:=w6) (g8.block _ hA)).trans cs6,(World.cell?_of_block (w:=w6) (g8.block _ hA)).trans cw6⟩
 have hSz:(acc++(behB wh T ws).data.toList).length<=1010000000:=by
  have e:(behB wh T ws).data.toList.length=(wh++sepA++T++sepB++ws).size:=by rw[Array.length_toList];rfl
  rw[List.length_append,e];omega
 replace hws:=Any.hidJ hws;replace hT:=Any.hidJ hT;replace hr:=Any.hidJ hr;replace hR:=Any.hidJ hR;replace hSz:=Any.hidJ hSz
 go_region_held3 (fun w'=>w'.cell? ⟨A,2,none⟩=some (.int .i64 st)/\w'.cell? ⟨A,3,none⟩=some (.int .i64 wd)) (first|go_keep|exact⟨cs7,cw7⟩|exact⟨cs8,cw8⟩)
  (first
   |(go_at_call 31;refine(C30.out w6.drew rfl rfl rfl).mono ?_;rintro e w7 ⟨rfl,cs7,cw7,hb7,g7⟩)
   |(go_at_call 28;refine(C27.out _ hb7 g7).mono ?_;rintro e w8 ⟨rfl,hb8,g8,cs8,cw8⟩))
 all_goals exact qEJ hb8 ((World.cell?_of_block (w:=w6) (g8.block _ hA)).trans ck6) (Nat.le_trans hB g8.size) hSz.out hkey hr.out fun w' h=>hR.out w' (g8.trans (Grew.of h))
end Ab
end YtgfbbmjoflehlaaGreatDoor
end Go.Proofs
