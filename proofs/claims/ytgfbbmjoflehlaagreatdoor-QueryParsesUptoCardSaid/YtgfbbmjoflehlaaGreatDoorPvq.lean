/-
  query.Print, walked by hand: it writes into a strings.Builder. The end of it.
-/
import Derived.Test.YtgfbbmjoflehlaaGreatDoorPuq
import Derived.WalkKit
import Derived.BigCall
import Derived.Deep.CutBlock
set_option linter.all false
namespace Go.Proofs
open Go.RowKit
namespace YtgfbbmjoflehlaaGreatDoor
namespace Ab
variable [vo]
set_option maxHeartbeats 4000000 in
set_option maxRecDepth 1000000 in
theorem qEH {R:Ending->World->Prop}{A B k:Nat}{im:Nat->Prop}{w wr:World}{acc:List UInt8}{b:Rs}{Bv:Value}{key wh ws T:By}{en st wd:Int}{s0 s2 s3 s5 s6 s7 s8 s9 s10 s11 s12 s13 s14 s15 s16 s17 s18 s19 s20 s21 s22 s23 s24 s25 s26 s27 s28 s29 s30 s31 s32 s33 s34 s35 s36 s37 s38 s39 s40 s41 s42 s43 s44 s45 s46 s47 s48 s49 s50 s51 s52 s53 s54 s55 s56 s57 s58 s59 s60 s61 s62 s63 s64 s65 s66 s67 s68:Value}(hinv:GInv (bare im) w)(hBr:RelI im w (.imm b) Bv)(g:Grew w.heap.size w wr)(hb:Lib.BuilderAt 74 5 B B (.pointer (some ⟨B,0,none⟩)) (Lib.byteCells acc) wr)(c1:wr.cell? ⟨A,1,none⟩=some Bv)(c2:wr.cell? ⟨A,2,none⟩=some (.int .i64 st))(c3:wr.cell? ⟨A,3,none⟩=some (.int .i64 wd))(c4:wr.cell? ⟨A,4,none⟩=some (.string key))(hwA:w.heap.size<=A)(hA:A<B)(hB:B<=wr.heap.size)(hacc:acc.length<=1000000000)(hkey:key.size<=1000000)(hwh:wh.size<=1000000)(hwss:ws.size<=1000000)(h29:g30 k b=some (wh,en))(hws:fmtX wd=some ws)(hT:strat st=some T){r:By×Int}(hr:r=if (acc++(behB wh T ws).data.toList++keyL key).length>4000\/en=2 then(strB [],2)else if en=0 then(⟨(acc++(behB wh T ws).data.toList++keyL key).toArray⟩,0)else(strB [],en))(hR:∀ w',Grew B wr w'->R (.returned (.tuple #[.string r.1,.int .i64 r.2])) w'):
  Code.wp Tryz.prog (qvA 6) (bodyPost Tryz.prog Tryz.f10 R) ⟨#[s0,.pointer (some ⟨A,0,none⟩),s2,s3,.pointer (some ⟨B,0,none⟩),s5,s6,s7,s8,s9,s10,s11,s12,s13,s14,s15,s16,s17,s18,s19,s20,s21,s22,s23,s24,s25,s26,s27,s28,s29,s30,s31,s32,s33,s34,s35,s36,s37,s38,s39,s40,s41,s42,s43,s44,s45,s46,s47,s48,s49,s50,s51,s52,s53,s54,s55,s56,s57,s58,s59,s60,s61,s62,s63,s64,s65,s66,s67,s68],[]⟩ wr:=by
 have him:∀ b,im b->b<w.heap.size:=fun b hb=>hinv.imlt b hb;have relB:RelF (bare im) wr ⟨[.c (.imm b)],qd 0 []⟩ #[Bv]:=by
  refine qwS (qwj hinv him g) rfl fun k v e=>?_;cases k with
  |succ k=>simp at e
  |zero=>simp only[aI,aa]at e;subst e;exact⟨fun r o c hc zz rs he=>(by obtain⟨rfl,rfl,rfl⟩:=one_cell hc;cases he),_,rfl,qAT hBr him g _⟩
 have C29:=(evI h29).grew relB;rw[qvC 6 rfl];refine wp_seq ?_
 conv=>arg 2;whnf
 replace hws:=Any.hidJ hws;replace hT:=Any.hidJ hT;replace hr:=Any.hidJ hr;replace hR:=Any.hidJ hR;replace C29:=Any.hidJ C29
 go_wp2_with fail
 go_at_call 30
 refine C29.out.mono ?_
 rintro e w6 ⟨⟨V,G6,rfl,hv⟩,hg6⟩
 have:=qCN hv;subst this
 go_wp2_with fail
 have hb6:=qwP hb hg6;have at_:∀ (i:Nat) v,wr.cell? ⟨A,i,none⟩=some v->w6.cell? ⟨A,i,none⟩=some v:=fun i v h=>(World.cell?_of_block (w:=wr) (hg6.block _ (by show A<wr.heap.size;omega))).trans h;have g6:Grew w.heap.size w w6:=g.trans (hg6.mono g.size);refine qEI (im:=im) (qwj hinv him g6) hb6 (at_ 2 _ c2) (at_ 3 _ c3) (at_ 4 _ c4) hA (Nat.le_trans hB hg6.size) (fun b hb=>by have:=him b hb;omega) hacc hkey hwh hwss hws.out hT.out hr.out fun w' g'=>hR.out w' ((hg6.mono hB).trans g')
set_option maxHeartbeats 4000000 in
set_option maxRecDepth 1000000 in
theorem qFV {R:Ending->World->Prop}{A B k:Nat}{im:Nat->Prop}{w w3:World}{fin:List UInt8}{a b:Rs}{Av Bv:Value}{key wh ws T:By}{en st wd ka:Int}{s0 s2 s3 s5 s6 s7 s8 s9 s10 s11 s12 s13 s14 s15 s16 s17 s18 s19 s20 s21 s22 s23 s24 s25 s26 s27 s28 s29 s30 s31 s32 s33 s34 s35 s36 s37 s38 s39 s40 s41 s42 s43 s44 s45 s46 s47 s48 s49 s50 s51 s52 s53 s54 s55 s56 s57 s58 s59 s60 s61 s62 s63 s64 s65 s66 s67 s68:Value}(hinv:GInv (bare im) w)(hAr:RelI im w (.imm a) Av)(hBr:RelI im w (.imm b) Bv)(g:Grew w.heap.size w w3)(h3:Lib.BuilderAt 74 5 B B (.pointer (some ⟨B,0,none⟩)) (Lib.byteCells patL) w3)(hq:w3.heap[A]? = some (.cells #[Av,Bv,.int .i64 st,.int .i64 wd,.string key,.int .i64 ka] 25 (0,0)))(hwA:w.heap.size<=A)(hAB:A<B)(hB:B<=w3.heap.size)(hacc:fin.length<=1000000000)(halen:a.length<=1000000000)(hkey:key.size<=1000000)(hwh:wh.size<=1000000)(hwss:ws.size<=1000000)(hfin:qxN k 0 a patL=some fin)(h29:g30 k b=some (wh,en))(hws:fmtX wd=some ws)(hT:strat st=some T){r:By×Int}(hr:r=if (fin++(behB wh T ws).data.toList++keyL key).length>4000\/en=2 then(strB [],2)else if en=0 then(⟨(fin++(behB wh T ws).data.toList++keyL key).toArray⟩,0)else(strB [],en))(hR:∀ w',Grew B w3 w'->R (.returned (.tuple #[.string r.1,.int .i64 r.2])) w'):
  Code.wp Tryz.prog (qvA 5) (bodyPost Tryz.prog Tryz.f10 R) ⟨#[s0,.pointer (some ⟨A,0,none⟩),s2,s3,.pointer (some ⟨B,0,none⟩),s5,s6,s7,s8,s9,s10,s11,s12,s13,s14,s15,s16,s17,s18,s19,s20,s21,s22,s23,s24,s25,s26,s27,s28,s29,s30,s31,s32,s33,s34,s35,s36,s37,s38,s39,s40,s41,s42,s43,s44,s45,s46,s47,s48,s49,s50,s51,s52,s53,s54,s55,s56,s57,s58,s59,s60,s61,s62,s63,s64,s65,s66,s67,s68],[]⟩ w3:=by
 have him:∀ b,im b->b<w.heap.size:=fun b hb=>hinv.imlt b hb;rw[qvC 5 rfl];refine wp_seq ?_
 conv=>arg 2;whnf
 obtain⟨ad,cap,rfl,hrow⟩:=qAO hAr;have cA:w3.cell? ⟨A,0,none⟩=some (.slice ad a.length cap):=Lib.cell_of_heap hq 0;have last:Hid (∀ (wr:World) {s0 s2 s3 s5 s6 s7 s8 s9 s10 s11 s12 s13 s14 s15 s16 s17 s18 s19 s20 s21 s22 s23 s24 s25 s26 s27 s28 s29 s30 s31 s32 s33 s34 s35 s36 s37 s38 s39 s40 s41 s42 s43 s44 s45 s46 s47 s48 s49 s50 s51 s52 s53 s54 s55 s56 s57 s58 s59 s60 s61 s62 s63 s64 s65 s66 s67 s68:Value},Lib.BuilderAt 74 5 B B (.pointer (some ⟨B,0,none⟩)) (Lib.byteCells fin) wr->Grew B w3 wr->Code.wp Tryz.prog (qvA 6) (bodyPost Tryz.prog Tryz.f10 R) ⟨#[s0,.pointer (some ⟨A,0,none⟩),s2,s3,.pointer (some ⟨B,0,none⟩),s5,s6,s7,s8,s9,s10,s11,s12,s13,s14,s15,s16,s17,s18,s19,s20,s21,s22,s23,s24,s25,s26,s27,s28,s29,s30,s31,s32,s33,s34,s35,s36,s37,s38,s39,s40,s41,s42,s43,s44,s45,s46,s47,s48,s49,s50,s51,s52,s53,s54,s55,s56,s57,s58,s59,s60,s61,s62,s63,s64,s65,s66,s67,s68],[]⟩ wr):=Any.hidJ fun wr s0 s2 s3 s5 s6 s7 s8 s9 s10 s11 s12 s13 s14 s15 s16 s17 s18 s19 s20 s21 s22 s23 s24 s25 s26 s27 s28 s29 s30 s31 s32 s33 s34 s35 s36 s37 s38 s39 s40 s41 s42 s43 s44 s45 s46 s47 s48 s49 s50 s51 s52 s53 s54 s55 s56 s57 s58 s59 s60 s61 s62 s63 s64 s65 s66 s67 s68 hb hg=>by have hq2:wr.heap[A]? = _:=(hg.block _ hAB).trans hq;exact qEH hinv hBr (g.trans (hg.mono (by omega))) hb (Lib.cell_of_heap hq2 1) (Lib.cell_of_heap hq2 2) (Lib.cell_of_heap hq2 3) (Lib.cell_of_heap hq2 4) hwA hAB (Nat.le_trans hB hg.size) hacc hkey hwh hwss h29 hws hT hr fun w' g'=>hR w' (hg.trans g')
 clear hr hR h29 hws hT hBr
 go_wp2
 go_loopw [18] (fun i wr=>∃ (j:Nat) (acc:List UInt8),i=.int .i64 j/\j<=a.length/\Lib.BuilderAt 74 5 B B (.pointer (some ⟨B,0,none⟩)) (Lib.byteCells acc) wr/\Grew B w3 wr/\qxN k j (a.drop j) acc=some fin) (fun i _=>a.length-(intOf i).toNat)
 case atStart=>refine⟨0,patL,rfl,Nat.zero_le _,h3,Grew.of (Below.refl _ w3),hfin⟩
 case round=>
  obtain⟨j,acc,rfl,hj,hb,hg,hl⟩:=hrel;have cA2:wr.cell? ⟨A,0,none⟩=some (.slice ad a.length cap):=Lib.cell_of_heap ((hg.block _ hAB).trans hq) 0;by_cases hlt:j<a.length
  .
   have ej:a[j]? = some a[j]:=ax hlt;rw[List.drop_eq_getElem_cons hlt]at hl;generalize a[j]=row at ej hl;obtain⟨l,s,rfl,h28,hsz,hl⟩:=qyP hl;obtain⟨blk,off,u,rfl,hbi,hcl,hru⟩:=hrow j _ ej;have hcell:∀ w':World,Grew B w3 w'->w'.cell? ⟨blk,off+j,none⟩=some u:=fun w' hg'=>by rw[World.cell?_of_block (w:=w3) (hg'.block _ (by have:=him _ hbi;show blk<_;omega)),World.cell?_of_block (w:=w) (g.block _ (him _ hbi))];exact hcl
   have rel1:∀ w',Grew B w3 w'->RelF (bare im) w' ⟨[.c (.imm l)],qd 0 []⟩ #[u]:=by
    intro w' hg'';have hg':Grew w.heap.size w w':=g.trans (hg''.mono (by omega));refine qwS (qwj hinv him hg') rfl fun k v e=>?_;cases k with
    |succ k=>simp at e
    |zero=>simp only[aI,aa]at e;subst e;exact⟨fun r o c hc zz rs he=>(by obtain⟨rfl,rfl,rfl⟩:=one_cell hc;cases he),_,rfl,qAT hru him hg' _⟩
   have C28:Hid (∀ w',Grew B w3 w'->Calls Tryz.prog 29 #[u] w' fun e w4=>e=.returned (.string s)/\Grew w'.heap.size w' w4):=Any.hidJ fun w' hg'=>by
    refine((evI h28).grew (rel1 w' hg')).mono ?_
    rintro e w4 ⟨⟨V,G4,rfl,hv⟩,hg4⟩
    have:=qxv hv;subst this;exact⟨rfl,hg4⟩
   replace hl:=Any.hidJ hl;have hblt:B<=wr.heap.size:=Nat.le_trans hB hg.size;by_cases h0:j=0
   .
    subst h0;have hcl2:=hcell wr hg;rw[Nat.add_zero]at hcl2
    go_wp2_with fail
    go_at_call 29
    refine(C28.out wr hg).mono ?_
    rintro e w4 ⟨rfl,hg4⟩
    have hb4:=qwP hb hg4
    go_wp2_with fail
    go_at_call 28
    refine(qy4 B B _ _ _ (Or.inr hb4) ?c2 ?c3).mono ?_
    case c2=>rw[Lib.byteCells_length];omega
    case c3=>exact Nat.le_trans hblt hg4.size
    rintro e w5 ⟨rfl,hb5,b5⟩
    go_wp2
    go_roundw
    case rel=>
     refine⟨1,acc++s.data.toList,rfl,by omega,?_,?_,?_⟩
     . rw[Lib.byteCells_append];exact hb5
     . exact hg.trans ((hg4.mono hblt).trans (Grew.of b5))
     . simpa using hl.out
    case measure=>simp[intOf];omega
   .
    have hpos:(0:Int)<(j:Int):=by omega
    have hjl:(j:Int)<(a.length:Int):=by omega
    go_wp2_with fail
    go_at_call 28
    refine(qy4 B B _ _ _ (Or.inr hb) ?c2 ?c3).mono ?_
    case c2=>
     rw[Lib.byteCells_length];have:(⟨#[32,124,32]⟩:ByteArray).size=3:=by decide
     omega
    case c3=>exact hblt
    rintro e w3b ⟨rfl,hb3,b3⟩
    have hg3:Grew B w3 w3b:=hg.trans (Grew.of b3);have hcl3:=hcell w3b hg3
    go_wp2_with fail
    go_at_call 29
    refine(C28.out w3b hg3).mono ?_
    rintro e w4 ⟨rfl,hg4⟩
    have hb4:=qwP hb3 hg4;have hs3:B<=w3b.heap.size:=Nat.le_trans hB hg3.size
    go_wp2_with fail
    go_at_call 28
    refine(qy4 B B _ _ _ (Or.inr hb4) ?c2 ?c3).mono ?_
    case c2=>
     rw[List.length_append,Lib.byteCells_length,Lib.strCells_length];have:(⟨#[32,124,32]⟩:ByteArray).size=3:=by decide
     omega
    case c3=>exact Nat.le_trans hs3 hg4.size
    rintro e w5 ⟨rfl,hb5,b5⟩
    go_wp2
    go_roundw
    case rel=>
     refine⟨j+1,acc++[32,124,32]++s.data.toList,?_,by omega,?_,?_,?_⟩
     . go_num
     . rw[Lib.byteCells_append,Lib.byteCells_append];exact hb5
     . exact hg3.trans ((hg4.mono hs3).trans (Grew.of b5))
     . have:=hl.out;rw[aF h0]at this;exact this
    case measure=>simp[intOf];omega
  .
   have hje:j=a.length:=by omega
   subst hje;rw[List.drop_length]at hl;simp only[qxN,aa]at hl;subst hl
   go_wp2_with fail
   exact last.out _ hb hg
end Ab
end YtgfbbmjoflehlaaGreatDoor
end Go.Proofs
