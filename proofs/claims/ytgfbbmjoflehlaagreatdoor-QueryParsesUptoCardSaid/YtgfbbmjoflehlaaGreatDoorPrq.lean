/-
  query.Print, walked by hand: it writes into a strings.Builder. The end of it.
-/
import Derived.Test.YtgfbbmjoflehlaaGreatDoorPvq
import Derived.WalkKit
import Derived.BigCall
import Derived.Deep.CutBlock
set_option linter.all false
namespace Go.Proofs
open Go.RowKit
namespace YtgfbbmjoflehlaaGreatDoor
namespace Ab
variable [vo]
set_option maxHeartbeats 4000000 in
set_option maxRecDepth 1000000 in
theorem qyX {k:Nat}{a b:Rs}{st wd ka:Int}{key:By}{im:Nat->Prop}{w:World}(hinv:GInv (bare im) w){A B:Value}(hA:RelI im w (.imm a) A)(hB:RelI im w (.imm b) B){r:By×Int}(hp:qw5 k a b st wd key ka=some r):
  Calls Tryz.prog 10 #[.agg #[A,B,.int .i64 st,.int .i64 wd,.string key,.int .i64 ka]] w fun e w'=>e=.returned (.tuple #[.string r.1,.int .i64 r.2])/\Grew w.heap.size w w':=by
 have him:∀ b,im b->b<w.heap.size:=fun b hb=>hinv.imlt b hb;have hrel:∀ w',Grew w.heap.size w w'->RelF (bare im) w' ⟨[.ag [.imm a,.imm b,ic st,ic wd,sc key,ic ka]],qd 0 []⟩ #[.agg #[A,B,.int .i64 st,.int .i64 wd,.string key,.int .i64 ka]]:=by
  intro w' hg;refine qwS (qwj hinv him hg) rfl fun k v e=>?_;cases k with
  |succ k=>simp at e
  |zero=>
   simp only[aI,aa]at e;subst e;refine⟨fun r o c hc zz rs he=>?_,_,rfl,by simp[AV.ag,QO],fun r o c hc=>?_⟩
   . obtain⟨rfl,hc⟩:=zI hc;subst he
     match o,hc with
     |0,hc|1,hc|2,hc|3,hc|4,hc|5,hc=>cases hc
   .
    obtain⟨rfl,hc⟩:=zI hc
    match o,hc with
    |0,hc=>cases hc;exact⟨A,rfl,.inr (hA.mono (fun _ h=>h) fun b hb=>hg.block b (him b hb))⟩
    |1,hc=>cases hc;exact⟨B,rfl,.inr (hB.mono (fun _ h=>h) fun b hb=>hg.block b (him b hb))⟩
    |2,hc|3,hc|4,hc|5,hc=>cases hc;exact⟨_,rfl,.inr ⟨rfl,rfl⟩⟩
 unfold qw5 at hp;obtain⟨ok,h25,hp⟩:=Option.bind_eq_some_iff.1 hp;have C25:Hid (∀ w',Grew w.heap.size w w'->Calls Tryz.prog 26 #[.agg #[A,B,.int .i64 st,.int .i64 wd,.string key,.int .i64 ka]] w' fun e w1=>e=.returned (.bool ok)/\Grew w'.heap.size w' w1):=Any.hidJ fun w' hg=>by
  refine((evI h25).grew (hrel w' hg)).mono ?_
  rintro e w1 ⟨⟨V,G1,rfl,hv⟩,hg1⟩
  have:=qxv hv;subst this;exact⟨rfl,hg1⟩
 replace hp:=Any.hidJ hp
 go_enter Tryz.func10,Tryz.ntmps10
 change Code.wp Tryz.prog (qvA 0) _ _ _;rw[qvC 0 rfl];refine wp_seq ?_
 conv=>arg 2;whnf
 go_wp2_with fail
 change Code.wp Tryz.prog (qvA 1) _ _ _;rw[qvC 1 rfl];refine wp_seq ?_
 conv=>arg 2;whnf
 go_wp2_with fail
 go_at_call 26
 refine(C25.out _ ?c1).mono ?_
 case c1=>exact Grew.of ((Below.refl _ w).alloc (Nat.le_refl _) _)
 rintro e w1 ⟨rfl,hg1⟩
 have q1:w1.heap[w.heap.size]? = some (.cells #[A,B,.int .i64 st,.int .i64 wd,.string key,.int .i64 ka] 25 (0,0)):=by rw[hg1.block _ (by simp)];rw[heap_alloc,aD rfl]
 have g1:Grew w.heap.size w w1:=(Grew.of ((Below.refl _ w).alloc (Nat.le_refl _) _)).trans (hg1.mono (by simp));have z1:w.heap.size+1<=w1.heap.size:=by have:=hg1.size;simpa using this
 clear hg1;have cA:w1.cell? ⟨w.heap.size,0,none⟩=some A:=Lib.cell_of_heap q1 0;have cB:w1.cell? ⟨w.heap.size,1,none⟩=some B:=Lib.cell_of_heap q1 1;have c2:w1.cell? ⟨w.heap.size,2,none⟩=some (.int .i64 st):=Lib.cell_of_heap q1 2;have c3:w1.cell? ⟨w.heap.size,3,none⟩=some (.int .i64 wd):=Lib.cell_of_heap q1 3;have c4:w1.cell? ⟨w.heap.size,4,none⟩=some (.string key):=Lib.cell_of_heap q1 4;have c5:w1.cell? ⟨w.heap.size,5,none⟩=some (.int .i64 ka):=Lib.cell_of_heap q1 5;cases ok with
 |false=>
  have e:(strB [],3)=r:=aR hp.out;subst e
  go_wp2_with fail
  go_ret2
  exact⟨rfl,g1⟩
 |true=>
  obtain⟨lg,h26,hp⟩:=Option.bind_eq_some_iff.1 (show((g27 k a b st wd key ka).bind _)=some r from hp.out);have C26:Hid (∀ w',Grew w.heap.size w w'->Calls Tryz.prog 27 #[.agg #[A,B,.int .i64 st,.int .i64 wd,.string key,.int .i64 ka]] w' fun e w1=>e=.returned (.bool lg)/\Grew w'.heap.size w' w1):=Any.hidJ fun w' hg=>by
   refine((evI h26).grew (hrel w' hg)).mono ?_
   rintro e w1 ⟨⟨V,G1,rfl,hv⟩,hg1⟩
   have:=qxv hv;subst this;exact⟨rfl,hg1⟩
  replace hp:=Any.hidJ hp;replace h26:=Any.hidJ h26
  go_wp2_with fail
  change Code.wp Tryz.prog (qvA 2) _ _ _;rw[qvC 2 rfl];refine wp_seq ?_
  conv=>arg 2;whnf
  go_wp2_with fail
  go_at_call 27
  refine(C26.out _ g1).mono ?_
  rintro e w2 ⟨rfl,hg2⟩
  have q2:w2.heap[w.heap.size]? = some (.cells #[A,B,.int .i64 st,.int .i64 wd,.string key,.int .i64 ka] 25 (0,0)):=(hg2.block _ (by omega)).trans q1;have g2:Grew w.heap.size w w2:=g1.trans (hg2.mono (by omega));have z2:w.heap.size+1<=w2.heap.size:=Nat.le_trans z1 hg2.size;clear hg2 cA cB c2 c3 c4 c5 q1 g1 z1;cases lg with
  |true=>
   have e:(strB [],2)=r:=aR hp.out;subst e
   go_wp2_with fail
   go_ret2
   exact⟨rfl,g2⟩
  |false=>
   have hp2:=hp.out;simp only[af]at hp2;obtain⟨⟨wh,en⟩,h29,hp2⟩:=Option.bind_eq_some_iff.1 hp2;simp only[tup2]at hp2;obtain⟨ws,hws,hp2⟩:=Option.bind_eq_some_iff.1 hp2;obtain⟨T,hT,hp2⟩:=Option.bind_eq_some_iff.1 hp2;obtain⟨fin,hfin,hp2⟩:=Option.bind_eq_some_iff.1 hp2;rcases qa hp2 with⟨hc,hp3⟩|⟨hc,hp3⟩
   .
    simp only[aC,aX]at hc;obtain⟨hwh,hwss,hacc,halen,hkey⟩:=hc;have hr:r=if (fin++(behB wh T ws).data.toList++keyL key).length>4000\/en=2 then(strB [],2)else if en=0 then(⟨(fin++(behB wh T ws).data.toList++keyL key).toArray⟩,0)else(strB [],en):=by
     rcases qa hp3 with⟨h1,h2⟩|⟨h1,h2⟩
     . rw[<- aR h2,aD (by simpa using h1)]
     . have h1':¬ ((fin++(behB wh T ws).data.toList++keyL key).length>4000\/en=2):=by
        intro hh;have:(decide ((fin++(behB wh T ws).data.toList++keyL key).length>4000)||en==2)=true:=by simpa using hh
        rw[h1]at this;cases this
       rw[aF h1'];rcases qa h2 with⟨h3,h4⟩|⟨h3,h4⟩
       . rw[<- aR h4,aD (by simpa using h3)]
       . rw[<- aR h4,aF (by simpa using h3)]
    have last:Hid (∀ (w3:World) {s0 s2 s3 s5 s6 s7 s8 s9 s10 s11 s12 s13 s14 s15 s16 s17 s18 s19 s20 s21 s22 s23 s24 s25 s26 s27 s28 s29 s30 s31 s32 s33 s34 s35 s36 s37 s38 s39 s40 s41 s42 s43 s44 s45 s46 s47 s48 s49 s50 s51 s52 s53 s54 s55 s56 s57 s58 s59 s60 s61 s62 s63 s64 s65 s66 s67 s68:Value},Lib.BuilderAt 74 5 w2.heap.size w2.heap.size (.pointer (some ⟨w2.heap.size,0,none⟩)) (Lib.byteCells patL) w3->Grew w2.heap.size w2 w3->w2.heap.size<=w3.heap.size ->
      Code.wp Tryz.prog (qvA 5) (bodyPost Tryz.prog Tryz.f10 fun e w'=>e=.returned (.tuple #[.string r.1,.int .i64 r.2])/\Grew w.heap.size w w') ⟨#[s0,.pointer (some ⟨w.heap.size,0,none⟩),s2,s3,.pointer (some ⟨w2.heap.size,0,none⟩),s5,s6,s7,s8,s9,s10,s11,s12,s13,s14,s15,s16,s17,s18,s19,s20,s21,s22,s23,s24,s25,s26,s27,s28,s29,s30,s31,s32,s33,s34,s35,s36,s37,s38,s39,s40,s41,s42,s43,s44,s45,s46,s47,s48,s49,s50,s51,s52,s53,s54,s55,s56,s57,s58,s59,s60,s61,s62,s63,s64,s65,s66,s67,s68],[]⟩ w3):=Any.hidJ fun w3 s0 s2 s3 s5 s6 s7 s8 s9 s10 s11 s12 s13 s14 s15 s16 s17 s18 s19 s20 s21 s22 s23 s24 s25 s26 s27 s28 s29 s30 s31 s32 s33 s34 s35 s36 s37 s38 s39 s40 s41 s42 s43 s44 s45 s46 s47 s48 s49 s50 s51 s52 s53 s54 s55 s56 s57 s58 s59 s60 s61 s62 s63 s64 s65 s66 s67 s68 hb hg hsz=>
     qFV hinv hA hB (g2.trans (hg.mono (by omega))) hb ((hg.block _ z2).trans q2) (Nat.le_refl _) z2 hsz hacc halen hkey hwh hwss hfin h29 hws hT hr fun w' hg'=>⟨rfl,g2.trans ((hg.mono (by omega)).trans (hg'.mono (by omega)))⟩
    clear hr hp3 hp2 hfin h29 hws hT
    go_wp2_with fail
    change Code.wp Tryz.prog (qvA 3) _ _ _;rw[qvC 3 rfl];refine wp_seq ?_
    conv=>arg 2;whnf
    go_wp2_with fail
    change Code.wp Tryz.prog (qvA 4) _ _ _;rw[qvC 4 rfl];refine wp_seq ?_
    conv=>arg 2;whnf
    go_wp2_with fail
    go_at_call 28
    refine(qy4 w2.heap.size w2.heap.size [] _ _ (Lib.fresh_isBuilder 74 5 w2) (by decide) (by simp)).mono ?_
    rintro e w3 ⟨rfl,h3,b3⟩
    have g3:Grew w2.heap.size w2 w3:=(Grew.of ((Below.refl _ w2).alloc (Nat.le_refl _) _)).trans (Grew.of b3)
    go_wp2_with fail
    exact last.out w3 h3 g3 g3.size
   . cases hp3
theorem qAI {G:Gh}{w w':World}{args:List AV}{Vs:Array Value}(h:RelF G w ⟨args,qd 0 []⟩ Vs)(hb:Grew w.heap.size w w'){v:AV}{V:Value}(hv:∀ r o c,cellAt v.rows r o=some c->∃ x,c=.val x)(hr:YY G w ⟨.slot 0,[]⟩ v V):RelF G w' ⟨[v],qd 0 []⟩ #[V]:=by have h1:=qgY (w':={ w' with tape:=w.tape }) h ⟨hb.os,rfl,hb.output,hb.size,hb.block⟩ hv hr;exact h1.same ⟨Nat.le_refl _,fun _ _=>rfl,fun _ _ _=>rfl⟩
theorem qzE {k:Nat}{a b:Rs}{st wd ka:Int}{key s:By}{n:Int}(h:qw5 k a b st wd key ka=some (s,n)):Ev Tryz.prog noHand 10 [.ag [.imm a,.imm b,ic st,ic wd,sc key,ic ka]] [] (.ret ⟨.tup [false,false],[[sc s],[ic n]]⟩) []:=by
 refine⟨⟨Tryz.f10,by kernel_rfl,by kernel_rfl,by kernel_rfl⟩,fun G w Vs hr=>?_⟩;obtain⟨V,e0,hV⟩:=hr.slots 0 _ rfl;have hVs:Vs = #[V]:=by
  have hsz:=hr.size;apply Array.ext_getElem?;intro i
  match i with
  |0=>rw[e0];rfl
  |i+1=>
   have:Vs.size<=i+1:=by rw[<- hsz];simp
   rw[Array.getElem?_eq_none this];simp
 subst hVs;obtain⟨hsh,hc⟩:=hV;simp only[AV.ag,List.map_cons,List.map_nil,QO]at hsh;obtain⟨vs,rfl,hsz⟩:=hsh;have im_:∀ (o:Nat) rows,cellAt [[.imm a,.imm b,ic st,ic wd,sc key,ic ka]] 0 o=some (.imm rows)->∃ u,vs[o]? = some u/\RelI G.im w (.imm rows) u:=fun o rows e=>by
  obtain⟨u,hu,hs⟩:=hc 0 o _ e;rcases hs with hs|hs
  . cases hs
  . exact⟨u,hu,hs⟩
 have val_:∀ (o:Nat) x,cellAt [[.imm a,.imm b,ic st,ic wd,sc key,ic ka]] 0 o=some (.val x)->vs[o]? = some x:=fun o x e=>by
  obtain⟨u,hu,hs⟩:=hc 0 o _ e;rcases hs with hs|hs
  . cases hs
  . obtain⟨rfl,_⟩:=hs;exact hu
 obtain⟨A,a0,hA⟩:=im_ 0 a rfl;obtain⟨B,a1,hB⟩:=im_ 1 b rfl;have a2:=val_ 2 _ rfl;have a3:=val_ 3 _ rfl;have a4:=val_ 4 _ rfl;have a5:=val_ 5 _ rfl;have hvs:vs = #[A,B,.int .i64 st,.int .i64 wd,.string key,.int .i64 ka]:=by
  apply Array.ext_getElem?;intro i
  match i with
  |0=>rw[a0];rfl
  |1=>rw[a1];rfl
  |2=>rw[a2];rfl
  |3=>rw[a3];rfl
  |4=>rw[a4];rfl
  |5=>rw[a5];rfl
  |i+6=>
   have:vs.size<=i+6:=by simp at hsz;omega
   rw[Array.getElem?_eq_none this];simp
 subst hvs;have hinv:GInv (bare G.im) w:=⟨fun k k' x x' e=>(by cases e),fun k x e=>(by cases e),hr.inv.imlt,hr.inv.glob⟩
 refine(qyX hinv hA hB h).mono ?_
 rintro e w' ⟨rfl,hg⟩
 refine⟨G,Gain.same hg.size hg.block hr.inv ⟨hg.os,hg.output⟩,_,rfl,qAI hr hg ?_ ⟨?_,?_⟩⟩
 .
  intro r o c e
  match r,o,e with
  |0,0,e=>cases e;exact⟨_,rfl⟩
  |1,0,e=>cases e;exact⟨_,rfl⟩
 .
  refine⟨_,rfl,rfl,rfl,fun i g n h1 h2=>?_⟩
  match i,h1,h2 with
  |0,h1,h2=>cases h1;cases h2;exact⟨_,rfl,rfl⟩
  |1,h1,h2=>cases h1;cases h2;exact⟨_,rfl,rfl⟩
 .
  intro r o c e
  match r,o,e with
  |0,0,e=>cases e;exact⟨_,rfl,.inr ⟨rfl,rfl⟩⟩
  |1,0,e=>cases e;exact⟨_,rfl,.inr ⟨rfl,rfl⟩⟩
instance {k:Nat} {a b:Rs} {st wd ka:Int} {key:By}:EvI (qw5 k a b st wd key ka) 10 [.ag [.imm a,.imm b,ic st,ic wd,sc key,ic ka]] [] (fun r=>.ret ⟨.tup [false,false],[[sc r.1],[ic r.2]]⟩) (fun _=>[]):=⟨fun r h=>qzE h⟩
end Ab
end YtgfbbmjoflehlaaGreatDoor
end Go.Proofs
