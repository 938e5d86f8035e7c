/-
  query.Print, walked by hand: it writes into a strings.Builder. The end of it.
-/
import Derived.Test.YtgfbbmjoflehlaaGreatDoorPqq
import Derived.WalkKit
import Derived.BigCall
import Derived.Deep.CutBlock
set_option linter.all false
namespace Go.Proofs
open Go.RowKit
namespace YtgfbbmjoflehlaaGreatDoor
namespace Ab
variable [vo]
theorem qAO {im:Nat->Prop}{w:World}{rows:Rs}{V:Value}(h:RelI im w (.imm rows) V):∃ ad cap,V=.slice ad rows.length cap/\∀ (j:Nat) c,rows[j]? = some [c] ->
  ∃ blk off u,ad=some ⟨blk,off,none⟩/\im blk/\w.cell? ⟨blk,off+j,none⟩=some u/\RelI im w c u:=by
 cases h with
 |immE a cap=>exact⟨a,cap,rfl,fun j c e=>by simp at e⟩
 |imm rows b off cap sz vs T fr us hb hi hcap hsz hv hr=>
  refine⟨_,cap,rfl,fun j c e=>⟨b,off,us j 0,rfl,hi,?_,?_⟩⟩
  . have hone:sz=1:=by rw[<- hsz _ (aM e)];rfl
    subst hone;have h1:=hv j 0 c (by simp[cellAt,e]);unfold World.cell?;simp only[hb];simpa using h1
  . exact hr j 0 c (by simp[cellAt,e])
theorem qy4 (B b:Nat)(bs:List Value)(s:ByteArray)(w:World)(h:Lib.IsBuilder 74 5 B b bs w)(hlen:bs.length+s.size<=140737488355328)(hBw:B<=w.heap.size):
  Calls Tryz.prog 28 #[.pointer (some ⟨b,0,none⟩),.string s] w fun e w'=>e=.returned (.tuple #[.int .i64 s.size,.nilIface])/\(Lib.BuilderAt 74 5 B b (.pointer (some ⟨b,0,none⟩)) (bs++Lib.strCells s) w'/\Below B w w'):=
 Any.Builder_WriteString (ρ:=Tryz.laysJN_ren) { Tryz.laysJN with } Tryz.bldX B b bs s w h hlen hBw
theorem qAB (B b:Nat)(bs:List Value)(w:World)(h:Lib.IsBuilder 74 5 B b bs w):
  Calls Tryz.prog 32 #[.pointer (some ⟨b,0,none⟩)] w fun e w'=>e=.returned (.int .i64 bs.length)/\w'=w:=
 Any.Builder_Len (ρ:=Tryz.laysLN_ren) Tryz.laysLN B b bs w h
theorem qFU (B b:Nat)(l:List UInt8)(w:World)(h:Lib.IsBuilder 74 5 B b (Lib.byteCells l) w)(hBw:B<=w.heap.size):
  Calls Tryz.prog 33 #[.pointer (some ⟨b,0,none⟩)] w fun e w'=>e=.returned (.string ⟨l.toArray⟩)/\Below B w w':=
 Any.Builder_String_any (ρ:=Tryz.laysJN_ren) { Tryz.laysJN with } Tryz.bldX B b l w h hBw
theorem qwP {T e:TypeId}{B b:Nat}{p:Value}{bs:List Value}{w w':World}(h:Lib.BuilderAt T e B b p bs w)(hg:Grew w.heap.size w w'):Lib.BuilderAt T e B b p bs w':=by
 have at_:∀ {k:Nat} {o:Obj},w.heap[k]? = some o->w'.heap[k]? = some o:=fun {k o} hk=>(hg.block k (Array.getElem?_eq_some_iff.1 hk).1).trans hk;obtain⟨hB,v,hb,hown,hne⟩:=h;refine⟨hB,v,at_ hb,⟨hown.1,?_⟩,hne⟩;rcases hown.2 with h|⟨g,cap,cur,h1,h2,h3,h4⟩
 . exact .inl h
 . exact .inr ⟨g,cap,cur,h1,h2,at_ h3,h4⟩
def behind:Code->Nat->Code
 |c,0=>c
 |.seq _ b,n+1=>behind b n
 |c,_+1=>c
def first:Code->Code
 |.seq a _=>a
 |c=>c
def qDN:Code->Bool
 |.seq _ _=>true
 |_=>false
theorem qwT:∀ (n:Nat) (c:Code),qDN (behind c n)=true->behind c n=.seq (first (behind c n)) (behind c (n+1))
 |0,.seq a b,_=>by cases b<;>rfl
 |n+1,.seq a b,h=>qwT n b h
noncomputable def qvA (n:Nat):Code:=behind ((Tryz.f10.body).getD .skip) n
theorem qvC (n:Nat)(h:qDN (qvA n)=true):qvA n=.seq (first (qvA n)) (qvA (n+1)):=qwT n _ h
set_option maxHeartbeats 4000000 in
set_option maxRecDepth 1000000 in
theorem qEJ {R:Ending->World->Prop}{A B:Nat}{w8:World}{acc:List UInt8}{key:By}{en:Int}{s0 s2 s3 s5 s6 s7 s9 s10 s11 s12 s13 s14 s15 s16 s17 s18 s19 s20 s21 s22 s23 s24 s25 s26 s27 s28 s29 s30 s31 s32 s33 s34 s35 s36 s37 s38 s39 s40 s41 s42 s43 s44 s45 s46 s47 s48 s49 s50 s51 s52 s53 s54 s55 s56 s57 s58 s59 s60 s61 s62 s63 s64 s65 s66 s67 s68:Value}(hb:Lib.BuilderAt 74 5 B B (.pointer (some ⟨B,0,none⟩)) (Lib.byteCells acc) w8)(c8:w8.cell? ⟨A,4,none⟩=some (.string key))(hB:B<=w8.heap.size)(hacc:acc.length<=1010000000)(hkey:key.size<=1000000){r:By×Int}(hr:r=if (acc++keyL key).length>4000\/en=2 then(strB [],2)else if en=0 then(⟨(acc++keyL key).toArray⟩,0)else(strB [],en))(hR:∀ w',Below B w8 w'->R (.returned (.tuple #[.string r.1,.int .i64 r.2])) w'):
  Code.wp Tryz.prog (qvA 8) (bodyPost Tryz.prog Tryz.f10 R) ⟨#[s0,.pointer (some ⟨A,0,none⟩),s2,s3,.pointer (some ⟨B,0,none⟩),s5,s6,s7,.int .i64 en,s9,s10,s11,s12,s13,s14,s15,s16,s17,s18,s19,s20,s21,s22,s23,s24,s25,s26,s27,s28,s29,s30,s31,s32,s33,s34,s35,s36,s37,s38,s39,s40,s41,s42,s43,s44,s45,s46,s47,s48,s49,s50,s51,s52,s53,s54,s55,s56,s57,s58,s59,s60,s61,s62,s63,s64,s65,s66,s67,s68],[]⟩ w8:=by
 rw[qvC 8 rfl];refine wp_seq ?_
 conv=>arg 2;whnf
 replace hr:=Any.hidJ hr;replace hR:=Any.hidJ hR;have L3:(⟨#[32,80,65,82,84,73,84,73,79,78,32,66,89,32]⟩:ByteArray).size=14:=by decide
 have fin:∀ (wx:World) (l:List UInt8) {s0 s2 s3 s5 s6 s7 s9 s10 s11 s12 s13 s14 s15 s16 s17 s18 s19 s20 s21 s22 s23 s24 s25 s26 s27 s28 s29 s30 s31 s32 s33 s34 s35 s36 s37 s38 s39 s40 s41 s42 s43 s44 s45 s46 s47 s48 s49 s50 s51 s52 s53 s54 s55 s56 s57 s58 s59 s60 s61 s62 s63 s64 s65 s66 s67 s68:Value},Lib.BuilderAt 74 5 B B (.pointer (some ⟨B,0,none⟩)) (Lib.byteCells l) wx->Below B w8 wx->l=acc++keyL key ->
   Code.wp Tryz.prog (qvA 9) (bodyPost Tryz.prog Tryz.f10 R) ⟨#[s0,.pointer (some ⟨A,0,none⟩),s2,s3,.pointer (some ⟨B,0,none⟩),s5,s6,s7,.int .i64 en,s9,s10,s11,s12,s13,s14,s15,s16,s17,s18,s19,s20,s21,s22,s23,s24,s25,s26,s27,s28,s29,s30,s31,s32,s33,s34,s35,s36,s37,s38,s39,s40,s41,s42,s43,s44,s45,s46,s47,s48,s49,s50,s51,s52,s53,s54,s55,s56,s57,s58,s59,s60,s61,s62,s63,s64,s65,s66,s67,s68],[]⟩ wx:=by
  intro wx l s0 s2 s3 s5 s6 s7 s9 s10 s11 s12 s13 s14 s15 s16 s17 s18 s19 s20 s21 s22 s23 s24 s25 s26 s27 s28 s29 s30 s31 s32 s33 s34 s35 s36 s37 s38 s39 s40 s41 s42 s43 s44 s45 s46 s47 s48 s49 s50 s51 s52 s53 s54 s55 s56 s57 s58 s59 s60 s61 s62 s63 s64 s65 s66 s67 s68 hbx hbl hl
  conv=>arg 2;whnf
  replace hl:=Any.hidJ hl;replace hbl:=Any.hidJ hbl;by_cases h4:l.length>4000
  .
   have h4':(4000:Int)<(l.length:Int):=by omega
   have hr':r=(strB [],2):=by rw[hr.out,aD (.inl (by rw[<- hl.out];exact h4))]
   subst hr';replace hR:=hR.out _ hbl.out;replace hR:=Any.hidJ hR
   go_wp2_with fail
   go_at_call 32
   refine(qAB B B _ _ (Or.inr hbx)).mono ?_
   rintro e w9 ⟨rfl,rfl⟩
   rw[Lib.byteCells_length]
   go_wp2_with fail
   exact hR.out
  .
   by_cases h2:en=2
   .
    subst h2;have h4':¬ (4000:Int)<(l.length:Int):=by omega
    have hr':r=(strB [],2):=by rw[hr.out,aD (.inr rfl)]
    subst hr';replace hR:=hR.out _ hbl.out;replace hR:=Any.hidJ hR
    go_wp2_with fail
    go_at_call 32
    refine(qAB B B _ _ (Or.inr hbx)).mono ?_
    rintro e w9 ⟨rfl,rfl⟩
    rw[Lib.byteCells_length]
    go_wp2_with fail
    exact hR.out
   .
    by_cases h0:en=0
    .
     subst h0;have h4':¬ (4000:Int)<(l.length:Int):=by omega
     have hr':r=(⟨l.toArray⟩,0):=by rw[hr.out,aF (by rw[<- hl.out];omega),aD rfl,hl.out]
     subst hr'
     go_wp2_with fail
     go_at_call 32
     refine(qAB B B _ _ (Or.inr hbx)).mono ?_
     rintro e w9 ⟨rfl,rfl⟩
     rw[Lib.byteCells_length]
     go_wp2_with fail
     go_at_call 33
     refine(qFU B B l _ (Or.inr hbx) (Nat.le_trans hB hbl.out.size)).mono ?_
     rintro e w10 ⟨rfl,b10⟩
     have hR2:=Any.hidJ (hR.out _ (hbl.out.trans b10))
     go_wp2_with fail
     exact hR2.out
    .
     have h4':¬ (4000:Int)<(l.length:Int):=by omega
     have h2':(en==2)=false:=by simpa using h2
     have h0':(en != 0)=true:=by simpa using h0
     have hr':r=(strB [],en):=by rw[hr.out,aF (by rw[<- hl.out];omega),aF h0]
     subst hr';replace hR:=hR.out _ hbl.out;replace hR:=Any.hidJ hR
     go_wp2_with fail
     go_at_call 32
     refine(qAB B B _ _ (Or.inr hbx)).mono ?_
     rintro e w9 ⟨rfl,rfl⟩
     rw[Lib.byteCells_length]
     go_wp2_with fail
     exact hR.out
 by_cases hk:key.size=0
 .
  have hk':key.toList.isEmpty=true:=by
   rw[ByteArray.toList_eq];have:key.data.toList.length=0:=by rw[Array.length_toList];exact hk
   rw[List.length_eq_zero_iff.1 this];rfl
  have hkl:acc=acc++keyL key:=by rw[keyL,aD hk,List.append_nil]
  replace hkl:=Any.hidJ hkl;replace fin:=Any.hidJ fin
  go_wp2_with fail
  exact fin.out _ _ hb (Below.refl _ _) hkl.out
 .
  have hk':key.toList.isEmpty=false:=by
   rw[ByteArray.toList_eq];have:key.data.toList.length≠0:=by rw[Array.length_toList];exact hk
   cases h:key.data.toList with
   |nil=>rw[h]at this;exact absurd rfl this
   |cons x l=>rfl
  replace fin:=Any.hidJ fin
  go_wp2_with fail
  go_at_call 28
  refine(qy4 B B _ _ _ (Or.inr hb) (by rw[Lib.byteCells_length,ByteArray.size_append];omega) hB).mono ?_
  rintro e w9 ⟨rfl,h9,b9⟩
  have hkl:acc++(({ data:=#[32,80,65,82,84,73,84,73,79,78,32,66,89,32] }:ByteArray)++key).data.toList=acc++keyL key:=by rw[keyL,aF hk];rfl
  replace hkl:=Any.hidJ hkl
  go_wp2_with fail
  exact fin.out _ _ (by rw[Lib.byteCells_append];exact h9) b9 hkl.out
end Ab
end YtgfbbmjoflehlaaGreatDoor
end Go.Proofs
