/-
  Whatever code and look are handed in (of bulk at most 1048576), ProveTells returns true, and they read as they did: code is, in every look, what its meaning is.
  Conditions: the row's own alone (the bound on the arguments' bulk).
-/
import Derived.Test.YtjnefcbeemkkeaaGreatX9q
set_option linter.all false
namespace Go.Proofs.YtjnefcbeemkkeaaGreat
namespace Ab
open Go.ChangeShapes Go.WideShapes Go.ChangeAt Go.RowKit
instance noG:Glob:=⟨0,fun _=>none⟩
theorem own:ownKnob Tryz.prog.godebug=none:=by kernel_rfl
def qz0:List TypeId:=[26,3,22,23,24,143,31,77,29,4,61,56,59,134,2,132,64,57,42]
theorem st26:qfd Tryz.prog 26=some [3,3,22,23,24]:=by kernel_rfl
theorem stIn:qfd Tryz.prog 143=some [3,3,3,3]:=by kernel_rfl
theorem stVl:qfd Tryz.prog 31=some [3,29]:=by kernel_rfl
theorem qEx:qfd Tryz.prog 77=some [3,3,3,3]:=by kernel_rfl
theorem utU:Tryz.prog.underlying 29=some (.int .u64):=by kernel_rfl
theorem ut22:Tryz.prog.underlying 22=some (.slice 143):=by kernel_rfl
theorem ut23:Tryz.prog.underlying 23=some (.slice 31):=by kernel_rfl
theorem ut24:Tryz.prog.underlying 24=some (.slice 77):=by kernel_rfl
theorem ut4:Tryz.prog.underlying 4=some .bool:=by kernel_rfl
theorem qCl {B n:Nat}{row:List Cell}(h:ShT Tryz.prog B n 77 row):∃ x,row=insR x:=by obtain⟨m,x0,r0,e0,h0,x1,r1,e1,h1,x2,r2,e2,h2,x3,r3,e3,h3,hz⟩:=h.fields qEx;obtain⟨a,rfl,_⟩:=h0.int ut3;obtain⟨b,rfl,_⟩:=h1.int ut3;obtain⟨c,rfl,_⟩:=h2.int ut3;obtain⟨d,rfl,_⟩:=h3.int ut3;subst hz;exact⟨⟨a,b,c,d⟩,by rw[e0,e1,e2,e3];rfl⟩
theorem qDp {B n:Nat}{row:List Cell}(h:ShT Tryz.prog B n 143 row):∃ x,row=inR x:=by obtain⟨m,x0,r0,e0,h0,x1,r1,e1,h1,x2,r2,e2,h2,x3,r3,e3,h3,hz⟩:=h.fields stIn;obtain⟨a,rfl,_⟩:=h0.int ut3;obtain⟨b,rfl,_⟩:=h1.int ut3;obtain⟨c,rfl,_⟩:=h2.int ut3;obtain⟨d,rfl,_⟩:=h3.int ut3;subst hz;exact⟨⟨a,b,c,d⟩,by rw[e0,e1,e2,e3];rfl⟩
theorem qEc {B n:Nat}{row:List Cell}(h:ShT Tryz.prog B n 31 row):∃ x:Vl,row=vlR x/\0<=x.bits/\x.bits<18446744073709551616:=by obtain⟨m,x0,r0,e0,h0,x1,r1,e1,h1,hz⟩:=h.fields stVl;obtain⟨a,rfl,_⟩:=h0.int ut3;obtain⟨b,rfl,hb⟩:=h1.int utU;subst hz;exact⟨⟨a,b⟩,by rw[e0,e1];rfl,by show 0<=b;have h1:IntKind.u64.min=0:=rfl;have h2:IntKind.u64.max=18446744073709551615:=rfl;omega,by show b<18446744073709551616;have h1:IntKind.u64.min=0:=rfl;have h2:IntKind.u64.max=18446744073709551615:=rfl;omega⟩
theorem qBa {B n:Nat}:∀ (rows:Rs),(∀ row∈rows,ShT Tryz.prog B n 31 row)->∃ l:List Vl,rows=l.map vlR/\∀ v∈l,0<=v.bits/\v.bits<18446744073709551616
 |[],_=>⟨[],rfl,fun v h=>(by cases h)⟩
 |row::rows,h=>by
  obtain⟨x,rfl,hx⟩:=qEc (h row au);obtain⟨l,rfl,hl⟩:=qBa rows fun r hr=>h r (aB _ hr);refine⟨x::l,rfl,fun v hv=>?_⟩;rcases List.mem_cons.1 hv with rfl|hv
  . exact hx
  . exact hl v hv
theorem qzQ {B n:Nat}{l:List Cell}(h:ShT Tryz.prog B n 26 l):∃ c:quY,l=[ic c.regs,ic c.slots,.imm c.Ir,.imm c.Cr,.imm c.Lr]/\(∀ v∈c.C,0<=v.bits/\v.bits<18446744073709551616)/\c.I.length<=B/\c.C.length<=B/\c.L.length<=B:=by obtain⟨m,x0,r0,e0,h0,x1,r1,e1,h1,x2,r2,e2,h2,x3,r3,e3,h3,x4,r4,e4,h4,hz⟩:=h.fields st26;obtain⟨regs,rfl,_⟩:=h0.int ut3;obtain⟨slots,rfl,_⟩:=h1.int ut3;obtain⟨_,li,rfl,hbi,hri⟩:=h2.slice ut22;obtain⟨_,lc,rfl,hbc,hrc⟩:=h3.slice ut23;obtain⟨_,lr,rfl,hb,hrows⟩:=h4.slice ut24;obtain⟨I,rfl⟩:=qx0 fun row hrow=>qDp (hri row hrow);obtain⟨C,rfl,hC⟩:=qBa _ hrc;obtain⟨L,rfl⟩:=qx0 fun row hrow=>qCl (hrows row hrow);subst hz;rw[List.length_map]at hb hbi hbc;exact⟨⟨regs,slots,I,C,L⟩,by rw[e0,e1,e2,e3,e4];rfl,hC,hbi,hbc,hb⟩
theorem st61:qfd Tryz.prog 61=some [56,59]:=by kernel_rfl
theorem st59:qfd Tryz.prog 59=some [57,3]:=by kernel_rfl
theorem stEv:qfd Tryz.prog 134=some [3,2,132]:=by kernel_rfl
theorem st64:qfd Tryz.prog 64=some [3,29]:=by kernel_rfl
theorem ut2:Tryz.prog.underlying 2=some (.int .i64):=by kernel_rfl
theorem ut56:Tryz.prog.underlying 56=some (.slice 134):=by kernel_rfl
theorem qGi:Tryz.prog.underlying 132=some (.slice 64):=by kernel_rfl
theorem ut57:Tryz.prog.underlying 57=some (.slice 42):=by kernel_rfl
theorem ut42:Tryz.prog.underlying 42=some (.slice 3):=by kernel_rfl
theorem qES {α:Type}{f:α->List Cell}{P:α->Prop}:∀ {rows:Rs},(∀ row∈rows,∃ x,row=f x/\P x)->∃ l:List α,rows=l.map f/\∀ v∈l,P v
 |[],_=>⟨[],rfl,fun v h=>(by cases h)⟩
 |row::rows,h=>by
  obtain⟨x,rfl,hx⟩:=h row au;obtain⟨l,rfl,hl⟩:=qES fun r hr=>h r (aB _ hr);refine⟨x::l,rfl,fun v hv=>?_⟩;rcases List.mem_cons.1 hv with rfl|hv
  . exact hx
  . exact hl v hv
theorem qFY {B n:Nat}{row:List Cell}(h:ShT Tryz.prog B n 64 row):∃ x:Vl,row=vlR x/\U64 x.bits:=by obtain⟨m,x0,r0,e0,h0,x1,r1,e1,h1,hz⟩:=h.fields st64;obtain⟨a,rfl,_⟩:=h0.int ut3;obtain⟨b,rfl,hb⟩:=h1.int utU;subst hz;exact⟨⟨a,b⟩,by rw[e0,e1];rfl,by show 0<=b;have h1:IntKind.u64.min=0:=rfl;omega,by show b<18446744073709551616;have h2:IntKind.u64.max=18446744073709551615:=rfl;omega⟩
theorem qF1 {B n:Nat}{row:List Cell}(h:ShT Tryz.prog B n 134 row):∃ x:Ev4,row=qEO x/\x.attrs.length<=B/\∀ v∈x.attrs,U64 v.bits:=by obtain⟨m,x0,r0,e0,h0,x1,r1,e1,h1,x2,r2,e2,h2,hz⟩:=h.fields stEv;obtain⟨a,rfl,_⟩:=h0.int ut3;obtain⟨b,rfl,_⟩:=h1.int ut2;obtain⟨_,l,rfl,hb,hr⟩:=h2.slice qGi;obtain⟨L,rfl,hL⟩:=qES fun row hrow=>qFY (hr row hrow);subst hz;exact⟨⟨a,b,L⟩,by rw[e0,e1,e2];rfl,by simpa using hb,hL⟩
theorem qFT {B n:Nat}{row:List Cell}(h:ShT Tryz.prog B n 42 row):∃ x:List Int,row=qFe x/\x.length<=B:=by
 obtain⟨_,l,rfl,hb,hr⟩:=h.slice ut42;obtain⟨L,rfl⟩:=qx0 (f:=oneR) fun row hrow=>by obtain⟨a,rfl,_⟩:=(hr row hrow).int ut3;exact⟨a,rfl⟩
 exact⟨L,rfl,by simpa using hb⟩
theorem qFk {B n:Nat}(hB:B<=1048576){l:List Cell}(h:ShT Tryz.prog B n 61 l):∃ k:qEA,l=[.imm k.Er,.imm k.Br,ic k.cur]/\LkOk k:=by obtain⟨m,x0,r0,e0,h0,x1,r1,e1,h1,hz⟩:=h.fields st61;obtain⟨_,le,rfl,hbe,hre⟩:=h0.slice ut56;obtain⟨m2,y0,s0,f0,g0,y1,s1,f1,g1,hz2⟩:=h1.fields st59;obtain⟨_,lb,rfl,hbb,hrb⟩:=g0.slice ut57;obtain⟨cur,rfl,_⟩:=g1.int ut3;obtain⟨E,rfl,hE⟩:=qES fun row hrow=>qF1 (hre row hrow);obtain⟨Q,rfl,hQ⟩:=qES fun row hrow=>qFT (hrb row hrow);subst hz hz2;rw[List.length_map]at hbe;exact⟨⟨E,Q,cur⟩,by rw[e0,e1,f0,f1];rfl,⟨⟨by show E.length<_;omega,fun e he=>⟨by have:=(hE e he).1;omega,(hE e he).2⟩⟩,fun l hl=>by have:=hQ l hl;omega⟩⟩
theorem qFM (ls:List (List Cell))(h:qiH Tryz.prog 1048576 Tryz.f5.params.toList ls):Ev Tryz.prog noHand 5 (vJ Tryz.prog Tryz.f5.params.toList ls) [] (.ret (.c (bc true))) []:=by
 have hp:Tryz.f5.params.toList=[26,61]:=by kernel_rfl
 rw[hp]at h |-
 match ls,h with
 |[l,l2],⟨⟨n,hl⟩,⟨n2,hl2⟩,_⟩=>
  obtain⟨c,rfl,hC,h1,h2,h3⟩:=qzQ hl;obtain⟨k,rfl,hk⟩:=qFk (Nat.le_refl _) hl2;obtain⟨N,hN⟩:=qF7 (c:=c) hk (by omega) hC (by omega) (by omega);have:=ev5 (hN N (Nat.le_refl _));have e:vJ Tryz.prog [26,61] [[ic c.regs,ic c.slots,.imm c.Ir,.imm c.Cr,.imm c.Lr],[.imm k.Er,.imm k.Br,ic k.cur]]=[.ag [ic c.regs,ic c.slots,.imm c.Ir,.imm c.Cr,.imm c.Lr],.ag [.imm k.Er,.imm k.Br,ic k.cur]]:=by kernel_rfl
  rw[e];exact this
set_option maxRecDepth 100000 in
theorem tells_lifted (os:Os)(started:os.Started)(H:Type)(enc:TypeId×Value->H)(F:Stop.Interp):
  ReturnsInHanded {} Tryz.checked os 5 .any ((Rows.OpenSpec.upto Rows.proveTellsSpec).pre6 enc Tryz.prog Tryz.f5 Rows.proveTellsUptoRow.domain false) (((Rows.OpenSpec.upto Rows.proveTellsSpec).at F).post enc Tryz.prog Tryz.f5 false true false false):=by
 refine returnsInHanded_of_cond (C:=Tryz.checked) (s:=Rows.OpenSpec.upto Rows.proveTellsSpec) (k:=Rows.uptoSmall) rfl own started (by kernel_rfl) Tryz.func5
  (OpenSpec.witness (enc:=enc) (C:=Tryz.checked) (s:=Rows.OpenSpec.upto Rows.proveTellsSpec) (k:=Rows.uptoSmall) rfl false ⟨#[],#[.agg #[.int .i64 0,.int .i64 0,.slice none 0 0,.slice none 0 0,.slice none 0 0],.agg #[.slice none 0 0,.slice none 0 0,.int .i64 0]],[]⟩ 8 (by kernel_rfl) (by kernel_rfl) (by kernel_rfl)
   (x:=([.agg [.lit (.int .i64 0),.lit (.int .i64 0),.nil,.nil,.nil],.agg [.nil,.agg [.nil,.lit (.int .i64 0)]]],[],[])) (by kernel_rfl) rfl (by kernel_rfl)) ?_
 intro W base args ds gs before hval hW _ hk _;have hb:Rows.uptoBulkAll (ds++gs)<=1048576:=of_decide_eq_true hk;exact qjt (hand:=noHand) (T:=qz0) (B:=1048576) (s:=Rows.proveTellsSpec) (by kernel_rfl) (by kernel_rfl) (by kernel_rfl) (by kernel_rfl) (by kernel_rfl) rfl
  (fun ds hd=>by
   match ds,hd with
   |[d,e],_=>rfl
   |[],hd=>cases hd
   |[_],hd=>simp at hd
   |_::_::_::_,hd=>simp at hd)
  ⟨4,by kernel_rfl,ut4⟩ hval hW hb (fun b hb=>absurd hb (Nat.not_lt_zero b)) (fun ls h1 _=>qFM ls h1)
end Ab
theorem fIn:(Rows.proveTellsUptoRow.inPlace==Tryz.pinned.checked.prog.inPlace 5)=true:=by kernel_rfl
theorem fUn:(Rows.proveTellsUptoRow.unfollowed==Tryz.pinned.checked.prog.unfollowed 5)=true:=by kernel_rfl
theorem fRec:(Rows.proveTellsUptoRow.recurses==Tryz.pinned.checked.prog.recurses 5)=true:=by kernel_rfl
theorem fNm:(Rows.proveTellsUptoRow.named==Tryz.pinned.checked.prog.varsNamed 5)=true:=by kernel_rfl
theorem qF2:joinedFacts Tryz.pinned.checked.prog 5 Tryz.f5 (Rows.OpenSpec.upto Rows.proveTellsSpec).bare Rows.proveTellsUptoRow=true:=by unfold joinedFacts;rw[fIn,fUn,fRec,fNm];kernel_rfl
theorem proveTells_holds:Rows.ProveTellsUptoSaid:=
 OpenClaim.holds_of_cond 5 Tryz.f5 rfl rfl rfl rfl rfl rfl rfl ⟨rfl,rfl,rfl,rfl,rfl⟩ rfl rfl rfl rfl rfl (by kernel_rfl) Tryz.func5 qF2
  (of_decide_eq_true (by kernel_rfl)) (by unfold Func.isWrapper;first|(rw[if_pos (by decide +kernel)];kernel_rfl)|(rw[if_neg (by decide +kernel)];exact⟨rfl,rfl⟩))
  (fun os started H enc _ F=>Ab.tells_lifted os started H enc F)
end Go.Proofs.YtjnefcbeemkkeaaGreat
