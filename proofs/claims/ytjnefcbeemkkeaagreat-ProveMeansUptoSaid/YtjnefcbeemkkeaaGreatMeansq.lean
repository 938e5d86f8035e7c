/-
  Whatever code is handed in (of bulk at most 1048576), ProveMeans returns true, and the code reads as it did: what code tells, as a node, is the document's answer.
  Conditions: the row's own alone (the bound on the arguments' bulk).
-/
import Derived.Test.YtjnefcbeemkkeaaGreatW6q
set_option linter.all false
namespace Go.Proofs.YtjnefcbeemkkeaaGreat
namespace Ab
open Go.ChangeShapes Go.WideShapes Go.ChangeAt Go.RowKit
instance noG:Glob:=⟨0,fun _=>none⟩
theorem own:ownKnob Tryz.prog.godebug=none:=by kernel_rfl
def qz0:List TypeId:=[26,3,22,23,24,143,31,77,29,4]
theorem st26:qfd Tryz.prog 26=some [3,3,22,23,24]:=by kernel_rfl
theorem stIn:qfd Tryz.prog 143=some [3,3,3,3]:=by kernel_rfl
theorem stVl:qfd Tryz.prog 31=some [3,29]:=by kernel_rfl
theorem qEx:qfd Tryz.prog 77=some [3,3,3,3]:=by kernel_rfl
theorem utU:Tryz.prog.underlying 29=some (.int .u64):=by kernel_rfl
theorem ut22:Tryz.prog.underlying 22=some (.slice 143):=by kernel_rfl
theorem ut23:Tryz.prog.underlying 23=some (.slice 31):=by kernel_rfl
theorem ut24:Tryz.prog.underlying 24=some (.slice 77):=by kernel_rfl
theorem ut4:Tryz.prog.underlying 4=some .bool:=by kernel_rfl
theorem qCl {B n:Nat}{row:List Cell}(h:ShT Tryz.prog B n 77 row):∃ x,row=insR x:=by obtain⟨m,x0,r0,e0,h0,x1,r1,e1,h1,x2,r2,e2,h2,x3,r3,e3,h3,hz⟩:=h.fields qEx;obtain⟨a,rfl,_⟩:=h0.int ut3;obtain⟨b,rfl,_⟩:=h1.int ut3;obtain⟨c,rfl,_⟩:=h2.int ut3;obtain⟨d,rfl,_⟩:=h3.int ut3;subst hz;exact⟨⟨a,b,c,d⟩,by rw[e0,e1,e2,e3];rfl⟩
theorem qDp {B n:Nat}{row:List Cell}(h:ShT Tryz.prog B n 143 row):∃ x,row=inR x:=by obtain⟨m,x0,r0,e0,h0,x1,r1,e1,h1,x2,r2,e2,h2,x3,r3,e3,h3,hz⟩:=h.fields stIn;obtain⟨a,rfl,_⟩:=h0.int ut3;obtain⟨b,rfl,_⟩:=h1.int ut3;obtain⟨c,rfl,_⟩:=h2.int ut3;obtain⟨d,rfl,_⟩:=h3.int ut3;subst hz;exact⟨⟨a,b,c,d⟩,by rw[e0,e1,e2,e3];rfl⟩
theorem qEc {B n:Nat}{row:List Cell}(h:ShT Tryz.prog B n 31 row):∃ x:Vl,row=vlR x/\0<=x.bits/\x.bits<18446744073709551616:=by obtain⟨m,x0,r0,e0,h0,x1,r1,e1,h1,hz⟩:=h.fields stVl;obtain⟨a,rfl,_⟩:=h0.int ut3;obtain⟨b,rfl,hb⟩:=h1.int utU;subst hz;exact⟨⟨a,b⟩,by rw[e0,e1];rfl,by show 0<=b;have h1:IntKind.u64.min=0:=rfl;have h2:IntKind.u64.max=18446744073709551615:=rfl;omega,by show b<18446744073709551616;have h1:IntKind.u64.min=0:=rfl;have h2:IntKind.u64.max=18446744073709551615:=rfl;omega⟩
theorem qBa {B n:Nat}:∀ (rows:Rs),(∀ row∈rows,ShT Tryz.prog B n 31 row)->∃ l:List Vl,rows=l.map vlR/\∀ v∈l,0<=v.bits/\v.bits<18446744073709551616
 |[],_=>⟨[],rfl,fun v h=>(by cases h)⟩
 |row::rows,h=>by
  obtain⟨x,rfl,hx⟩:=qEc (h row au);obtain⟨l,rfl,hl⟩:=qBa rows fun r hr=>h r (aB _ hr);refine⟨x::l,rfl,fun v hv=>?_⟩;rcases List.mem_cons.1 hv with rfl|hv
  . exact hx
  . exact hl v hv
theorem qzQ {B n:Nat}{l:List Cell}(h:ShT Tryz.prog B n 26 l):∃ c:quY,l=[ic c.regs,ic c.slots,.imm c.Ir,.imm c.Cr,.imm c.Lr]/\(∀ v∈c.C,0<=v.bits/\v.bits<18446744073709551616)/\c.I.length<=B/\c.C.length<=B/\c.L.length<=B:=by obtain⟨m,x0,r0,e0,h0,x1,r1,e1,h1,x2,r2,e2,h2,x3,r3,e3,h3,x4,r4,e4,h4,hz⟩:=h.fields st26;obtain⟨regs,rfl,_⟩:=h0.int ut3;obtain⟨slots,rfl,_⟩:=h1.int ut3;obtain⟨_,li,rfl,hbi,hri⟩:=h2.slice ut22;obtain⟨_,lc,rfl,hbc,hrc⟩:=h3.slice ut23;obtain⟨_,lr,rfl,hb,hrows⟩:=h4.slice ut24;obtain⟨I,rfl⟩:=qx0 fun row hrow=>qDp (hri row hrow);obtain⟨C,rfl,hC⟩:=qBa _ hrc;obtain⟨L,rfl⟩:=qx0 fun row hrow=>qCl (hrows row hrow);subst hz;rw[List.length_map]at hb hbi hbc;exact⟨⟨regs,slots,I,C,L⟩,by rw[e0,e1,e2,e3,e4];rfl,hC,hbi,hbc,hb⟩
theorem qBu (ls:List (List Cell))(h:qiH Tryz.prog 1048576 Tryz.f3.params.toList ls):Ev Tryz.prog noHand 3 (vJ Tryz.prog Tryz.f3.params.toList ls) [] (.ret (.c (bc true))) []:=by
 have hp:Tryz.f3.params.toList=[26]:=by kernel_rfl
 rw[hp]at h |-
 match ls,h with
 |[l],⟨⟨n,hl⟩,_⟩=>
  obtain⟨c,rfl,hC,h1,h2,h3⟩:=qzQ hl;obtain⟨N,hN⟩:=qEj (c:=c) (by omega) hC (by omega) (by omega);have:=ev3 (hN N (Nat.le_refl _));have e:vJ Tryz.prog [26] [[ic c.regs,ic c.slots,.imm c.Ir,.imm c.Cr,.imm c.Lr]]=[.ag [ic c.regs,ic c.slots,.imm c.Ir,.imm c.Cr,.imm c.Lr]]:=by kernel_rfl
  rw[e];exact this
set_option maxRecDepth 100000 in
theorem means_lifted (os:Os)(started:os.Started)(H:Type)(enc:TypeId×Value->H)(F:Stop.Interp):
  ReturnsInHanded {} Tryz.checked os 3 .any ((Rows.OpenSpec.upto Rows.proveMeansSpec).pre6 enc Tryz.prog Tryz.f3 Rows.proveMeansUptoRow.domain false) (((Rows.OpenSpec.upto Rows.proveMeansSpec).at F).post enc Tryz.prog Tryz.f3 false true false false):=by
 refine returnsInHanded_of_cond (C:=Tryz.checked) (s:=Rows.OpenSpec.upto Rows.proveMeansSpec) (k:=Rows.uptoSmall) rfl own started (by kernel_rfl) Tryz.func3
  (OpenSpec.witness (enc:=enc) (C:=Tryz.checked) (s:=Rows.OpenSpec.upto Rows.proveMeansSpec) (k:=Rows.uptoSmall) rfl false ⟨#[],#[.agg #[.int .i64 0,.int .i64 0,.slice none 0 0,.slice none 0 0,.slice none 0 0]],[]⟩ 8 (by kernel_rfl) (by kernel_rfl) (by kernel_rfl)
   (x:=([.agg [.lit (.int .i64 0),.lit (.int .i64 0),.nil,.nil,.nil]],[],[])) (by kernel_rfl) rfl (by kernel_rfl)) ?_
 intro W base args ds gs before hval hW _ hk _;have hb:Rows.uptoBulkAll (ds++gs)<=1048576:=of_decide_eq_true hk;exact qjt (hand:=noHand) (T:=qz0) (B:=1048576) (s:=Rows.proveMeansSpec) (by kernel_rfl) (by kernel_rfl) (by kernel_rfl) (by kernel_rfl) (by kernel_rfl) rfl
  (fun ds hd=>by
   match ds,hd with
   |[d],_=>rfl
   |[],hd=>cases hd
   |_::_::_,hd=>simp at hd)
  ⟨4,by kernel_rfl,ut4⟩ hval hW hb (fun b hb=>absurd hb (Nat.not_lt_zero b)) (fun ls h1 _=>qBu ls h1)
end Ab
theorem proveMeans_holds:Rows.ProveMeansUptoSaid:=
 OpenClaim.holds_of_cond 3 Tryz.f3 rfl rfl rfl rfl rfl rfl rfl ⟨rfl,rfl,rfl,rfl,rfl⟩ rfl rfl rfl rfl rfl (by kernel_rfl) Tryz.func3 (by kernel_rfl)
  (of_decide_eq_true (by kernel_rfl)) (by unfold Func.isWrapper;first|(rw[if_pos (by decide +kernel)];kernel_rfl)|(rw[if_neg (by decide +kernel)];exact⟨rfl,rfl⟩))
  (fun os started H enc _ F=>Ab.means_lifted os started H enc F)
end Go.Proofs.YtjnefcbeemkkeaaGreat
