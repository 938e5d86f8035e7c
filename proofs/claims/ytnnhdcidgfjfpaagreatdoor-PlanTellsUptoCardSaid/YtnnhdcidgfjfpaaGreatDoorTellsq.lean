/-
  Whatever schema and texts are handed in (of bulk at most 1048576), PlanTells returns true, and they read as they did: whether two plans are the same, the program's and the document's alike; a plan is its twin.
  Conditions: the row's own alone (the bound on the arguments' bulk; the variables that the card ties to the program's text).
-/
import Derived.Test.YtnnhdcidgfjfpaaGreatDoorV30q
import Derived.Test.YtnnhdcidgfjfpaaGreatDoorTie
import Derived.Test.YtnnhdcidgfjfpaaGreatDoorCards
import Derived.LaidMore
import Derived.LaidLaws
import Derived.LaidHandle
import Derived.Stop.LaidErr
import Derived.MakeChecks
import Derived.SevenTiedAt
set_option linter.all false
namespace Go.Proofs.YtnnhdcidgfjfpaaGreatDoor
namespace Ab
open Go.ChangeShapes Go.WideShapes Go.ChangeAt Go.RowKit
instance noG:Glob:=⟨0,λ_=>none⟩
theorem own:ownKnob Tryz.prog.godebug=none:=by kernel_rfl
noncomputable def qeC:List (String×DataW Unit):=[("math/bits.deBruijn32tab", Rows.laid_math_bits_deBruijn32tab),("math/bits.deBruijn64tab", Rows.laid_math_bits_deBruijn64tab),("internal/strconv.uint64pow10", Rows.laid_internal_strconv_uint64pow10)]
def qGx:List TypeId:=[25,22,102,9,100,107,3,23,70,4]
theorem st25:qfd Tryz.prog 25=some [22,23]:=by kernel_rfl
theorem stTy:qfd Tryz.prog 102=some [9,100]:=by kernel_rfl
theorem stFi:qfd Tryz.prog 107=some [9,3]:=by kernel_rfl
theorem ut3:Tryz.prog.underlying 3=some (.int .i64):=by kernel_rfl
theorem ut4:Tryz.prog.underlying 4=some .bool:=by kernel_rfl
theorem ut9:Tryz.prog.underlying 9=some .string:=by kernel_rfl
theorem ut22:Tryz.prog.underlying 22=some (.slice 102):=by kernel_rfl
theorem ut23:Tryz.prog.underlying 23=some (.slice 9):=by kernel_rfl
theorem ut70:Tryz.prog.underlying 70=some (.array 2 9):=by kernel_rfl
theorem qGD:Tryz.prog.underlying 100=some (.slice 107):=by kernel_rfl
theorem qGB {B n:Nat}{row:List Cell}(h:ShT Tryz.prog B n 107 row):∃ (s:By) (k:Int),row=[sc s,ic k]:=by obtain⟨m,f,g,a,b,i,j,c,d,e⟩:=h.fields stFi;obtain⟨s,rfl,_⟩:=b.string ut9;obtain⟨k,rfl,_⟩:=d.int ut3;subst e;exact⟨s,k,by rw[a,c];rfl⟩
theorem qGC {B n:Nat}(i:B<=1048576){row:List Cell}(h:ShT Tryz.prog B n 102 row):∃ (s:By) (F:Rs),row=[sc s,.imm F]/\AllF F/\F.length<=big:=by obtain⟨m,j,k,b,c,l,o,d,e,f⟩:=h.fields stTy;obtain⟨s,rfl,_⟩:=c.string ut9;obtain⟨_,F,rfl,p,g⟩:=e.slice qGD;subst f;exact⟨s,F,by rw[b,d];rfl,λrow a=>qGB (g row a),by unfold big;omega⟩
theorem qGA {B n:Nat}(c:B<=1048576){l:List Cell}(h:ShT Tryz.prog B n 25 l):∃ A S:Rs,l=[.imm A,.imm S]/\SC A S:=by obtain⟨m,o,p,d,e,q,r,f,g,i⟩:=h.fields st25;obtain⟨_,A,rfl,t,j⟩:=e.slice ut22;obtain⟨_,S,rfl,k,b⟩:=g.slice ut23;subst i;exact⟨A,S,by rw[d,f];rfl,λrow a=>qGC c (j row a),by unfold big;omega,λrow a=>by obtain⟨s,rfl,_⟩:=(b row a).string ut9;exact⟨s,rfl⟩,by unfold big;omega⟩
theorem qGz {B n:Nat}{l:List Cell}(h:ShT Tryz.prog B n 70 l):∃ c d:By,l=[sc c,sc d]:=by
 obtain⟨m,ls,rfl,b,a⟩:=h.array ut70
 match ls,b with
 |[x,y],_=>obtain⟨s,rfl,_⟩:=(a x (by simp)).string ut9;obtain⟨t,rfl,_⟩:=(a y (by simp)).string ut9;exact⟨s,t,rfl⟩
theorem qmU (ls:List (List Cell))(h:qiH Tryz.prog 1048576 Tryz.f7.params.toList ls):Ev Tryz.prog noHand 7 (vJ Tryz.prog Tryz.f7.params.toList ls) [] (.ret (.c (bc true))) []:=by
 have b:Tryz.f7.params.toList=[25,70]:=by kernel_rfl
 rw[b]at h |-
 match ls,h with
 |[l,k],⟨⟨n,f⟩,⟨m,a⟩,_⟩=>
  obtain⟨A,S,rfl,g⟩:=qGA (Nat.le_refl _) f;obtain⟨c,d,rfl⟩:=qGz a;obtain⟨r,i,N,j⟩:=vv (c:=c) (d:=d) g;subst i;have:=ev7 (j N (Nat.le_refl _));have e:vJ Tryz.prog [25,70] [[.imm A,.imm S],[sc c,sc d]]=[.ag [.imm A,.imm S],.ag [sc c,sc d]]:=by kernel_rfl
  rw[e];exact this
theorem QC {H:Type}{enc:TypeId×Value->H}{a:Assume}{C:Checked}{os:Os}{f:FuncId}{o:Func}{s:OpenSpec}{k:(H:Type)->List (DataW H)->Bool}(I:s.cond=some k){F:Stop.Interp}{d:List PathCond}{apart h c l:Bool}{laid:List (String×DataW Unit)}(own:ownKnob C.prog.godebug=none)(m:os.Started)(p:C.prog.inits.idxOf? f=none)(y:C.prog.funcs[f]? = some o)(n:∃ (w:World) (b:Tape) (i:Input),w.os=os/\(w.forCall b i).Shaped C.prog/\i.vars=[]/\Input.okWide C.prog (w.forCall b i) .any w.heap.size f i /\
   ((s.pre enc C.prog o d apart (w.forCall b i).memory i.args/\laidMetH C.prog laid (w.forCall b i).memory)/\sizedMet enc C.prog o s apart (w.forCall b i).memory i.args)/\a.holds C.prog (lone (Frame.enter C.prog f i.args .normal) [] (w.forCall b i)))(g:∀ (W:World) (base:Nat) (args:Array Value) (ds gs:List (DataW H)) (before:List MemPlace),
   (∀ (j:Nat) t v,o.params[j]? = some t->args[j]? = some v->Value.okWide C.prog W .any base t v) ->
   DataW.Whole enc C.prog o.params.toList s.vars apart W args.toList ds gs before->k H (ds++gs)=true->laidMetH C.prog laid W ->
   Calls C.prog f args W λe G=>∃ v,e=.returned v/\(s.at F).post enc C.prog o apart h c l W args v G):
  ReturnsInHanded a C os f .any (λw args=>(s.pre enc C.prog o d apart w args/\laidMetH C.prog laid w)/\sizedMet enc C.prog o s apart w args) ((s.at F).post enc C.prog o apart h c l):=by
 refine returnsInHanded_of_calls own m p n ?_;intro w b i _ _ _ z q x;obtain⟨_,_,_,A,r,_,_,_,_,u⟩:=z;have e:A=o:=aQ (r.symm.trans y);subst e;obtain⟨⟨B,J⟩,_⟩:=q;obtain⟨ds,gs,before,K,M,D⟩:=(OpenSpec.pre_some I d apart _ _).1 B;have E:=DataW.Whole.of_heap (w':=w.forCall b i) (by rfl) K;refine(g (w.forCall b i) w.heap.size i.args ds gs before u E D (J.of_heap (by rfl))).mono λe G ⟨v,L,B⟩=>?_;subst L;exact ChangeSpec.post_blind B
theorem Qv {H:Type}{enc:TypeId×Value->H}{C:Checked}{os:Os}{f:FuncId}{d:Func}{s:OpenSpec}{k:(H:Type)->List (DataW H)->Bool}(m:s.cond=some k){b:List PathCond}{apart:Bool}{laid:List (String×DataW Unit)}(w0:World)(args:Array Value)(fuel:Nat)(g:w0.os=os)(h:(w0.forCall (λ_ _=>0) ⟨#[],args,[]⟩).Shaped C.prog)(e:Input.okWideB C.prog (w0.forCall (λ_ _=>0) ⟨#[],args,[]⟩) f ⟨#[],args,[]⟩=true){x:List (DataW H)×List (DataW H)×List MemPlace}(n:DataW.whole enc C.prog (w0.forCall (λ_ _=>0) ⟨#[],args,[]⟩).memory d.params.toList s.vars apart args.toList fuel=some x)(c:b.all (PathCond.test C.prog ⟨d.params.toList,x.1,s.bare.plain.varTypes C.prog,x.2.1⟩)=true)(j:k H (x.1++x.2.1)=true)(l:s.bare.sizedB enc C.prog d apart (w0.forCall (λ_ _=>0) ⟨#[],args,[]⟩).memory args fuel=true)(o:laidMetH C.prog laid (w0.forCall (λ_ _=>0) ⟨#[],args,[]⟩).memory):
  ∃ (w:World) (a:Tape) (i:Input),w.os=os/\(w.forCall a i).Shaped C.prog/\i.vars=[]/\Input.okWide C.prog (w.forCall a i) .any w.heap.size f i /\
   ((s.pre enc C.prog d b apart (w.forCall a i).memory i.args/\laidMetH C.prog laid (w.forCall a i).memory)/\sizedMet enc C.prog d s apart (w.forCall a i).memory i.args)/\({}:Assume).holds C.prog (lone (Frame.enter C.prog f i.args .normal) [] (w.forCall a i)):=
 ⟨w0,λ_ _=>0,⟨#[],args,[]⟩,g,h,(Input.okWide_of_okWideB (base:=0) e).1,(Input.okWide_of_okWideB e).2,
  ⟨⟨(OpenSpec.pre_some m b apart _ _).2 ⟨x.1,x.2.1,x.2.2,DataW.Whole_of_whole n,c,j⟩,o⟩,sizedMet_of_sizedB l⟩,by
  simp only[Assume.holds];exact⟨by simp,by simp,λ_=>Modest.zero,by simp,by simp⟩⟩
theorem qju (os:Os)(args:Array Value):laidMetH Tryz.prog qeC ((World.doorLaid Tryz.prog 400 os).forCall (λ_ _=>0) ⟨#[],args,[]⟩).memory:=laidMetH_of_parts3 (fuel:=8) (laidMet_of_run' 8 (by kernel_rfl) (by kernel_rfl)) (by kernel_rfl) (by kernel_rfl)
set_option maxRecDepth 100000 in
theorem qgJ (os:Os)(a:os.Started)(H:Type)(enc:TypeId×Value->H)(F:Stop.Interp):
  ReturnsInHanded {} Tryz.checked os 7 .any (Rows.planTellsUptoRow.pre enc Tryz.prog Tryz.f7 (Rows.OpenSpec.upto Rows.planTellsSpec)) (((Rows.OpenSpec.upto Rows.planTellsSpec).at F).post enc Tryz.prog Tryz.f7 false true false false):=by
 refine QC (C:=Tryz.checked) (s:=Rows.OpenSpec.upto Rows.planTellsSpec) (k:=Rows.uptoSmall) (laid:=qeC) rfl own a (by kernel_rfl) Tryz.func7
  (Qv (enc:=enc) (C:=Tryz.checked) (s:=Rows.OpenSpec.upto Rows.planTellsSpec) (k:=Rows.uptoSmall) rfl (World.doorLaid Tryz.prog 400 os) #[.agg #[.slice none 0 0,.slice none 0 0],.agg #[.string ⟨#[]⟩,.string ⟨#[]⟩]] 8 rfl (World.shaped_of_RefB (by kernel_rfl) (by kernel_rfl)) (by kernel_rfl)
   (x:=([.agg [.nil,.nil],.agg [.lit (.string []),.lit (.string [])]],[],[])) (by kernel_rfl) rfl (by kernel_rfl) (by kernel_rfl) (qju os _)) ?_
 intro W base args ds gs before c f g i;have e:Rows.uptoBulkAll (ds++gs)<=1048576:=of_decide_eq_true g;exact qjt (hand:=noHand) (T:=qGx) (B:=1048576) (s:=Rows.planTellsSpec) (by kernel_rfl) (by kernel_rfl) (by kernel_rfl) (by kernel_rfl) (by kernel_rfl) rfl
  (λds hd=>by
   match ds,hd with
   |[d,j],_=>rfl
   |[],hd=>cases hd
   |[_],hd=>simp at hd
   |_::_::_::_,hd=>simp at hd)
  ⟨4,by kernel_rfl,ut4⟩ c f e (λb e=>absurd e (Nat.not_lt_zero b)) (λls h l=>qmU ls h)
theorem law_row:Rows.PlanTellsUptoSaid:=
 OpenClaim.holds_of_cond 7 Tryz.f7 rfl rfl rfl rfl rfl rfl rfl ⟨rfl,rfl,rfl,rfl,rfl⟩ rfl rfl rfl rfl rfl (by kernel_rfl) Tryz.func7 (by kernel_rfl)
  (of_decide_eq_true (by kernel_rfl)) (by unfold Func.isWrapper;first|(rw[aD (by decide +kernel)];kernel_rfl)|(rw[aF (by decide +kernel)];exact⟨rfl,rfl⟩))
  (λos a H enc _ F=>qgJ os a H enc F)
end Ab
theorem planTells_holds:Rows.PlanTellsUptoCardSaid:=
 Claim7.holds_tied_plain_at .later [] [.data,.data,.data] true (true, "be7b114b92308d517cb47bba5e4f36e4b5b83473b1df23df048f570f1fe14625") true
  Ab.law_row (λ_ h=>by cases h) (by kernel_rfl) (λ_ h=>by cases h) planTellsUpto_row_tie rfl ⟨rfl,rfl⟩ (by kernel_rfl) rfl
  (λf d e b=>by
   obtain rfl:f=7:=Option.some.inj ((show Tryz.prog.funcNamed "auspice/auspicelaw08.PlanTells" = some 7 by kernel_rfl).symm.trans e) |>.symm
   obtain rfl:d=Tryz.f7:=(Option.some.inj (Tryz.func7.symm.trans b)).symm;exact⟨by kernel_rfl,λj t c=>by
    rw[Tryz.params7]at c;have g:t∈[25,70]:=by simpa using Array.mem_of_getElem? c
    have a:([25,70].all λu=>!Tryz.prog.wantsStandIn u)=true:=by kernel_rfl
    exact(show Tryz.prog.wantsStandIn t=false by simpa using List.all_eq_true.1 a t g)⟩)
  (by kernel_rfl)
end Go.Proofs.YtnnhdcidgfjfpaaGreatDoor
