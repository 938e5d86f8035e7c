/-
  What the cards of this seat have in common: the listed variables as the walks ask for them; a row with a bound on its arguments and listed variables, from its parts. No claim stands here.
-/
import Derived.Test.YtgfbbmjoflehlaaGreatDoorSfq
import Derived.Test.YtgfbbmjoflehlaaGreatDoorTie
import Derived.Test.YtgfbbmjoflehlaaGreatDoorCards
import Derived.LaidMore
import Derived.LaidLaws
import Derived.LaidHandle
import Derived.Lib.LaidTab
import Derived.Stop.LaidErr
import Derived.JoinedCond
import Derived.MakeChecks
set_option linter.all false
namespace Go.Proofs.YtgfbbmjoflehlaaGreatDoor
namespace Ab
open Go.ChangeShapes Go.WideShapes Go.ChangeAt Go.RowKit
theorem own:ownKnob Tryz.prog.godebug=none:=by kernel_rfl
noncomputable def qeC:List (String×DataW Unit):=[("math/bits.deBruijn32tab", Rows.laid_math_bits_deBruijn32tab),("math/bits.deBruijn64tab", Rows.laid_math_bits_deBruijn64tab),("internal/strconv.uint64pow10", Rows.laid_internal_strconv_uint64pow10),("strconv.ErrRange", Rows.laid_strconv_ErrRange),("strconv.ErrSyntax", Rows.laid_strconv_ErrSyntax),("unicode.White_Space", Rows.laid_unicode_White_Space),("strings.asciiSpace", Rows.laid_strings_asciiSpace)]
theorem star: "*" ++ "errors.errorString" = "*errors.errorString":=by decide
theorem qBM (u:TypeId)(h:Tryz.prog.typeName? 3 u=some "*errors.errorString"):u=180:=typeName_ptr_named (nm:="errors.errorString") (by rw[star];kernel_rfl) (by kernel_rfl) (by decide) u (by rw[star];exact h)
theorem YA {W:World}(h:laidMet Tryz.prog qeC W):Lib.TabIs Tryz.prog W "internal/strconv.uint64pow10" .u64 Lib.pow10Tab /\
  (∃ tp p,W.var? Tryz.prog "strconv.ErrSyntax" = some #[.iface tp p])/\(∃ tp p,W.var? Tryz.prog "strconv.ErrRange" = some #[.iface tp p])/\Lib.TabIs Tryz.prog W "strings.asciiSpace" .u8 Lib.asciiSpaceTab:=by
 have h3:laidMet Tryz.prog [("internal/strconv.uint64pow10", Rows.laid_internal_strconv_uint64pow10),("strconv.ErrRange", Rows.laid_strconv_ErrRange),("strconv.ErrSyntax", Rows.laid_strconv_ErrSyntax),("unicode.White_Space", Rows.laid_unicode_White_Space),("strings.asciiSpace", Rows.laid_strings_asciiSpace)] W:=laidMet.tail (laidMet.tail h)
 have h4:=laidMet.tail h3;have h5:=laidMet.tail h4;have h7:=laidMet.tail (laidMet.tail h5);refine⟨?_,?_,?_,?_⟩
 . have e:(Rows.laid_internal_strconv_uint64pow10:DataW Unit)=Lib.tabData .u64 Lib.pow10Tab:=by kernel_rfl
   rw[e]at h3;exact Lib.tabIs_of_head (g:=0) (t:=149) (e:=119) (n:=20) (by kernel_rfl) (by kernel_rfl) Tryz.underlying149 Tryz.underlying119 (by kernel_rfl) (by kernel_rfl) h3
 . obtain⟨a,s,hv,_⟩:=laid_sentinel (g:=4) (ti:=76) (tp:=180) (te:=182) (ts:=9) h5 (by kernel_rfl) (by kernel_rfl) Tryz.underlying76 qBM Tryz.underlying180 Tryz.underlying182 rfl rfl Tryz.underlying9 (by kernel_rfl) (by kernel_rfl);exact⟨_,_,hv⟩
 . obtain⟨a,s,hv,_⟩:=laid_sentinel (g:=5) (ti:=76) (tp:=180) (te:=182) (ts:=9) h4 (by kernel_rfl) (by kernel_rfl) Tryz.underlying76 qBM Tryz.underlying180 Tryz.underlying182 rfl rfl Tryz.underlying9 (by kernel_rfl) (by kernel_rfl);exact⟨_,_,hv⟩
 . have e:(Rows.laid_strings_asciiSpace:DataW Unit)=Lib.tabData .u8 Lib.asciiSpaceTab:=by kernel_rfl
   rw[e]at h7;exact Lib.tabIs_of_head (g:=6) (t:=184) (e:=5) (n:=256) (by kernel_rfl) (by kernel_rfl) Tryz.underlying184 Tryz.underlying5 (by kernel_rfl) (by kernel_rfl) h7
theorem xR {W w:World}(h:∀ b,b<W.heap.size->w.heap[b]? = W.heap[b]?){n:String}{cs:Array Value}(hv:W.var? Tryz.prog n=some cs):w.var? Tryz.prog n=some cs:=by
 unfold World.var? at hv |-;cases hg:Tryz.prog.globalNamed n with
 |none=>simp[hg]at hv
 |some g=>
  simp only[hg,ae]at hv |-;have hlt:g<W.heap.size:=by
   rcases Nat.lt_or_ge g W.heap.size with h'|h'
   . exact h'
   . simp[Array.getElem?_eq_none h']at hv
  rw[h g hlt];exact hv
abbrev qiK {W:World}(h:laidMet Tryz.prog qeC W):vo where
 n:=W.heap.size
 H:=fun b=>W.heap[b]?
 tab w hw:=xR hw (YA h).1
 syn w hw:=let ⟨tp,p,hv⟩:=(YA h).2.1;⟨tp,p,xR hw hv⟩
 rng w hw:=let ⟨tp,p,hv⟩:=(YA h).2.2.1;⟨tp,p,xR hw hv⟩
 spc w hw:=xR hw (YA h).2.2.2
theorem qef {W:World}(h:laidMet Tryz.prog qeC W):∀ b,b<(qiK h).n->b<W.heap.size/\W.heap[b]? = (qiK h).H b:=fun b hb=>⟨hb,rfl⟩
theorem QC {H:Type}{enc:TypeId×Value->H}{a:Assume}{C:Checked}{os:Os}{f:FuncId}{fn:Func}{s:OpenSpec}{k:(H:Type)->List (DataW H)->Bool}(hk:s.cond=some k){F:Stop.Interp}{conds:List PathCond}{apart fresh handsOn again:Bool}{laid:List (String×DataW Unit)}(own:ownKnob C.prog.godebug=none)(started:os.Started)(noInit:C.prog.inits.idxOf? f=none)(hfn:C.prog.funcs[f]? = some fn)(witness:∃ (w:World) (tape:Tape) (i:Input),w.os=os/\(w.forCall tape i).Shaped C.prog/\i.vars=[]/\Input.okWide C.prog (w.forCall tape i) .any w.heap.size f i /\
   ((s.pre enc C.prog fn conds apart (w.forCall tape i).memory i.args/\laidMetH C.prog laid (w.forCall tape i).memory)/\sizedMet enc C.prog fn s apart (w.forCall tape i).memory i.args)/\a.holds C.prog (lone (Frame.enter C.prog f i.args .normal) [] (w.forCall tape i)))(contract:∀ (W:World) (base:Nat) (args:Array Value) (ds gs:List (DataW H)) (before:List MemPlace),
   (∀ (j:Nat) t v,fn.params[j]? = some t->args[j]? = some v->Value.okWide C.prog W .any base t v) ->
   DataW.Whole enc C.prog fn.params.toList s.vars apart W args.toList ds gs before->k H (ds++gs)=true->laidMetH C.prog laid W ->
   Calls C.prog f args W fun e W'=>∃ v,e=.returned v/\(s.at F).post enc C.prog fn apart fresh handsOn again W args v W'):
  ReturnsInHanded a C os f .any (fun w args=>(s.pre enc C.prog fn conds apart w args/\laidMetH C.prog laid w)/\sizedMet enc C.prog fn s apart w args) ((s.at F).post enc C.prog fn apart fresh handsOn again):=by
 refine returnsInHanded_of_calls own started noInit witness ?_;intro w tape i _ _ _ hok hpre hholds;obtain⟨_,_,_,fn',hfn',_,_,_,_,hval⟩:=hok;have e:fn'=fn:=aR (hfn'.symm.trans hfn);subst e;obtain⟨⟨hp,hl⟩,_⟩:=hpre;obtain⟨ds,gs,before,hw,hc,hkk⟩:=(OpenSpec.pre_some hk conds apart _ _).1 hp;have hw':=DataW.Whole.of_heap (w':=w.forCall tape i) (by rfl) hw;refine(contract (w.forCall tape i) w.heap.size i.args ds gs before hval hw' hkk (hl.of_heap (by rfl))).mono fun e W' ⟨v,he,hp⟩=>?_;subst he;exact ChangeSpec.post_blind hp
theorem Qv {H:Type}{enc:TypeId×Value->H}{C:Checked}{os:Os}{f:FuncId}{fn:Func}{s:OpenSpec}{k:(H:Type)->List (DataW H)->Bool}(hk:s.cond=some k){conds:List PathCond}{apart:Bool}{laid:List (String×DataW Unit)}(w0:World)(args:Array Value)(fuel:Nat)(hos:w0.os=os)(hsh:(w0.forCall (fun _ _=>0) ⟨#[],args,[]⟩).Shaped C.prog)(hok:Input.okWideB C.prog (w0.forCall (fun _ _=>0) ⟨#[],args,[]⟩) f ⟨#[],args,[]⟩=true){x:List (DataW H)×List (DataW H)×List MemPlace}(hx:DataW.whole enc C.prog (w0.forCall (fun _ _=>0) ⟨#[],args,[]⟩).memory fn.params.toList s.vars apart args.toList fuel=some x)(hconds:conds.all (PathCond.test C.prog ⟨fn.params.toList,x.1,s.bare.plain.varTypes C.prog,x.2.1⟩)=true)(hkk:k H (x.1++x.2.1)=true)(hsz:s.bare.sizedB enc C.prog fn apart (w0.forCall (fun _ _=>0) ⟨#[],args,[]⟩).memory args fuel=true)(hl:laidMetH C.prog laid (w0.forCall (fun _ _=>0) ⟨#[],args,[]⟩).memory):
  ∃ (w:World) (tape:Tape) (i:Input),w.os=os/\(w.forCall tape i).Shaped C.prog/\i.vars=[]/\Input.okWide C.prog (w.forCall tape i) .any w.heap.size f i /\
   ((s.pre enc C.prog fn conds apart (w.forCall tape i).memory i.args/\laidMetH C.prog laid (w.forCall tape i).memory)/\sizedMet enc C.prog fn s apart (w.forCall tape i).memory i.args)/\({}:Assume).holds C.prog (lone (Frame.enter C.prog f i.args .normal) [] (w.forCall tape i)):=
 ⟨w0,fun _ _=>0,⟨#[],args,[]⟩,hos,hsh,(Input.okWide_of_okWideB (base:=0) hok).1,(Input.okWide_of_okWideB hok).2,
  ⟨⟨(OpenSpec.pre_some hk conds apart _ _).2 ⟨x.1,x.2.1,x.2.2,DataW.Whole_of_whole hx,hconds,hkk⟩,hl⟩,sizedMet_of_sizedB hsz⟩,by
  simp only[Assume.holds];exact⟨by simp,by simp,fun _=>Modest.zero,by simp,by simp⟩⟩
theorem qju (os:Os)(args:Array Value):laidMetH Tryz.prog qeC ((World.doorLaid Tryz.prog 400 os).forCall (fun _ _=>0) ⟨#[],args,[]⟩).memory:=laidMetH_of_parts3 (fuel:=8) (laidMet_of_run' 8 (by kernel_rfl) (by kernel_rfl)) (by kernel_rfl) (by kernel_rfl)
theorem qf1 {W:World}(h:laidMetH Tryz.prog qeC W):laidMet Tryz.prog qeC W:=by rwa [MakeChecks.laidMetH_plain _ _ _ (by kernel_rfl)]at h
end Ab
end Go.Proofs.YtgfbbmjoflehlaaGreatDoor
