/-
  The interpreter is sound: operations that leave memory as it is; memory that is turned. No claim stands here.
-/
import Derived.Test.YtjnefcbeemkkeaaGreatEAq
import Derived.Lib.Builder
import Derived.Lib.UnsafeStr
import Derived.Deep.AppendSrc
import Derived.Room.Entries
set_option linter.all false
namespace Go.Proofs.YtjnefcbeemkkeaaGreat
namespace E
section
variable {P:Program} {μ:Mu} {dp nt:Nat} {F:T Value} {a:Act} {w:World} {m:M}
theorem qBm (hF:RF μ dp nt F a.tmps)(hG:Gl P μ){t x ix v}(e:(ixQ P t x ix dp).f F m=.val v):Does P μ w (Instr.indexAt t (a.eval x) (a.eval ix)) v:=by
 obtain⟨u,hu,hr⟩:=zf hF hG x;obtain⟨j,hj,hjr⟩:=zf hF hG ix;unfold ixQ at e;split at e
 .
  rename_i n el ht;simp only[bi_eq,ve]at e;split at e
  . cases e
  rename_i hok;have hok:okT P el=true:=by simpa using hok
  simp only[hu,hj,qu5]at e;split at e
  .
   rename_i ad;obtain⟨_,y,hy,hV⟩:=hr.ptrI;obtain⟨k,i,hji,e'⟩:=qwp e;replace e:=e';subst hji;have hI:=hjr.int;simp only[bi_eq,qzO,natF_eq]at e;split at e
   . rename_i hlt;have hlt:i<n:=by simpa [Nat.blt_eq]using hlt
     cases e;refine⟨.pointer (some ⟨y.b,y.o+(ad.off+i*szT P el),none⟩),?_,.ptr _ _ y hy⟩;have:(0:Int)<=(i:Int)/\(i:Int)<(n:Int):=⟨by omega,by omega⟩
     simp[Instr.indexAt,hI,asIntOf,run_underlying ht,hV,Instr.sureAddr,this,run_sizeOf (quZ hok),addr_add,Nat.add_assoc];intro h;omega
   . cases e
  . cases e
 .
  rename_i el ht;simp only[bi_eq,ve]at e;split at e
  . cases e
  rename_i hok;have hok:okT P el=true:=by simpa using hok
  simp only[hu,hj,qvx]at e;split at e
  . cases e
  .
   rename_i ad n z;obtain⟨k,i,hji,e'⟩:=qwp e;replace e:=e';subst hji;have hI:=hjr.int;simp only[bi_eq,qzO,natF_eq]at e;split at e
   .
    rename_i hlt;have hlt:i<n:=by simpa [Nat.blt_eq]using hlt
    cases e;obtain⟨hsp,⟨rfl,_,a',hV⟩|⟨y,cap,hy,hc,hs,hV⟩⟩:=hr.slI
    . omega
    . refine⟨.pointer (some ⟨y.b,y.o+(ad.off+i*szT P el),none⟩),?_,.ptr _ _ y hy⟩;have:(0:Int)<=(i:Int)/\(i:Int)<(n:Int):=⟨by omega,by omega⟩
      simp[Instr.indexAt,hI,asIntOf,run_underlying ht,hV,this,run_sizeOf (quZ hok),addr_add,Nat.add_assoc];intro h;omega
   . cases e
  . cases e
 . cases e
theorem qyT (hF:RF μ dp nt F a.tmps)(hG:Gl P μ){t x ix v}(e:(qyl P t x ix dp).f F m=.val v):Does P μ w (Instr.index t (a.eval x) (a.eval ix)) v:=by
 obtain⟨u,hu,hr⟩:=zf hF hG x;obtain⟨j,hj,hjr⟩:=zf hF hG ix;unfold qyl at e;split at e
 .
  rename_i n el ht;simp only[hu,hj,qwx]at e;split at e
  .
   rename_i l;obtain⟨l',hV,h1,h2⟩:=hr.aggI;obtain⟨k,i,hji,e'⟩:=qwp e;replace e:=e';subst hji;have hI:=hjr.int;simp only[bi_eq,natF_eq]at e;split at e
   .
    rename_i hlt;have hlt:i<n:=by simpa [Nat.blt_eq]using hlt
    obtain⟨V,p1,p2⟩:=qgk (w:=w) e h1 h2;have hok:okT P el=true:=by
     unfold qy1 at e;simp only[bi_eq,ve]at e;split at e
     . cases e
     . rename_i h;simpa using h
    refine⟨V,?_,p2⟩;have:(0:Int)<=(i:Int)/\(i:Int)<(n:Int):=⟨by omega,by omega⟩
    have p1:(part el l' (i*szT P el)).run P w=.ok V w:=p1;simp[Instr.index,hI,asIntOf,run_underlying ht,hV,this,run_sizeOf (quZ hok),p1];intro h;omega
   . cases e
  . cases e
 .
  rename_i ht;simp only[hu,hj,qvt]at e;split at e
  .
   rename_i s;have hV:=hr.str;obtain⟨k,i,hji,e'⟩:=qwp e;replace e:=e';subst hji;have hI:=hjr.int;unfold qEa at e;simp only[dropL_eq,qyI,natF_eq,bytes]at e;split at e
   . cases e
   . rename_i b r hb;cases e;refine⟨_,?_,.mkI _ _⟩;have hx:s[i]? = some b:=by have h1:=congrArg (·[0]?) hb;simp only[List.getElem?_drop,Nat.add_zero,List.getElem?_cons_zero,Array.getElem?_toList]at h1;have hlt:i<s.data.size:=(Array.getElem?_eq_some_iff.1 h1).1;have:s[i]? = some (s[i]'hlt):=getElem?_pos s i hlt;rw[this];rw[Array.getElem?_eq_getElem hlt]at h1;exact h1
     simp[Instr.index,hI,asIntOf,run_underlying ht,hV,hx]
  . cases e
 . cases e
def keyD (d:TypeDesc)(k:Value):Prop:=match d,k with
 |.int j,.int k _=>j=k
 |.string,.string _=>True
 |.bool,.bool _=>True
 |_,_=>False
theorem qzq {t k}(h:(qdG P t).f k=true):∃ d,P.underlying t=some d/\keyD d k/\sc k=true:=by
 unfold qdG at h;split at h
 .
  rename_i j hu;simp only[qvg]at h;split at h
  . exact⟨_,hu,(qwP (Nat.eq_of_beq_eq_true h)).symm,rfl⟩
  . cases h
 .
  rename_i hu;simp only[qvt]at h;split at h
  . exact⟨_,hu,trivial,rfl⟩
  . cases h
 .
  rename_i hu;simp only[qvH]at h;split at h
  . exact⟨_,hu,trivial,rfl⟩
  . cases h
 . cases h
theorem run_checkKey {t d k}(hu:P.underlying t=some d)(hd:keyD d k)(b)(w):(Instr.checkKey b 10000 t k).run P w=.ok () w:=by
 have:∀ n,(Instr.checkKey b (n+1) t k).run P w=.ok () w:=by intro n;simp only[Instr.checkKey,Sem.run_bind,run_underlying hu,Result.andThen_ok];unfold keyD at hd;split at hd<;>first|rfl|exact hd.elim
 exact this 9999
theorem qwD {d k v}(hd:keyD d k){b}(e:qbk k v=some b):Instr.sameNow d k v=some b:=by
 unfold qbk at e;split at e
 .
  rename_i j p k' q;simp only[bi_eq]at e;split at e
  . rename_i hk;have:=qwP (Nat.eq_of_beq_eq_true hk);subst this;cases e;cases d<;>simp[keyD]at hd;simp[Instr.sameNow,qzm]
  . cases e
 .
  cases e;cases d<;>simp[keyD]at hd;rename_i p q;simp only[Instr.sameNow,qyi,bytes,Option.some.injEq];rw[show(p==q)=(p.data==q.data)from rfl,Bool.eq_iff_iff];simp only[beq_iff_eq];constructor
  . intro h;rw[h]
  . intro h;exact Array.ext' h
 . cases e;cases d<;>simp[keyD]at hd;rfl
 . cases e
theorem qzT {k v}(e:qbk k v=some true):v=k:=by
 unfold qbk at e;split at e
 .
  simp only[bi_eq]at e;split at e
  . rename_i hk;have:=qwP (Nat.eq_of_beq_eq_true hk);subst this;rw[qzm]at e;simp at e;rw[e]
  . cases e
 . rename_i p q;simp only[qyi,bytes,Option.some.injEq,beq_iff_eq]at e;rw[ByteArray.ext (Array.ext' e)]
 . simp at e;rw[e]
 . cases e
theorem RE.cons_inv {e es es'}(h:RE μ (e::es) es'):∃ e' r,es'=e'::r/\e'.key=e.key/\qvq e.key=true/\e'.born=e.born/\R μ e.val e'.val/\RE μ es r:=by
 cases es' with
 |nil=>exact absurd h.1 (by simp)
 |cons e' r=>obtain⟨h1,h2,h3,h4⟩:=h.2 0 e e' rfl rfl;exact⟨e',r,rfl,h1,h2,h3,h4,by simpa using h.1,fun j x y hx hy=>h.2 (j+1) x y (by simpa using hx) (by simpa using hy)⟩
theorem RE.cons {e e' es es'}(h1:e'.key=e.key)(h2:qvq e.key=true)(h3:e'.born=e.born)(h4:R μ e.val e'.val)(h:RE μ es es'):RE μ (e::es) (e'::es'):=by
 refine⟨by simp[h.1],fun j x y hx hy=>?_⟩;cases j with
 |zero=>simp at hx hy;subst hx;subst hy;exact⟨h1,h2,h3,h4⟩
 |succ j=>exact h.2 j x y (by simpa using hx) (by simpa using hy)
theorem RE.nil_inv {es'}(h:RE μ [] es'):es'=[]:=List.length_eq_zero_iff.1 h.1.symm
theorem qxz {d k}(hd:keyD d k):∀ (es es':List MapEntry) (i:Nat) {c:Option Value->QV} {no:QV} {v:Value},(∀ v,no≠.val v)->qCb k es c no=.val v->RE μ es es' ->
  ∃ r:Option Value,c r=.val v/\((r=none/\Instr.findNow d k es' i=some none)\/∃ u V n,r=some u/\Instr.findNow d k es' i=some (some (n,V))/\R μ u V)
 |[],es',i,c,no,v,hno,e,h=>⟨none,e,.inl ⟨rfl,by rw[h.nil_inv];rfl⟩⟩
 |x::es,es',i,c,no,v,hno,e,h=>by
  obtain⟨x',r,rfl,h1,h2,h3,h4,h5⟩:=h.cons_inv;unfold qCb at e;rw[rL_cons]at e;split at e
  . rename_i hk;refine⟨some x.val,e,.inr ⟨x.val,x'.val,i,rfl,?_,h4⟩⟩;simp only[Instr.findNow,h1,qwD hd hk]
  . rename_i hk;obtain⟨q,q1,q2⟩:=qxz hd es r (i+1) hno (c:=c) (no:=no) (by exact e) h5;refine⟨q,q1,?_⟩;simpa only[Instr.findNow,h1,qwD hd hk]using q2
  . exact absurd e (hno v)
theorem qBC {v}(h:sc v=true):qvq v=true:=by
 unfold qvq;split
 . cases h
 . exact h
theorem qza {t}(h:sKey P t=true):∃ fs,P.underlying t=some (.struct fs):=by
 unfold sKey at h;split at h
 . rename_i fs hu;exact⟨fs,hu⟩
 . cases h
theorem qxI {kt k v b}(h:sEq P kt k v=some b):qvq k=true/\qvq v=true/\∀ w,(Op.equal kt k v).run P w=.ok b w:=by
 unfold sEq at h;split at h
 . rename_i hf;rw[Bool.and_eq_true]at hf;exact⟨hf.1,hf.2,fun w=>qcD h w⟩
 . cases h
theorem qy9 {kt b k}(h:sChk P kt b k=true)(w):(Instr.checkKey b 10000 kt k).run P w=.ok () w:=by
 unfold sChk at h;split at h
 . rename_i u hu;exact qcD hu w
 . cases h
theorem qu8 {kt fs}(hu:P.underlying kt=some (.struct fs))(k es)(w):(Instr.findKey kt k es).run P w=(Instr.findAsking kt k es 0).run P w:=by
 cases es with
 |nil=>simp[Instr.findKey,run_underlying hu,Instr.findNow,Instr.findAsking]
 |cons e es=>simp[Instr.findKey,run_underlying hu,Instr.findNow,Instr.sameNow]
theorem qw9 {kt k}:∀ (es es':List MapEntry) (i:Nat) {c:Option Value->QV} {no:QV} {v:Value},(∀ v,no≠.val v)->qCc P kt k es c no=.val v->RE μ es es' ->
  ∃ r:Option Value,c r=.val v/\((r=none/\∀ w,(Instr.findAsking kt k es' i).run P w=.ok none w)\/∃ u V n,r=some u/\(∀ w,(Instr.findAsking kt k es' i).run P w=.ok (some (n,V)) w)/\R μ u V)
 |[],es',i,c,no,v,hno,e,h=>⟨none,e,.inl ⟨rfl,fun w=>by rw[h.nil_inv];rfl⟩⟩
 |x::es,es',i,c,no,v,hno,e,h=>by
  obtain⟨x',r,rfl,h1,h2,h3,h4,h5⟩:=h.cons_inv;unfold qCc at e;rw[rL_cons]at e;split at e
  . rename_i hk;refine⟨some x.val,e,.inr ⟨x.val,x'.val,i,rfl,fun w=>?_,h4⟩⟩;simp[Instr.findAsking,h1,(qxI hk).2.2]
  . rename_i hk;obtain⟨q,q1,q2⟩:=qw9 es r (i+1) hno (c:=c) (no:=no) (by exact e) h5;have step:∀ w,(Instr.findAsking kt k (x'::r) i).run P w=(Instr.findAsking kt k r (i+1)).run P w:=fun w=>by simp[Instr.findAsking,h1,(qxI hk).2.2]
    refine⟨q,q1,?_⟩;simpa only[step]using q2
  . exact absurd e (hno v)
theorem qBJ (es):emp es=es.isEmpty:=by cases es<;>rfl
theorem RE.isEmpty {es es'}(h:RE μ es es'):es'.isEmpty=es.isEmpty:=by have:=h.1;cases es<;>cases es'<;>simp_all
theorem qxU {t kt et}(h:mapT P t=some (kt,et)):P.underlying t=some (.map kt et):=by
 unfold mapT at h;split at h
 . rename_i k e hu;cases h;exact hu
 . cases h
theorem qgs (hO:HO μ w m){t ok x k X K v}(e:(qCp P t ok).f m x k=.val v)(hx:R μ x X)(hk:R μ k K):Does P μ w (Instr.lookup t X K ok) v:=by
 unfold qCp at e;split at e
 . cases e
 rename_i kt et hm;have hu:=qxU hm;simp only[bi_eq]at e;have miss:∀ {v},(match zV P et with|some z=>if ok=true then QV.val (.tuple #[z,.bool false])else .val z|none=>.no 19)=.val v->∃ z,zV P et=some z/\v=(if ok=true then .tuple #[z,.bool false]else z) /\
   R μ v v:=by
  intro v e;split at e
  . rename_i z hz;obtain⟨f1,_⟩:=qz8 hz;split at e
    . rename_i hok;cases e;exact⟨z,hz,by rw[if_pos hok],.mkTup (.cons (qvj f1) (.cons (.mkB _) .nil))⟩
    . rename_i hok;cases e;exact⟨v,hz,by rw[if_neg hok],qvj f1⟩
  . cases e
 by_cases hsk:sKey P kt=true
 case pos=>
  rw[if_pos hsk]at e;simp only at e;obtain⟨fs,hfs⟩:=qza hsk;split at e
  case isFalse=>cases e
  rename_i hfl;have:=hk.flat1I hfl;subst this;rw[qvR]at e;split at e
  . cases e
  .
   rename_i i;obtain⟨y,hy,rfl⟩:=hx.mapI;simp only[M.get_eq,qvh]at e;split at e
   .
    rename_i es clock hes;have ho:=hO i _ hy;rw[hes]at ho;obtain⟨y',ents,o1,o2,o3⟩:=ho;rw[hy]at o1;cases o1;split at e
    case isFalse=>cases e
    rename_i hck;have hck':=qy9 hck;rw[qBJ,<- o3.isEmpty]at hck';have hie:ents.toList.isEmpty=ents.isEmpty:=by cases ents with|mk l=>cases l<;>rfl
    rw[hie]at hck';obtain⟨r,hr,h2⟩:=qw9 es ents.toList 0 (by intro v h;cases h) e o3;rcases h2 with⟨rfl,hf⟩|⟨u,V,n,rfl,hf,hR⟩
    . obtain⟨z,hz,rfl,hR⟩:=miss hr;obtain⟨_,_,_,hz2⟩:=qz8 hz;have hf:(Instr.findKey kt K ents.toList).run P w=.ok none w:=by rw[qu8 hfs];exact hf w
      refine⟨_,?_,hR⟩;simp[Instr.lookup,run_underlying hu,getObj,Sem.run,o2,hck',hf,hz2]
    .
     have hf:(Instr.findKey kt K ents.toList).run P w=.ok (some (n,V)) w:=by rw[qu8 hfs];exact hf w
     refine⟨if ok=true then .tuple #[V,.bool true]else V,?_,?_⟩
     . simp[Instr.lookup,run_underlying hu,getObj,Sem.run,o2,hck',hf]
     . simp only at hr;split at hr
       . rename_i hok;cases hr;rw[if_pos hok];exact .mkTup (.cons hR (.cons (.mkB _) .nil))
       . rename_i hok;cases hr;rw[if_neg hok];exact hR
   . cases e
  . cases e
 rw[if_neg hsk]at e;simp only at e;by_cases hko:(qdG P kt).f k=true
 case neg=>rw[if_neg hko]at e;cases e
 rw[if_pos hko]at e;obtain⟨d,hd,hkd,hsc⟩:=qzq hko;have:=hk.scI hsc;subst this;rw[qvR]at e;split at e
 . have:=hx.nilmap;subst this;obtain⟨z,hz,rfl,hR⟩:=miss e;obtain⟨_,_,_,hz2⟩:=qz8 hz;have hf:(Instr.findKey kt K []).run P w=.ok none w:=by simp[Instr.findKey,run_underlying hd,Instr.findNow]
   refine⟨_,?_,hR⟩;simp[Instr.lookup,run_underlying hu,run_checkKey hd hkd,hf,hz2]
 .
  rename_i i;obtain⟨y,hy,rfl⟩:=hx.mapI;simp only[M.get_eq,qvh]at e;split at e
  .
   rename_i es clock hes;have ho:=hO i _ hy;rw[hes]at ho;obtain⟨y',ents,o1,o2,o3⟩:=ho;rw[hy]at o1;cases o1;obtain⟨r,hr,h2⟩:=qxz hkd es ents.toList 0 (by intro v h;cases h) e o3;rcases h2 with⟨rfl,hf⟩|⟨u,V,n,rfl,hf,hR⟩
   . obtain⟨z,hz,rfl,hR⟩:=miss hr;obtain⟨_,_,_,hz2⟩:=qz8 hz;have hf:(Instr.findKey kt K ents.toList).run P w=.ok none w:=by simp[Instr.findKey,run_underlying hd,hf]
     refine⟨_,?_,hR⟩;simp[Instr.lookup,run_underlying hu,getObj,Sem.run,o2,run_checkKey hd hkd,hf,hz2]
   .
    have hf:(Instr.findKey kt K ents.toList).run P w=.ok (some (n,V)) w:=by simp[Instr.findKey,run_underlying hd,hf]
    refine⟨if ok=true then .tuple #[V,.bool true]else V,?_,?_⟩
    . simp[Instr.lookup,run_underlying hu,getObj,Sem.run,o2,run_checkKey hd hkd,hf]
    . simp only at hr;split at hr
      . rename_i hok;cases hr;rw[if_pos hok];exact .mkTup (.cons hR (.cons (.mkB _) .nil))
      . rename_i hok;cases hr;rw[if_neg hok];exact hR
  . cases e
 . cases e
end
end E
end Go.Proofs.YtjnefcbeemkkeaaGreat
namespace Go.Proofs.YtjnefcbeemkkeaaGreat
namespace E
section
variable {P:Program} {μ:Mu} {dp nt:Nat} {F:T Value} {a:Act} {w:World} {m:M}
theorem qAF (hF:RF μ dp nt F a.tmps)(hG:Gl P μ)(hO:HO μ w m){t x rest ty v}(e:(lenQ P t x dp).f F m=.val v):
  Does P μ w (Builtin.len_ ⟨t::rest⟩ ty #[a.eval x]) v:=by
 obtain⟨u,hu,hr⟩:=zf hF hG x;have h0:(⟨t::rest⟩:Array TypeId)[0]? = some t:=rfl;unfold lenQ at e;split at e
 .
  rename_i ht;simp only[hu,qvt]at e;split at e
  . rename_i s;simp only[lenF_eq]at e;cases e;refine⟨_,?_,.mkI _ _⟩;simp[Builtin.len_,h0,run_underlying ht,hr.str,goInt,bytes]
  . cases e
 .
  rename_i ht;simp only[hu,qvx]at e;split at e
  . obtain⟨rfl,rfl,hV⟩:=hr.nilsl;cases e;refine⟨_,?_,.mkI _ _⟩;simp[Builtin.len_,h0,run_underlying ht,hV,goInt]
  . cases e;obtain⟨_,⟨rfl,_,a',hV⟩|⟨y,cap,hy,hc,hs,hV⟩⟩:=hr.slI
    . refine⟨_,?_,.mkI _ _⟩;simp[Builtin.len_,h0,run_underlying ht,hV,goInt]
    . refine⟨_,?_,.mkI _ _⟩;simp[Builtin.len_,h0,run_underlying ht,hV,goInt]
  . cases e
 . rename_i ht;simp only[natF_eq]at e;cases e;refine⟨_,?_,.mkI _ _⟩;simp[Builtin.len_,h0,run_underlying ht,goInt]
 .
  rename_i ht;simp only[hu,qvR]at e;split at e
  . cases e;refine⟨_,?_,.mkI _ _⟩;simp[Builtin.len_,h0,run_underlying ht,hr.nilmap,goInt]
  . rename_i i;obtain⟨y,hy,hV⟩:=hr.mapI;simp only[M.get_eq,qvh]at e;split at e
    . rename_i es clock hes;have ho:=hO i _ hy;rw[hes]at ho;obtain⟨y',ents,o1,o2,o3⟩:=ho;rw[hy]at o1;cases o1;simp only[lenF_eq]at e;cases e;refine⟨_,?_,.mkI _ _⟩;have:=o3.1;simp only[Array.length_toList]at this;simp[Builtin.len_,h0,run_underlying ht,hV,getObj,Sem.run,o2,goInt,this]
    . cases e
  . cases e
 . cases e
theorem qw5:∀ (l L:List Value) {c:List UInt8->QV} {v:Value},qAg l c=.val v->RL μ l L->∃ bs:List UInt8,c bs=.val v/\L=bs.map fun b=>Value.int .u8 b.toNat
 |[],L,c,v,e,h=>⟨[],e,by rw[h.nil_inv];rfl⟩
 |x::l,L,c,v,e,h=>by
  obtain⟨V,l',rfl,h1,h2⟩:=h.cons_inv;unfold qAg at e;rw[rL_cons,qvg]at e;split at e
  .
   rename_i k n;rw[bi_eq]at e;split at e
   .
    rename_i hk;have:k=.u8:=qwP (Nat.eq_of_beq_eq_true hk);subst this;cases n with
    |negSucc n=>cases e
    |ofNat n=>
     rw[cI_nat,natF_eq,bi_eq]at e;split at e
     . rename_i hlt;have hlt:n<256:=by simpa [Nat.blt_eq]using hlt
       obtain⟨bs,b1,b2⟩:=qw5 l l' (c:=fun r=>c (.ofNat n::r)) e h2;refine⟨.ofNat n::bs,b1,?_⟩;rw[List.map_cons,<- b2,h1.int];congr 2;simp only[UInt8.toNat_ofNat'];rw[Nat.mod_eq_of_lt hlt];rfl
     . cases e
   . cases e
  . cases e
theorem qxG:∀ (bs:List UInt8) (s:ByteArray),((bs.map fun b=>((b.toNat:Nat):Int)).foldl (fun r n=>r.push (UInt8.ofNat n.toNat)) s).data.toList=s.data.toList++bs
 |[],s=>by simp
 |b::bs,s=>by simp only[List.map_cons,List.foldl_cons];rw[qxG bs];simp
theorem qAG {e}(hz:szT P e≠0){count}(hn:1<=count):liesAt P P.depth e count 0 e 1=true:=by
 have hc:P.cellsOf e≠0:=by
  unfold szT at hz;unfold Program.cellsOf;cases hi:P.info? e with
  |none=>rw[hi]at hz;exact absurd rfl hz
  |some i=>rw[hi]at hz;simpa using hz
 have hd:P.depth=(2*(P.types.size+Made.depth)+1)+1:=rfl;rw[hd];simp only[liesAt,Bool.or_eq_true];left;rw[hd];simp[rowAt,hc,hn,sameLayout]
theorem qyc (e):P.cellsOf e=szT P e:=by unfold szT Program.cellsOf;cases P.info? e<;>rfl
theorem qAV {t}(h:qwQ P t=true):szT P t≠0:=by
 unfold qwQ at h;split at h
 .
  split at h
  . split at h
    . rw[qu1,ve,Bool.and_eq_true]at h;intro h0;rw[h0]at h;exact absurd h.2 (by decide)
    . cases h
  . cases h
 . cases h
theorem qge (hRt:Rt P μ m)(hF:RF μ dp nt F a.tmps)(hG:Gl P μ)(hO:HO μ w m){s t x v}(e:(qBi P s t x dp).f F m=.val v):Does P μ w (convert s t (a.eval x)) v:=by
 obtain⟨u,hu,hr⟩:=zf hF hG x;have slow:(match flat u with|true=>qy2 P (convert s t u)|false=>.no 34)=QV.val v->Does P μ w (convert s t (a.eval x)) v:=by
  intro e;split at e
  . rename_i hf;have:=hr.flatI hf;obtain⟨r1,r2⟩:=qw1 e w;rw[this];exact⟨v,r1,.sc v r2⟩
  . cases e
 unfold qBi at e;split at e
 .
  rename_i j k hs ht;simp only[hu,qvg]at e;split at e
  . rename_i k' n;rw[qzM]at e;cases e;refine⟨_,?_,.mkI _ _⟩;simp[convert,run_underlying hs,run_underlying ht,hr.int,Conv.intToInt]
  . cases e
 .
  rename_i hs ht;simp only[hu,qvt]at e;split at e
  . cases e;refine⟨_,?_,.mkS _⟩;simp[convert,run_underlying hs,run_underlying ht,hr.str]
  . cases e
 .
  rename_i el hs ht;simp only[bi_eq,ve]at e;by_cases hu8:isU8 P el=true
  case neg=>simp[hu8]at e;cases e
  have hel:P.underlying el=some (.int .u8):=by
   unfold isU8 at hu8;split at hu8
   . assumption
   . cases hu8
  simp only[hu8,Bool.not_true,Bool.false_eq_true,if_false,hu,qvx]at e;split at e
  . obtain⟨rfl,rfl,hV⟩:=hr.nilsl;cases e;refine⟨.string .empty,?_,.mkS _⟩;rw[hV,run_convert_bytes_string w s t el none 0 0 hs hel ht];simp[Conv.bytesToString]
  .
   rename_i ad n z;simp only[M.cells_eq]at e;split at e
   .
    rename_i ro t' c hc;simp only[takeF_eq,dropL_eq]at e;split at e
    .
     rename_i hle;have fin:∀ (q:Addr) (cap:Nat) (us:List Value),a.eval x=.slice (some q) n cap->us.length=n->RL μ ((c.drop ad.off).take n) us->(∀ (j:Nat) (u:Value),us[j]? = some u->w.cell? (q.add j)=some u)->Does P μ w (convert s t (a.eval x)) v:=by intro q cap us hV h1 h2 h3;obtain⟨bs,b1,b2⟩:=qw5 _ _ e h2;cases b1;refine⟨_,?_,.mkS _⟩;have hl:=run_loadCells_list (P:=P) (w:=w) q us h3;rw[h1]at hl;rw[hV,run_convert_bytes_string w s t el (some q) n cap hs hel ht];rw[run_bytesToString w q n cap (bs.map fun b=>((b.toNat:Nat):Int)) (by rw[hl,b2,List.map_map];rfl)];congr 2;apply ByteArray.ext;apply Array.ext';rw[qxG];simp
     obtain⟨_,⟨rfl,_,a',hV⟩|⟨y,cap,hy,hcap,hs',hV⟩⟩:=hr.slI
     . exact fin a' 0 [] hV rfl (by simp;exact .nil) (by simp)
     . have ho:=hO ad.block _ hy;rw[hc]at ho;simp only[List.length_drop]at hle;by_cases hk:ad.off<=c.length
       . obtain⟨us,u1,u2,u3,_⟩:=qfQ (k:=ad.off) (n:=n) ho hy (by omega);exact fin _ cap us hV u1 u2 u3
       . have:n=0:=by omega
         subst this;exact fin _ cap [] hV rfl (by simp;exact .nil) (by simp)
    . cases e
   . cases e
  . cases e
 . cases e
 . cases e
 .
  rename_i el hs ht;simp only[bi_eq]at e;split at e
  . cases e
  .
   rename_i hz;have hz:szT P el≠0:=by simpa using hz
   simp only[hu,qu5]at e;split at e
   .
    rename_i ad;obtain⟨_,y,hy,hV⟩:=hr.ptrI;simp only[M.cells_eq]at e;split at e
    .
     rename_i ro t' c hc;simp only[lenF_eq,bi_eq]at e;split at e
     . rename_i hlt;have hlt:ad.off<c.length:=by simpa [Nat.blt_eq]using hlt
       cases e;have ho:=hO ad.block _ hy;rw[hc]at ho;obtain⟨y',vs,fr,o1,o2,_,o4,o5,_⟩:=ho;rw[hy]at o1;cases o1;obtain⟨i,hi⟩:∃ i,P.info? el=some i:=by
        cases hi:P.info? el with
        |none=>exact absurd (by simp[szT,hi]) hz
        |some i=>exact⟨i,rfl⟩
       refine⟨_,?_,by rw[hV]at hr;exact hr⟩;rw[hV];exact Lib.run_to_unsafe w _ hs ht hi (by simpa [szT,hi]using hz) (e:=t') (cells:=vs.size) (by simp[World.shape?,o2]) (by show y.o+ad.off<_;omega)
     . cases e
    . cases e
   . cases e
 .
  rename_i el hs ht;simp only[bi_eq,ve]at e;split at e
  . cases e
  .
   rename_i hrt;have hrt:qwQ P el=true:=by simpa using hrt
   have hz:=qAV hrt;simp only[hu,qu5]at e;split at e
   .
    rename_i ad;obtain⟨_,y,hy,hV⟩:=hr.ptrI;simp only[M.cells_eq]at e;split at e
    .
     rename_i ro t' c hc;simp only[lenF_eq,bi_eq]at e;split at e
     . rename_i hlt;rw[qu1,qu1,Bool.and_eq_true,Bool.and_eq_true]at hlt;have h1:t'=el:=Nat.eq_of_beq_eq_true hlt.1;have h2:ad.off=0:=Nat.eq_of_beq_eq_true hlt.2.1;have h3:szT P el<=c.length:=Nat.le_of_ble_eq_true hlt.2.2;subst h1;cases e;have ho:=hO ad.block _ hy;rw[hc]at ho;obtain⟨y',vs,fr,o1,o2,_,o4,o5,_⟩:=ho;rw[hy]at o1;cases o1;have hy0:=hRt ad.block y hy (by rw[hc];exact hrt);obtain⟨i,hi⟩:∃ i,P.info? t'=some i:=by
        cases hi:P.info? t' with
        |none=>exact absurd (by simp[szT,hi]) hz
        |some i=>exact⟨i,rfl⟩
       refine⟨_,?_,by rw[hV]at hr;exact hr⟩;rw[hV,hy0,h2];refine Lib.run_from_unsafe w _ hs ht hi (e:=t') (cells:=vs.size) (by simp[World.shape?,o2]) ?_;rw[qyc];exact qAG hz ((Nat.le_div_iff_mul_le (Nat.pos_of_ne_zero hz)).2 (by omega))
     . cases e
    . cases e
   . cases e
 . simp only[hu]at e;exact slow e
end
end E
end Go.Proofs.YtjnefcbeemkkeaaGreat
namespace Go.Proofs.YtjnefcbeemkkeaaGreat
namespace E
section
variable {P:Program} {μ:Mu} {dp nt:Nat} {F:T Value} {a:Act} {w:World} {m:M}
theorem qaS (hRt:Rt P μ m)(hF:RF μ dp nt F a.tmps)(hG:Gl P μ)(hO:HO μ w m){op v}(e:(quiet P dp op).f F m=.val v)(dst ty pos after)(guard):
  ∃ V,(execOp a.eval ⟨dst,op,ty,pos,after,guard⟩).run P w=.ok (.value V) w/\R μ v V:=by
 unfold quiet at e;split at e
 . -- move
   rename_i x;obtain⟨u,hu,hr⟩:=zf hF hG x;simp only[hu]at e;cases e;exact⟨_,rfl,hr⟩
 . -- assign
   rename_i x;obtain⟨u,hu,hr⟩:=zf hF hG x;simp only[hu]at e;cases e;exact⟨_,rfl,hr⟩
 .
  -- pick
  rename_i c x y;obtain⟨u,hu,hr⟩:=zf hF hG c;obtain⟨p,hp,hpr⟩:=zf hF hG x;obtain⟨q,hq,hqr⟩:=zf hF hG y;simp only[hu,hp,hq,qvH]at e;split at e
  . rename_i t;have hV:=hr.bool;simp only[bi_eq]at e;cases t with
    |true=>cases e;exact⟨_,by simp[execOp,hV,asBool],hpr⟩
    |false=>cases e;exact⟨_,by simp[execOp,hV,asBool],hqr⟩
  . cases e
 . -- build
   rename_i t ps;exact(qet hF hG e).next
 .
  -- load
  rename_i t x;obtain⟨u,hu,hr⟩:=zf hF hG x;simp only[hu,qu5]at e;split at e
  . rename_i ad;obtain⟨_,y,hy,hV⟩:=hr.ptrI;have:=qzs (P:=P) (w:=w) e (hO _ _ hy) hy;have h2:Does P μ w (Instr.loadAt t (a.eval x)) v:=by rw[hV];simpa [Does,Instr.loadAt,Instr.sureAddr]using this
    exact h2.next
  . cases e
 .
  -- nilCheck
  rename_i x;obtain⟨u,hu,hr⟩:=zf hF hG x;simp only[hu,qu5]at e;split at e
  . obtain⟨_,y,hy,hV⟩:=hr.ptrI;cases e;exact⟨_,by simp[execOp,hV];rfl,by rw[<- hV];exact hr⟩
  .
   simp only[qxW]at e;split at e
   . obtain⟨p,q,hV,_⟩:=hr.fnI;cases e;exact⟨_,by simp[execOp,hV];rfl,by rw[<- hV];exact hr⟩
   .
    simp only[qyZ]at e;split at e
    . obtain⟨rfl,rfl,q,_,hV⟩:=hr.ydI;cases e;exact⟨_,by simp[execOp,hV];rfl,by rw[<- hV];exact hr⟩
    . simp only[qyY]at e;split at e
      . cases e
      . obtain⟨q,hV,_⟩:=hr.ifI;cases e;exact⟨_,by simp[execOp,hV];rfl,by rw[<- hV];exact hr⟩
      . cases e
 . -- binOp
   rename_i op t x y t';obtain⟨p,hp,hpr⟩:=zf hF hG x;obtain⟨q,hq,hqr⟩:=zf hF hG y;simp only[hp,hq]at e;exact(qAb e hpr hqr (fun c hc=>by rw[hc];rfl) (fun c hc=>by rw[hc];rfl)).next
 .
  -- unOp
  rename_i op t x;obtain⟨u,hu,hr⟩:=zf hF hG x;split at e
  . simp only[hu,qvH]at e;split at e
    . rw[qAR,ve]at e;cases e;exact⟨_,by simp[execOp,hr.bool,Op.unary],.mkB _⟩
    . cases e
  . simp only[hu]at e;split at e
    . rename_i hf;have hV:=hr.flatI hf;obtain⟨r1,r2⟩:=qw1 e w;exact Does.next ⟨v,by rw[hV];exact r1,.sc v r2⟩
    . cases e
 . -- convert
   rename_i s t x;exact(qge hRt hF hG hO e).next
 .
  -- makeInterface
  rename_i t x;obtain⟨u,hu,hr⟩:=zf hF hG x;split at e
  . cases e
  . rename_i d hni hd;simp only[hu]at e;cases e;refine⟨.iface t (a.eval x),?_,.iface _ _ _ hr⟩;cases d<;>simp[execOp,Instr.makeInterface,run_underlying hd];rename_i ms;exact(hni ms rfl).elim
  . cases e
 .
  -- makeFunc
  rename_i f p q;obtain⟨r1,h1,h2⟩:=qvW hF hG p.toList;obtain⟨r2,h3,h4⟩:=qvW hF hG q.toList;simp only[h1,h3]at e;cases e;refine⟨.func (.func f) (p.map a.eval) (q.map a.eval),rfl,?_⟩;have e1:p.map a.eval=⟨p.toList.map a.eval⟩:=by apply Array.ext';simp
  have e2:q.map a.eval=⟨q.toList.map a.eval⟩:=by apply Array.ext';simp
  rw[e1,e2];exact .func _ _ _ _ _ h2.1 h2.2 h4.1 h4.2
 . -- slice
   rename_i t x lo hi;exact(qem hF hG hO e).next
 .
  -- fieldAddr
  rename_i t x f;obtain⟨u,hu,hr⟩:=zf hF hG x;split at e
  .
   rename_i o ft hfo;simp only[bi_eq]at e;split at e
   . cases e
   .
    rename_i hz;have hz:szT P ft≠0:=by intro h0;rw[h0]at hz;simp at hz
    have hinfo:∃ i,P.info? ft=some i:=by
     unfold szT at hz;cases hi:P.info? ft with
     |none=>simp[hi]at hz
     |some i=>exact⟨i,rfl⟩
    simp only[hu,qu5]at e;split at e
    .
     rename_i ad;obtain⟨_,y,hy,hV⟩:=hr.ptrI;simp only[qzO,natF_eq]at e;cases e;unfold qwX at hfo;split at hfo
     . rename_i fs hu';split at hfo
       . rename_i fl hfl;cases hfo;refine⟨.pointer (some ⟨y.b,y.o+(ad.off+fl.offset),none⟩),?_,.ptr _ _ y hy⟩;simp[execOp,Instr.fieldAt,run_underlying hu',hfl,hV,Instr.sureAddr,fieldPlace,run_sizeOf hinfo,hz,addr_add,Nat.add_assoc]
       . cases hfo
     . cases hfo
    . cases e
  . cases e
 .
  -- field
  rename_i t x f;obtain⟨u,hu,hr⟩:=zf hF hG x;split at e
  .
   rename_i o ft hfo;simp only[hu,qwx]at e;split at e
   .
    rename_i l;obtain⟨l',hV,h1,h2⟩:=hr.aggI;unfold qwX at hfo;split at hfo
    . rename_i fs hu';split at hfo
      . rename_i fl hfl;cases hfo;obtain⟨V,p1,p2⟩:=qgk (w:=w) e h1 h2;have p1:(part fl.type l' fl.offset).run P w=.ok V w:=p1;exact⟨V,by simp[execOp,Instr.field,run_underlying hu',hfl,hV,asAgg,p1],p2⟩
      . cases hfo
    . cases hfo
   . cases e
  . cases e
 . -- indexAddr
   rename_i t x ix;exact(qBm hF hG e).next
 . -- index
   rename_i t x ix;exact(qyT hF hG e).next
 . -- lookup
   rename_i t x k ok;obtain⟨p,hp,hpr⟩:=zf hF hG x;obtain⟨q,hq,hqr⟩:=zf hF hG k;simp only[hp,hq]at e;exact(qgs hO e hpr hqr).next
 .
  -- typeAssert
  rename_i x xt t ok;obtain⟨u,hu,hr⟩:=zf hF hG x;split at e
  . cases e
  .
   rename_i d hni hd;have miss:∀ {v},(match zV P t with|some z=>(if ok=true then .val (.tuple #[z,.bool false])else .no 57)|none=>.no 57)=QV.val v->ok=true/\∃ z,v=.tuple #[z,.bool false]/\R μ v v/\(∀ w,(zeroValue t).run P w=.ok z w):=by
    intro v e;split at e
    . rename_i z hz;obtain⟨f1,_,_,f4⟩:=qz8 hz;cases ok with
      |true=>cases e;exact⟨rfl,z,rfl,.mkTup (.cons (qvj f1) (.cons (.mkB _) .nil)),f4⟩
      |false=>cases e
    . cases e
   simp only[hu,qyY,bi_eq]at e;split at e
   . obtain⟨rfl,z,rfl,hR,hz⟩:=miss e;refine⟨_,?_,hR⟩;cases d<;>first
      |(exact(hni _ rfl).elim)
      |simp[execOp,Instr.typeAssert,run_underlying hd,hr.nilIface,hz]
   .
    rename_i t' u';obtain⟨V',hV,hR⟩:=hr.ifI;split at e
    .
     rename_i htt;have htt:t'=t:=Nat.eq_of_beq_eq_true htt;subst htt;split at e
     . rename_i hok;cases e;subst hok;refine⟨.tuple #[V',.bool true],?_,.mkTup (.cons hR (.cons (.mkB _) .nil))⟩;cases d<;>first
        |(exact(hni _ rfl).elim)
        |simp[execOp,Instr.typeAssert,run_underlying hd,hV]
     . rename_i hok;cases e;have hok:ok=false:=by simpa using hok
       subst hok;refine⟨V',?_,hR⟩;cases d<;>first
        |(exact(hni _ rfl).elim)
        |simp[execOp,Instr.typeAssert,run_underlying hd,hV]
    . rename_i htt;have htt:t'≠t:=fun h=>htt (by rw[h];exact Nat.beq_refl t);obtain⟨rfl,z,rfl,hR',hz⟩:=miss e;refine⟨_,?_,hR'⟩;cases d<;>first
       |(exact(hni _ rfl).elim)
       |simp[execOp,Instr.typeAssert,run_underlying hd,hV,htt,hz]
   . cases e
  . cases e
 .
  -- extract
  rename_i x i;obtain⟨u,hu,hr⟩:=zf hF hG x;simp only[hu,qzz]at e;split at e
  .
   rename_i l;obtain⟨l',hV,h1⟩:=hr.tupI;simp only[dropL_eq,qyI]at e;split at e
   . cases e
   . rename_i y r hd;cases e;have hx:l.toList[i]? = some v:=by have:=congrArg (·[0]?) hd;simpa [List.getElem?_drop]using this
     obtain⟨V,hV',hR⟩:=h1.get hx;have hV':l'[i]? = some V:=by simpa using hV'
     exact⟨V,by simp[execOp,Instr.extract,hV,hV'],hR⟩
  . cases e
 . -- len
   rename_i x t rest;have:=qAF (w:=w) (rest:=rest) (ty:=ty) hF hG hO e;obtain⟨V,h1,h2⟩:=this;refine⟨V,?_,h2⟩;simp[execOp,resolve,invoke,builtin,h1]
 .
  -- cap
  rename_i x t rest;split at e
  .
   rename_i el ht;obtain⟨p,hp,hpr⟩:=zf hF hG x;simp only[hp,qvx]at e;split at e
   . obtain⟨rfl,rfl,hV⟩:=hpr.nilsl;cases e;refine⟨.int .i64 0,?_,.mkI _ _⟩;simp[execOp,resolve,invoke,builtin,hV,Builtin.cap_,run_underlying ht,goInt]
   . cases e
   . cases e
  . cases e
 .
  -- what a slice's row is
  rename_i x at_;obtain⟨p,hp,hpr⟩:=zf hF hG x;simp only[hp,qvx,bi_eq]at e;split at e
  . obtain⟨rfl,rfl,hV⟩:=hpr.nilsl;cases e;refine⟨_,?_,.sc _ rfl⟩;simp[execOp,resolve,invoke,builtin,hV,Lib.run_unsafeSliceData_nil]
  .
   rename_i ad n z;split at e
   . cases e
   .
    rename_i hn;have hn:n≠0:=by simpa using hn
    cases e;obtain⟨hsp,⟨rfl,_,a',hV⟩|⟨y,cap,hy,hcap,hs',hV⟩⟩:=hpr.slI
    . exact absurd rfl hn
    . refine⟨.pointer (some ⟨y.b,y.o+ad.off,none⟩),?_,?_⟩
      . simp[execOp,resolve,invoke,builtin,hV,Lib.run_unsafeSliceData_row (P:=P) w at_ ty ⟨y.b,y.o+ad.off,none⟩ n cap (by omega)]
      . obtain⟨b,o,s⟩:=ad;cases hsp;exact .ptr b o y hy
  . cases e
 .
  -- min
  rename_i x y at_;obtain⟨p,hp,hpr⟩:=zf hF hG x;obtain⟨q,hq,hqr⟩:=zf hF hG y;simp only[hp,hq,qvg,bi_eq,qAH]at e;split at e
  .
   split at e
   .
    rename_i k m' _ k' n';refine⟨.int k (if n'<m' then n' else m'),?_,?_⟩
    . simp[execOp,resolve,invoke,builtin,Builtin.min_,hpr.int,hqr.int,Builtin.min2]
    . split at e
      . rename_i h;cases e;rw[if_pos (by simpa using h)];exact .mkI _ _
      . rename_i h;cases e;rw[if_neg (by simpa using h)];exact .mkI _ _
   . cases e
  . cases e
 .
  -- max
  rename_i x y at_;obtain⟨p,hp,hpr⟩:=zf hF hG x;obtain⟨q,hq,hqr⟩:=zf hF hG y;simp only[hp,hq,qvg,bi_eq,qAH]at e;split at e
  .
   split at e
   .
    rename_i k m' _ k' n';refine⟨.int k (if m'<n' then n' else m'),?_,?_⟩
    . simp[execOp,resolve,invoke,builtin,Builtin.max_,hpr.int,hqr.int,Builtin.max2]
    . split at e
      . rename_i h;cases e;rw[if_pos (by simpa using h)];exact .mkI _ _
      . rename_i h;cases e;rw[if_neg (by simpa using h)];exact .mkI _ _
   . cases e
  . cases e
 . cases e
end
end E
end Go.Proofs.YtjnefcbeemkkeaaGreat
namespace Go.Proofs.YtjnefcbeemkkeaaGreat
namespace E
def lv:O->Bool
 |.dead=>false
 |_=>true
def wr:O->Bool
 |.dead=>false
 |_=>true
theorem qEd {o}(h:wr o=true):lv o=true:=by cases o<;>first|rfl|cases h
structure Hp (P:Program) (μ:Mu) (m:M) (w:World):Prop where
 obj:HO μ w m
 fresh:∀ i,m.next<=i->μ i=none
 room:m.next<=hdN
 root:Rt P μ m
 lt:∀ i x,μ i=some x->x.b<w.heap.size
 inj:∀ i j x y,i≠j->lv (m.at i)=true->lv (m.at j)=true->μ i=some x->μ j=some y->x.b≠y.b
structure Gn (μ:Mu) (m:M) (w:World) (μ':Mu) (m':M) (w':World):Prop where
 ext:Ext μ μ'
 next:m.next<=m'.next
 size:w.heap.size<=w'.heap.size
 rest:∀ b,b<w.heap.size->(∀ i x,wr (m.at i)=true->μ i=some x->x.b≠b)->w'.heap[b]? = w.heap[b]?
 own:∀ i x,wr (m'.at i)=true->μ' i=some x->(∃ j y,wr (m.at j)=true/\μ j=some y/\y.b=x.b)\/w.heap.size<=x.b
 out:w'.os=w.os/\w'.output=w.output
 old:∀ i,i<m.next->μ' i=μ i
theorem Gn.refl (μ m)(w):Gn μ m w μ m w:=⟨.refl μ,Nat.le_refl _,Nat.le_refl _,fun _ _ _=>rfl,fun i x h e=>.inl ⟨i,x,h,e,rfl⟩,⟨rfl,rfl⟩,fun _ _=>rfl⟩
theorem Gn.trans {μ ν ξ m n k w u v}(h:Gn μ m w ν n u)(g:Gn ν n u ξ k v):Gn μ m w ξ k v where
 ext:=h.ext.trans g.ext
 next:=Nat.le_trans h.next g.next
 size:=Nat.le_trans h.size g.size
 rest b hb hn:=by
  rw[g.rest b (Nat.lt_of_lt_of_le hb h.size) fun i x hw e hxb=>?_,h.rest b hb hn];rcases h.own i x hw e with⟨j,y,h1,h2,h3⟩|hge
  . exact hn j y h1 h2 (by omega)
  . omega
 own i x hw e:=by
  rcases g.own i x hw e with⟨j,y,h1,h2,h3⟩|hge
  . rcases h.own j y h1 h2 with⟨j',y',k1,k2,k3⟩|hge
    . exact .inl ⟨j',y',k1,k2,by omega⟩
    . exact .inr (by omega)
  . exact .inr (Nat.le_trans h.size hge)
 out:=⟨g.out.1.trans h.out.1,g.out.2.trans h.out.2⟩
 old i hi:=(g.old i (Nat.lt_of_lt_of_le hi h.next)).trans (h.old i hi)
theorem RE.mono {μ μ'}(he:Ext μ μ'){es es'}(h:RE μ es es'):RE μ' es es':=⟨h.1,fun j e e' h1 h2=>let ⟨a,b,c,d⟩:=h.2 j e e' h1 h2;⟨a,b,c,d.mono he⟩⟩
theorem OR.mono {μ μ' w w' i o}(he:Ext μ μ')(hb:∀ x,μ i=some x->w'.heap[x.b]? = w.heap[x.b]?)(h:OR μ w i o):OR μ' w' i o:=by
 cases o with
 |dead=>trivial
 |cells ro t c=>obtain⟨x,vs,fr,h1,h2,h3,h4,h5,h6,h7⟩:=h;exact⟨x,vs,fr,he _ _ h1,by rw[hb x h1];exact h2,h3,h4,h5,h6,fun j v e=>let ⟨u,a,b⟩:=h7 j v e;⟨u,a,b.mono he⟩⟩
 |map es clock=>obtain⟨x,ents,h1,h2,h3⟩:=h;exact⟨x,ents,he _ _ h1,by rw[hb x h1];exact h2,h3.mono he⟩
 |siter s pos=>obtain⟨x,S,h1,h2,h3,h4⟩:=h;exact⟨x,S,he _ _ h1,h2,by rw[hb x h1];exact h3,h4⟩
 |miter j since seen st=>obtain⟨x,y,h1,h2,h3,h4⟩:=h;exact⟨x,y,he _ _ h1,h2,he _ _ h3,by rw[hb x h1];exact h4⟩
 |loop F dp nt ps as bo st pend=>obtain⟨x,r,h1,h2,h3,h4,h5,h6,h7⟩:=h;exact⟨x,r,he _ _ h1,by rw[hb x h1];exact h2,h3,h4,h5,h6.mono he,h7⟩
section
variable {P:Program} {μ:Mu} {dp nt:Nat} {F:T Value} {a:Act} {w w':World} {m m':M}
theorem Hp.idlt (h:Hp P μ m w){i x}(e:μ i=some x):i<m.next:=by
 rcases Nat.lt_or_ge i m.next with h1|h1
 . exact h1
 . rw[h.fresh i h1]at e;cases e
theorem Hp.idroom (h:Hp P μ m w){i x}(e:μ i=some x):i<4 ^ hd:=Nat.lt_trans (Nat.lt_of_lt_of_le (h.idlt e) h.room) qwl
theorem Hp.upd (h:Hp P μ m w){μ' j o x}(hμ:μ' j=some x)(hμo:∀ q,q≠j->μ' q=μ q)(hext:Ext μ μ')(hj:j<m'.next)(hnx:m.next<=m'.next)(hnx':m'.next<=max m.next (j+1))(hroom:m'.next<=hdN)(hat:∀ q,q<4 ^ hd->q≠j->m'.at q=m.at q\/m'.at q=.dead)(hatj:m'.at j=o)(free:∀ q y,q≠j->lv (m'.at q)=true->μ q=some y->y.b≠x.b)(hown:(∃ i y,wr (m.at i)=true/\μ i=some y/\y.b=x.b)\/w.heap.size<=x.b)(heap:∀ b,b≠x.b->b<w.heap.size->w'.heap[b]? = w.heap[b]?)(size:w.heap.size<=w'.heap.size)(hxb:x.b<w'.heap.size)(ho:OR μ' w' j o)(out:w'.os=w.os/\w'.output=w.output)(hroot:qxx P o=true->x.o=0)(hjn:j<m.next->μ' j=μ j):
  Hp P μ' m' w'/\Gn μ m w μ' m' w':=by
 have hfresh:∀ q,m'.next<=q->μ' q=none:=fun q hq=>by rw[hμo q (by omega)];exact h.fresh q (by omega)
 have idroom:∀ q y,μ' q=some y->q<4 ^ hd:=fun q y e=>by
  rcases Nat.lt_or_ge q m'.next with h1|h1
  . exact Nat.lt_trans (Nat.lt_of_lt_of_le h1 hroom) qwl
  . rw[hfresh q h1]at e;cases e
 have hrt:Rt P μ' m':=fun q y e hr=>by
  by_cases hq:q=j
  . subst hq;rw[hμ]at e;cases e;rw[hatj]at hr;exact hroot hr
  . rcases hat q (idroom q y e) hq with h1|h1
    . rw[h1]at hr;rw[hμo q hq]at e;exact h.root q y e hr
    . rw[h1]at hr;cases hr
 refine⟨⟨fun q y e=>?_,hfresh,hroom,hrt,fun q y e=>?_,fun p q y z hne hp hq ep eq=>?_⟩,⟨hext,hnx,size,fun b hb hn=>?_,fun q y hw e=>?_,out,fun q hq=>?_⟩⟩
 .
  by_cases hq:q=j
  . subst hq;rw[hatj];exact ho
  .
   rw[hμo q hq]at e;rcases hat q (h.idroom e) hq with h1|h1
   .
    rw[h1];cases hl:lv (m.at q)with
    |false=>
     have:m.at q=.dead:=by cases hm:m.at q<;>first|rfl|(rw[hm]at hl;cases hl)
     rw[this];trivial
    |true=>refine(h.obj q y e).mono hext fun z ez=>?_;rw[e]at ez;cases ez;exact heap y.b (free q y hq (by rw[h1];exact hl) e) (h.lt q y e)
   . rw[h1];trivial
 .
  by_cases hq:q=j
  . subst hq;rw[hμ]at e;cases e;exact hxb
  . rw[hμo q hq]at e;exact Nat.lt_of_lt_of_le (h.lt q y e) size
 .
  by_cases hpj:p=j
  . subst hpj;have hqj:q≠p:=fun e=>hne e.symm;rw[hμ]at ep;cases ep;rw[hμo q hqj]at eq;exact fun e=>free q z hqj hq eq e.symm
  .
   by_cases hqj:q=j
   . subst hqj;rw[hμ]at eq;cases eq;rw[hμo p hpj]at ep;exact free p y hpj hp ep
   .
    have lp:lv (m.at p)=true:=by
     rcases hat p (idroom p y ep) hpj with h1|h1
     . rw[<- h1];exact hp
     . rw[h1]at hp;cases hp
    have lq:lv (m.at q)=true:=by
     rcases hat q (idroom q z eq) hqj with h1|h1
     . rw[<- h1];exact hq
     . rw[h1]at hq;cases hq
    rw[hμo p hpj]at ep;rw[hμo q hqj]at eq;exact h.inj p q y z hne lp lq ep eq
 .
  refine heap b (fun e=>?_) hb;rcases hown with⟨i,y,h1,h2,h3⟩|hge
  . exact hn i y h1 h2 (by omega)
  . omega
 .
  by_cases hq:q=j
  . subst hq;rw[hμ]at e;cases e;exact hown
  . rcases hat q (idroom q y e) hq with h1|h1
    . rw[h1]at hw;rw[hμo q hq]at e;exact .inl ⟨q,y,hw,e,rfl⟩
    . rw[h1]at hw;cases hw
 .
  by_cases hqj:q=j
  . subst hqj;exact hjn hq
  . exact hμo q hqj
def Mu.set (μ:Mu)(j:Nat)(x:Lc):Mu:=fun q=>if q=j then some x else μ q
theorem Mu.set_same (μ:Mu)(j)(x):(μ.set j x) j=some x:=by simp[Mu.set]
theorem Mu.set_other (μ:Mu){j q}(x)(h:q≠j):(μ.set j x) q=μ q:=by simp[Mu.set,h]
theorem Mu.set_ext {μ j}(x)(h:μ j=none):Ext μ (μ.set j x):=fun q y e=>by
 by_cases hq:q=j
 . subst hq;rw[h]at e;cases e
 . rw[Mu.set_other μ x hq];exact e
theorem Hp.new (h:Hp P μ m w)(hn:m.next<hdN){o x}(hx:x.b=w.heap.size)(hsz:w'.heap.size=w.heap.size+1)(heap:∀ b,b<w.heap.size->w'.heap[b]? = w.heap[b]?)(ho:OR (μ.set m.next x) w' m.next o)(out:w'.os=w.os/\w'.output=w.output)(hroot:qxx P o=true->x.o=0):Hp P (μ.set m.next x) (m.push o) w'/\Gn μ m w (μ.set m.next x) (m.push o) w':=by
 refine h.upd (j:=m.next) (o:=o) (Mu.set_same μ _ x) (fun q hq=>Mu.set_other μ x hq) (Mu.set_ext x (h.fresh _ (Nat.le_refl _))) (by simp) (by simp) (by simp) (by simp;omega)
  (fun q hq hne=>.inl (M.at_push_other m q o (Nat.lt_trans hn qwl) hq hne)) (M.at_push_same m o) (fun q y hne _ e=>?_) (.inr (by omega)) (fun b _ hb=>heap b hb) (by omega) (by omega) ho out hroot (fun h=>absurd h (Nat.lt_irrefl _))
 have:=h.lt q y e;omega
theorem Hp.put (h:Hp P μ m w){i x}(hx:μ i=some x)(hw:wr (m.at i)=true){o}(hsz:w'.heap.size=w.heap.size)(heap:∀ b,b≠x.b->w'.heap[b]? = w.heap[b]?)(ho:OR μ w' i o)(out:w'.os=w.os/\w'.output=w.output)(hroot:qxx P o=true->qxx P (m.at i)=true):Hp P μ (m.setA i o) w'/\Gn μ m w μ (m.setA i o) w':=by
 have hi:=h.idroom hx;refine h.upd (j:=i) (o:=o) hx (fun _ _=>rfl) (.refl μ) (by simp;exact h.idlt hx) (by simp) (by simp;omega) (by simp;exact h.room)
  (fun q hq hne=>.inl (M.at_setA_other m i q o hi hq hne)) (M.at_setA_same m i o) (fun q y hne hl e=>?_) (.inl ⟨i,x,hw,hx,rfl⟩) (fun b hb _=>heap b hb) (by omega) (by have:=h.lt i x hx;omega) ho out (fun hr=>h.root i x hx (hroot hr)) (fun _=>rfl)
 rw[M.at_setA_other m i q o hi (h.idroom e) hne]at hl;exact h.inj q i y x hne hl (qEd hw) e hx
theorem Hp.take (h:Hp P μ m w)(hn:m.next<hdN){i x x'}(hx:μ i=some x)(hw:wr (m.at i)=true)(hb:x'.b=x.b){o}(hsz:w'.heap.size=w.heap.size)(heap:∀ b,b≠x.b->w'.heap[b]? = w.heap[b]?)(ho:OR (μ.set m.next x') w' m.next o)(out:w'.os=w.os/\w'.output=w.output)(hroot:qxx P o=false):
  Hp P (μ.set m.next x') ((m.setA i .dead).push o) w'/\Gn μ m w (μ.set m.next x') ((m.setA i .dead).push o) w':=by
 have hi:=h.idroom hx;have hin:=h.idlt hx;have hnr:m.next<4 ^ hd:=Nat.lt_trans hn qwl;have at_:∀ q,q<4 ^ hd->q≠m.next->((m.setA i .dead).push o).at q=if q=i then .dead else m.at q:=by
  intro q hq hne;rw[M.at_push_other (m.setA i .dead) q o hnr hq hne];by_cases hqi:q=i
  . subst hqi;rw[if_pos rfl,M.at_setA_same]
  . rw[if_neg hqi,M.at_setA_other m i q _ hi hq hqi]
 refine h.upd (j:=m.next) (o:=o) (Mu.set_same μ _ x') (fun q hq=>Mu.set_other μ x' hq) (Mu.set_ext x' (h.fresh _ (Nat.le_refl _))) (by simp) (by simp) (by simp) (by simp;omega)
  (fun q hq hne=>?_) (M.at_push_same _ o) (fun q y hne hl e=>?_) (.inl ⟨i,x,hw,hx,hb.symm⟩) (fun b hb' _=>heap b (by rw[<- hb];exact hb')) (by omega) (by have:=h.lt i x hx;omega) ho out (fun hr=>by rw[hroot]at hr;cases hr) (fun h=>absurd h (Nat.lt_irrefl _))
 .
  rw[at_ q hq hne];split
  . exact .inr rfl
  . exact .inl rfl
 .
  rw[at_ q (h.idroom e) hne]at hl;split at hl
  . cases hl
  . rename_i hqi;rw[hb];exact h.inj q i y x hqi hl (qEd hw) e hx
theorem Hp.drew (h:Hp P μ m w):Hp P μ m w.drew:=⟨fun i x e=>(h.obj i x e).mono (.refl μ) fun _ _=>rfl,h.fresh,h.room,h.root,h.lt,h.inj⟩
end
end E
end Go.Proofs.YtjnefcbeemkkeaaGreat
namespace Go.Proofs.YtjnefcbeemkkeaaGreat
namespace E
section
variable {P:Program} {μ:Mu} {dp nt:Nat} {F:T Value} {a:Act} {w w':World} {m m':M}
def Ran (P:Program)(μ:Mu)(m:M)(w:World)(s:Sem Next)(v:Value)(m':M):Prop:=∃ n V μ' w',s.run P w=.ok n w'/\(n=.value V\/(n=.skip/\V=Go.undef))/\R μ' v V/\Hp P μ' m' w'/\Gn μ m w μ' m' w'
theorem heap_alloc (w:World)(o)(b):(w.alloc o).heap[b]? = if b=w.heap.size then some o else w.heap[b]?:=by unfold World.alloc;simp only[Array.getElem?_push]
theorem size_alloc (w:World)(o):(w.alloc o).heap.size=w.heap.size+1:=by unfold World.alloc;exact Array.size_push ..
theorem qvf {o f v}(e:newC o f m=.ret v m'):m.next<hdN/\v=f m.next/\m'=m.push o:=by
 unfold newC at e;rw[M.new_eq]at e;split at e
 . cases e;exact⟨by assumption,rfl,rfl⟩
 . cases e
theorem Hp.newCells (h:Hp P μ m w)(hn:m.next<hdN){t l vs}(hl:l.length<=vs.size)(h1:ones l)(hr:∀ (j:Nat) (v:Value),l[j]? = some v->∃ u,vs[j]? = some u/\R μ v u){w0:World}(h0:w0.heap=w.heap)(hos:w0.os=w.os/\w0.output=w.output){fr ro}(hfr:Fr ro fr l.length vs.size):
  Hp P (μ.set m.next ⟨w.heap.size,0,vs.size⟩) (m.push (.cells ro t l)) (w0.alloc (.cells vs t fr))/\Gn μ m w (μ.set m.next ⟨w.heap.size,0,vs.size⟩) (m.push (.cells ro t l)) (w0.alloc (.cells vs t fr)):=by
 refine h.new hn rfl (by rw[size_alloc,h0]) (fun b hb=>?_) ?_ hos (fun _=>rfl)
 . rw[heap_alloc,h0,if_neg (by omega)]
 . refine⟨⟨w.heap.size,0,vs.size⟩,vs,fr,Mu.set_same μ _ _,by rw[heap_alloc,h0,if_pos rfl],by simpa using hfr,rfl,by simpa using hl,h1,fun j v e=>?_⟩;obtain⟨u,a1,a2⟩:=hr j v e;exact⟨u,by simpa using a1,a2.mono (Mu.set_ext _ (h.fresh _ (Nat.le_refl _)))⟩
theorem RL.pre {l L}(h:RL μ l L.toList)(more:Array Value):∀ (j:Nat) (v:Value),l[j]? = some v->∃ u,(L++more)[j]? = some u/\R μ v u:=by
 intro j v e;obtain⟨V,h1,h2⟩:=h.get e;have h1:L[j]? = some V:=by simpa using h1
 refine⟨V,?_,h2⟩;rw[Array.getElem?_append_left (Array.getElem?_eq_some_iff.1 h1).1];exact h1
theorem RL.cell {l}{L:Array Value}(h:RL μ l L.toList):∀ (j:Nat) (v:Value),l[j]? = some v->∃ u,L[j]? = some u/\R μ v u:=by have:=h.pre #[];simpa using this
theorem RL.size {l}{L:Array Value}(h:RL μ l L.toList):l.length=L.size:=by have:=h.1;simpa using this
theorem qeI (h:Hp P μ m w){t v}(e:(loud P dp (.alloc t)).f F m=.ret v m')(dst ty pos after)(guard):
  Ran P μ m w (execOp a.eval ⟨dst,.alloc t,ty,pos,after,guard⟩) v m':=by
 unfold loud at e;simp only at e;split at e
 .
  rename_i z hz;obtain⟨z1,z2,_,zz,z3,z4⟩:=qyD hz;simp only[appF_eq,List.append_nil]at e;obtain⟨hn,rfl,rfl⟩:=qvf e;obtain⟨p1,p2⟩:=h.newCells (t:=t) (l:=z) (vs:=zz.cells) (fr:=(0,0)) (w0:=w) hn (by rw[<- z3];simp) (qwE z1) (RL.cell (by rw[z3];exact qv8 z1)) rfl ⟨rfl,rfl⟩ (.inl rfl);refine⟨.value (.pointer (some ⟨w.heap.size,0,none⟩)),_,_,_,?_,.inl rfl,?_,p1,p2⟩
  . simp[execOp,Instr.alloc,z4,newVar,newRow]
  . exact .ptr m.next 0 ⟨w.heap.size,0,zz.cells.size⟩ (Mu.set_same μ _ _)
 . cases e
theorem qhH (h:Hp P μ m w)(hF:RF μ dp nt F a.tmps)(hG:Gl P μ){t x v}(e:(loud P dp (.box t x)).f F m=.ret v m')(dst ty pos after)(guard):
  Ran P μ m w (execOp a.eval ⟨dst,.box t x,ty,pos,after,guard⟩) v m':=by
 unfold loud at e;obtain⟨u,hu,hr⟩:=zf hF hG x;simp only[hu,cellsF_eq]at e;split at e
 .
  rename_i hok;obtain⟨hc,ho⟩:=hr.cells hok;obtain⟨hn,rfl,rfl⟩:=qvf e;obtain⟨p1,p2⟩:=h.newCells (t:=t) (l:=u.cells.toList) (vs:=(a.eval x).cells) (fr:=(0,0)) (w0:=w) hn (by rw[hc.size];exact Nat.le_refl _) ho hc.cell rfl ⟨rfl,rfl⟩ (.inl rfl);refine⟨.value (.pointer (some ⟨w.heap.size,0,none⟩)),_,_,_,?_,.inl rfl,?_,p1,p2⟩
  . simp[execOp,Instr.box,newVar,newRow]
  . exact .ptr m.next 0 ⟨w.heap.size,0,(a.eval x).cells.size⟩ (Mu.set_same μ _ _)
 . cases e
theorem qwG (z n)(c):zeros z n c=c (List.replicate n z).flatten:=by
 unfold zeros
 induction n generalizing c with
 |zero=>rfl
 |succ n ih=>rw[rN_succ,ih];simp[List.replicate_succ]
theorem qf9 (b:Array Value)(n k)(ha:b.size=n)(hn:0<n):
  ((Array.range (k*n)).map (fun i=>b[i % b.size]!)).toList=(List.replicate k b.toList).flatten:=by
 rw[Array.toList_map,Array.toList_range,ha]
 induction k with
 |zero=>simp
 |succ k ih=>
  rw[Nat.succ_mul,Nat.add_comm,List.range_add,List.map_append,List.replicate_succ,List.flatten_cons,<- ih,List.map_map];congr 1
  . apply List.ext_getElem?;intro i;simp only[List.getElem?_map,Array.getElem?_toList];by_cases hi:i<n
    . simp[hi,Nat.mod_eq_of_lt hi,ha]
    . simp[hi,ha]
  . apply List.map_congr_left;intro i _;simp
theorem qwY {z}(hz:z.all sc=true)(n):RL μ (List.replicate n z).flatten (List.replicate n z).flatten/\ones (List.replicate n z).flatten:=by
 have:(List.replicate n z).flatten.all sc=true:=by rw[List.all_flatten];simp[hz]
 exact⟨qv8 this,qwE this⟩
theorem qas (h:Hp P μ m w)(hF:RF μ dp nt F a.tmps)(hG:Gl P μ){t n ps v}(e:(loud P dp (.buildSlice t n ps)).f F m=.ret v m')(dst ty pos after)(guard):
  Ran P μ m w (execOp a.eval ⟨dst,.buildSlice t n ps,ty,pos,after,guard⟩) v m':=by
 unfold loud at e;simp only at e;split at e
 .
  rename_i el hel;have hu:P.underlying t=some (.slice el)/\okT P el=true:=by
   unfold qyh at hel;split at hel
   . rename_i e' hu;simp only[bi_eq]at hel;split at hel
     . rename_i hok;cases hel;exact⟨hu,hok⟩
     . cases hel
   . cases hel
  unfold bslQ at e;split at e
  . cases e
  rename_i z hz;obtain⟨z1,z2,_,zz,z3,z4⟩:=qyD hz;simp only[bi_eq,ve]at e;split at e
  . cases e
  rename_i hroom;have hroom:n*szT P el<=1048576:=by simpa [room]using hroom
  simp only[qwG]at e;split at e
  .
   rename_i v0 hv0;obtain⟨f1,f2⟩:=qwY (μ:=μ) z1 n;obtain⟨l',L',g1,g2,g3,g4,g5⟩:=qv4 hF hG ps.toList _ _ hv0 f1 f2;cases g4;simp only[qwx,natF_eq]at e;obtain⟨hn,rfl,rfl⟩:=qvf e;have hlen:l'.length=n*szT P el:=by rw[g5,List.length_flatten];simp[z2]
   have g2':RL μ l' (⟨L'⟩:Array Value).toList:=g2;obtain⟨p1,p2⟩:=h.newCells (t:=el) (l:=l') (vs:=⟨L'⟩) (fr:=(0,0)) (w0:=w) hn (by rw[g2'.size];exact Nat.le_refl _) g3 g2'.cell rfl ⟨rfl,rfl⟩ (.inl rfl);refine⟨.value (.slice (some ⟨w.heap.size,0,none⟩) n n),_,_,_,?_,.inl rfl,?_,p1,p2⟩
   .
    have h24:¬ (n*szT P el>2 ^ 24):=by omega
    have hf2:Instr.fill (fun i=>some (i*szT P el,szT P el)) ⟨(List.replicate n z).flatten⟩ (ps.toList.map fun x=>(x.1,a.eval x.2))=some ⟨L'⟩:=g1;have hps:(ps.map fun x=>(x.1,a.eval x.2)).toList=ps.toList.map fun x=>(x.1,a.eval x.2):=Array.toList_map;by_cases h0:n*szT P el=0
    . have hcells:(Array.range (n*szT P el)).map (fun i=>(#[]:Array Value)[i % (#[]:Array Value).size]!)=⟨(List.replicate n z).flatten⟩:=by
       apply Array.ext';have:(List.replicate n z).flatten=[]:=by apply List.length_eq_zero_iff.1;rw[List.length_flatten];simp[z2,h0]
       rw[this,h0];simp
      simp only[execOp,Instr.buildSlice,Sem.run_bind,run_underlying hu.1,Result.andThen_ok,run_sizeOf (quZ hu.2),h24,if_false,h0,if_true,Sem.run_pure,pure_bind];rw[h0]at hcells;rw[hcells,hps,hf2];simp[newRow]
    . have hcells:(Array.range (n*szT P el)).map (fun i=>zz.cells[i % zz.cells.size]!)=⟨(List.replicate n z).flatten⟩:=by
       apply Array.ext';have hsz:zz.cells.size=szT P el:=by rw[<- z2,<- z3];simp
       have hpos:0<szT P el:=Nat.pos_of_ne_zero fun h=>h0 (by rw[h];simp);rw[qf9 zz.cells (szT P el) n hsz hpos,z3]
      simp only[execOp,Instr.buildSlice,Sem.run_bind,run_underlying hu.1,Result.andThen_ok,run_sizeOf (quZ hu.2),h24,if_false,h0,z4,Sem.run_pure];rw[hcells,hps,hf2];simp[newRow]
   . refine .sl m.next 0 n (szT P el) ⟨w.heap.size,0,L'.length⟩ n (Mu.set_same μ _ _) (Nat.le_refl _) ?_;have:=g2.1;simp;omega
  . cases e
 . cases e
end
end E
end Go.Proofs.YtjnefcbeemkkeaaGreat
namespace Go.Proofs.YtjnefcbeemkkeaaGreat
namespace E
section
variable {P:Program} {μ:Mu} {dp nt:Nat} {F:T Value} {a:Act} {w w':World} {m m':M}
theorem qxQ {t el}(h:qyh P t=some el):P.underlying t=some (.slice el)/\okT P el=true:=by
 unfold qyh at h;split at h
 .
  rename_i e' hu;simp only[bi_eq]at h;split at h
  . rename_i hok;cases h;exact⟨hu,hok⟩
  . cases h
 . cases h
theorem heap_setCell {w:World}{b i vs T fr}(h:w.heap[b]? = some (.cells vs T fr))(u)(b'):
  (w.setCell ⟨b,i,none⟩ u).heap[b']? = if b'=b then some (.cells (vs.setIfInBounds i u) T fr)else w.heap[b']?:=by
 unfold World.setCell;simp only[Array.getElem?_modify,Option.isSome_none,Bool.false_eq_true,if_false];by_cases e:b=b'
 . subst e;simp[h]
 . rw[if_neg e,if_neg (fun e'=>e e'.symm)]
theorem size_setCell (w:World)(x)(u):(w.setCell x u).heap.size=w.heap.size:=by unfold World.setCell;exact Array.size_modify ..
theorem size_setCells (b):∀ (news:List Value) (o:Nat) (w:World),(w.setCells b o news).heap.size=w.heap.size
 |[],_,_=>rfl
 |v::news,o,w=>by rw[World.setCells,size_setCells b news,size_setCell]
theorem qv0 (b):∀ (news:List Value) (o:Nat) (w:World),(w.setCells b o news).os=w.os/\(w.setCells b o news).output=w.output
 |[],_,w=>⟨rfl,rfl⟩
 |v::news,o,w=>by rw[World.setCells];exact qv0 b news (o+1) _
theorem XK {b T fr}:∀ (news:List Value) (o:Nat) (w:World) (vs:Array Value),w.heap[b]? = some (.cells vs T fr)->o+news.length<=vs.size ->
  ∃ vs',(w.setCells b o news).heap[b]? = some (.cells vs' T fr)/\vs'.size=vs.size/\(∀ j,(j<o\/o+news.length<=j)->vs'[j]? = vs[j]?)/\(∀ j,j<news.length->vs'[o+j]? = news[j]?) /\
   ∀ b',b'≠b->(w.setCells b o news).heap[b']? = w.heap[b']?
 |[],o,w,vs,h,_=>⟨vs,h,rfl,fun _ _=>rfl,fun j hj=>by simp at hj,fun _ _=>rfl⟩
 |v::news,o,w,vs,h,hl=>by
  simp only[List.length_cons]at hl;have h1:=heap_setCell h v (i:=o);obtain⟨vs',a1,a2,a3,a4,a5⟩:=XK news (o+1) (w.setCell ⟨b,o,none⟩ v) (vs.setIfInBounds o v) (by rw[h1,if_pos rfl]) (by simp;omega);refine⟨vs',a1,by rw[a2];simp,fun j hj=>?_,fun j hj=>?_,fun b' hb=>?_⟩
  . simp only[List.length_cons]at hj;rw[a3 j (by omega),Array.getElem?_setIfInBounds,if_neg (by omega)]
  . cases j with
    |zero=>rw[Nat.add_zero,a3 o (by omega),Array.getElem?_setIfInBounds,if_pos rfl,if_pos (by omega)];rfl
    |succ j=>simp only[List.length_cons]at hj;have:=a4 j (by omega);rw[show o+(j+1)=o+1+j from by omega,this];rfl
  . rw[World.setCells,a5 b' hb,h1,if_neg hb]
theorem one_cell' {v}(h:one? v=true):v.oneCell'=true:=by cases v<;>first|rfl|cases h
theorem Hp.write (h:Hp P μ m w){i ro}(hro:ro≠1){t c}(hc:m.at i=.cells ro t c){x}(hx:μ i=some x){k news NS}(hr:RL μ news NS)(h1:ones news)(hk:k+news.length<=c.length):
  (storeCells ⟨x.b,x.o+k,none⟩ NS 0).run P w=.ok () (w.setCells x.b (x.o+k) NS) /\
  Hp P μ (m.setA i (.cells ro t (lay k news c))) (w.setCells x.b (x.o+k) NS)/\Gn μ m w μ (m.setA i (.cells ro t (lay k news c))) (w.setCells x.b (x.o+k) NS):=by
 have ho:=h.obj i x hx;rw[hc]at ho;obtain⟨x',vs,fr,o1,o2,o3,o4,o5,o6,o7⟩:=ho;rw[hx]at o1;cases o1;have hlen:=hr.1;obtain⟨vs',b1,b2,b3,b4,b5⟩:=XK NS (x.o+k) w vs o2 (by omega);refine⟨?_,?_⟩
 .
  have:=run_storeCells_cells (P:=P) x.b (x.o+k) NS 0 w (fun j hj=>by
   have:x.o+k+j<vs.size:=by omega
   simp[World.cell?,o2,this]) (fun j hj=>by
   have:=o3.free (k:=x.o+k+j) (.inl hro) (by omega);simp only[World.frozen?,o2,Nat.add_zero];simpa using this) (fun v hv=>one_cell' (hr.ones h1 v hv))
  simpa using this
 .
  refine h.put (x:=x) hx (by rw[hc];rfl) (size_setCells _ _ _ _) b5 ?_ (qv0 _ _ _ _) (fun hr=>by rw[hc];exact hr);refine⟨x,vs',fr,hx,b1,o3.mv (.inr hro),by rw[b2,o4],by rw[qAE hk];exact o5,h1.lay o6 k,fun j v e=>?_⟩;rw[qCo hk]at e;split at e
  . rename_i hj;obtain⟨V,hV,hR⟩:=hr.get e;refine⟨V,?_,hR⟩;have:=b4 (j-k) (by rw[<- hlen];omega);rw[show x.o+k+(j-k)=x.o+j by omega]at this;rw[this,hV]
  . rename_i hj;obtain⟨u,hu,hR⟩:=o7 j v e;refine⟨u,?_,hR⟩;rw[b3 (x.o+j) (by omega),hu]
theorem Does.ran {s v n V μ'}(h:s.run P w=.ok n w')(hn:n=.value V\/(n=.skip/\V=Go.undef))(hr:R μ' v V)(hp:Hp P μ' m' w')(hg:Gn μ m w μ' m' w'):Ran P μ m w s v m':=⟨n,V,μ',w',h,hn,hr,hp,hg⟩
theorem qeW (h:Hp P μ m w)(hF:RF μ dp nt F a.tmps)(hG:Gl P μ){t x y v}(e:(loud P dp (.store t x y)).f F m=.ret v m')(dst ty pos after)(guard):
  Ran P μ m w (execOp a.eval ⟨dst,.store t x y,ty,pos,after,guard⟩) v m':=by
 unfold loud at e;obtain⟨p,hp,hpr⟩:=zf hF hG x;obtain⟨q,hq,hqr⟩:=zf hF hG y;simp only[bi_eq,ve]at e;by_cases hokt:okT P t=true
 case neg=>simp[hokt]at e;cases e
 simp only[hokt,Bool.not_true,Bool.false_eq_true,if_false,hp,hq]at e;unfold qvT at e;simp only[qu5,M.cells_eq,bi_eq,cellsF_eq,lenF_eq,layF_eq,M.put_eq]at e;split at e
 .
  rename_i ad;obtain⟨_,z,hz,hV⟩:=hpr.ptrI;split at e
  .
   rename_i ro t' c hc;split at e
   . cases e
   .
    rename_i hro;have hro:ro≠1:=by simpa using hro
    split at e
    .
     rename_i hok;obtain⟨c1,c2⟩:=hqr.cells hok;split at e
     . rename_i hsz;have hsz:q.cells.toList.length=szT P t:=Nat.eq_of_beq_eq_true hsz;split at e
       . rename_i hk;cases e;obtain⟨r1,r2,r3⟩:=h.write (P:=P) hro hc hz (k:=ad.off) c1 c2 hk;have hsize:(a.eval y).cells.size=szT P t:=by rw[<- c1.size];exact hsz
         have hinfo:=quZ hokt;refine Does.ran (n:=.skip) (V:=Go.undef) ?_ (.inr ⟨rfl,rfl⟩) .undef r2 r3;simp[execOp,Instr.storeAt,Instr.sureAddr,hV,storeVar,run_sizeOf hinfo,hsize,r1]
       . cases e
     . cases e
    . cases e
  . cases e
 . cases e
theorem qcE (h:Hp P μ m w){t v}(e:(loud P dp (.makeMap t none)).f F m=.ret v m')(dst ty pos after)(guard):
  Ran P μ m w (execOp a.eval ⟨dst,.makeMap t none,ty,pos,after,guard⟩) v m':=by
 unfold loud at e;simp only at e;obtain⟨hn,rfl,rfl⟩:=qvf e;have hset:=Mu.set_same μ m.next ⟨w.heap.size,0,0⟩;obtain⟨p1,p2⟩:=h.new (w':=w.alloc (.map #[] 0)) hn (o:=.map [] 0) (x:=⟨w.heap.size,0,0⟩) rfl (size_alloc _ _) (fun b hb=>by rw[heap_alloc,if_neg (by omega)])
  ⟨_,#[],hset,by rw[heap_alloc,if_pos rfl],rfl,by simp⟩ ⟨rfl,rfl⟩ (fun hr=>by cases hr)
 refine Does.ran (n:=.value (.map (some w.heap.size))) (V:=.map (some w.heap.size)) ?_ (.inl rfl) (.map _ _ hset) p1 p2;simp[execOp,Instr.makeMap]
theorem qyv {d k K V v}(hd:keyD d k)(hk:K=k)(hsc:qvq k=true)(hv:R μ v V){clock}:∀ (es es':List MapEntry) (i:Nat) {β:Type} {c:List MapEntry->Bool->β} {no:β} {r:β},no≠r->putE k v clock es c no=r->RE μ es es' ->
  ∃ es2 b,c es2 b=r/\((b=true/\Instr.findNow d k es' i=some none/\RE μ es2 (es'++[⟨k,V,clock⟩])) \/
   ∃ n u,b=false/\Instr.findNow d k es' i=some (some (i+n,u))/\(es'[n]?).map (·.key)=some k/\RE μ es2 (es'.modify n fun e=>{ e with key:=k,val:=V }))
 |[],es',i,β,c,no,r,hno,e,h=>by have:=h.nil_inv;subst this;exact⟨_,true,e,.inl ⟨rfl,rfl,.cons rfl hsc rfl hv ⟨rfl,by simp⟩⟩⟩
 |x::es,es',i,β,c,no,r,hno,e,h=>by
  obtain⟨x',q,rfl,h1,h2,h3,h4,h5⟩:=h.cons_inv;unfold putE at e;rw[rL_cons]at e;split at e
  .
   rename_i hk';have hkk:=qzT hk';refine⟨_,false,e,.inr ⟨0,x'.val,rfl,?_,?_,?_⟩⟩
   . simp only[Instr.findNow,h1,qwD hd hk',Nat.add_zero]
   . simp[h1,hkk]
   . simp only[List.modify_zero_cons];exact .cons rfl hsc h3 hv h5
  .
   rename_i hk';obtain⟨es2,b,b1,b2⟩:=qyv hd hk hsc hv es q (i+1) (c:=fun es b=>c (x::es) b) (no:=no) hno e h5;refine⟨x::es2,b,b1,?_⟩;rcases b2 with⟨rfl,f1,f2⟩|⟨n,u,rfl,f1,f2,f3⟩
   . refine .inl ⟨rfl,?_,.cons h1 h2 h3 h4 f2⟩;simpa only[Instr.findNow,h1,qwD hd hk']using f1
   . refine .inr ⟨n+1,u,rfl,?_,by simpa using f2,?_⟩
     . rw[show i+(n+1)=i+1+n by omega];simpa only[Instr.findNow,h1,qwD hd hk']using f1
     . rw[List.modify_succ_cons];exact .cons h1 h2 h3 h4 f3
  . exact absurd e hno
theorem qAZ {d k}(hd:keyD d k):Instr.sameBits 10000 k k=true:=by
 unfold keyD at hd;split at hd
 . simp[Instr.sameBits]
 . rename_i s;simp only[Instr.sameBits];show(s.data==s.data)=true;simp
 . simp[Instr.sameBits]
 . exact hd.elim
theorem qyo (h:Hp P μ m w)(hF:RF μ dp nt F a.tmps)(hG:Gl P μ){t kt et}(hm:mapT P t=some (kt,et)){x k y X K Y v}(e:mapR P kt x k y m=.ret v m')(hx:R μ x X)(hk:R μ k K)(hy:R μ y Y):
  ∃ w',(Instr.mapUpdate t X K Y).run P w=.ok () w'/\v=undef/\Hp P μ m' w'/\Gn μ m w μ m' w':=by
 have hu:=qxU hm;unfold mapR at e;simp only[bi_eq]at e;by_cases hko:(qdG P kt).f k=true
 case neg=>rw[if_neg hko]at e;cases e
 rw[if_pos hko]at e;obtain⟨d,hd,hkd,hsc⟩:=qzq hko;have:=hk.scI hsc;subst this;rw[qvR]at e;split at e
 . cases e
 .
  rename_i i;obtain⟨z,hz,rfl⟩:=hx.mapI;simp only[M.get_eq,qvh]at e;split at e
  .
   rename_i es clock hes;have ho:=h.obj i z hz;rw[hes]at ho;obtain⟨z',ents,o1,o2,o3⟩:=ho;rw[hz]at o1;cases o1;obtain⟨es2,b,b1,b2⟩:=qyv hkd rfl (qBC hsc) hy (clock:=clock) es ents.toList 0 (by intro h;cases h) e o3;simp only[natF_eq,M.put_eq]at b1;cases b1;have hb:z.b<w.heap.size:=h.lt i z hz;have step:∀ (ents':Array MapEntry) (clock':Nat),(b=true->clock'=clock+1)->(b=false->clock'=clock)->RE μ es2 ents'.toList ->
     (Instr.mapUpdate t (.map (some z.b)) K Y).run P w=.ok () { w with heap:=w.heap.setIfInBounds z.b (.map ents' clock') } ->
     ∃ w',(Instr.mapUpdate t (.map (some z.b)) K Y).run P w=.ok () w'/\undef=undef/\Hp P μ (m.setA i (.map es2 (if b=true then clock.succ else clock))) w'/\Gn μ m w μ (m.setA i (.map es2 (if b=true then clock.succ else clock))) w':=by
    intro ents' clock' c1 c2 hre run;have hc:clock'=(if b=true then clock.succ else clock):=by cases b<;>simp[c1,c2]
    subst hc;obtain⟨p1,p2⟩:=h.put (w':={ w with heap:=w.heap.setIfInBounds z.b (.map ents' (if b=true then clock.succ else clock)) }) (x:=z) hz (by rw[hes];rfl) (o:=.map es2 (if b=true then clock.succ else clock)) (by simp)
     (fun b' hb'=>by simp only[Array.getElem?_setIfInBounds];rw[if_neg (fun e=>hb' e.symm)]) ⟨z,ents',hz,by simp[hb],hre⟩ ⟨rfl,rfl⟩ (fun hr=>by cases hr)
    exact⟨_,run,rfl,p1,p2⟩
   rcases b2 with⟨rfl,f1,f2⟩|⟨n,u,rfl,f1,f2,f3⟩
   . refine step (ents.push ⟨K,Y,clock⟩) (clock+1) (fun _=>rfl) (fun h=>by cases h) (by simpa using f2) ?_;have hf:(Instr.findKey kt K ents.toList).run P w=.ok none w:=by simp[Instr.findKey,run_underlying hd,f1]
     simp[Instr.mapUpdate,run_underlying hu,getObj,setObj,Sem.run,o2,run_checkKey hd hkd,hf]
   .
    refine step (ents.modify n fun e=>{ e with key:=K,val:=Y }) clock (fun h=>by cases h) (fun _=>rfl) (by simpa using f3) ?_;have hf:(Instr.findKey kt K ents.toList).run P w=.ok (some (n,u)) w:=by
     have f1':Instr.findNow d K ents.toList 0=some (some (n,u)):=by simpa using f1
     simp[Instr.findKey,run_underlying hd,f1']
    have hkey:((ents[n]?).map (·.key)).getD K=K:=by
     have:(ents[n]?).map (·.key)=some K:=by simpa using f2
     rw[this];rfl
    have hstay:(Instr.keyThatStays K K).run P w=.ok K w:=by simp[Instr.keyThatStays,qAZ hkd]
    simp only[Instr.mapUpdate,Sem.run_bind,run_underlying hu,Result.andThen_ok];simp[getObj,setObj,Sem.run,o2,run_checkKey hd hkd,hf,hkey,hstay]
  . cases e
 . cases e
theorem qgw {kt k V v}(hsc:qvq k=true)(hv:R μ v V){clock}:∀ (es es':List MapEntry) (i:Nat) {c:List MapEntry->Bool->CO} {no:CO} {r:CO},no≠r->putS P kt k v clock es c no=r->RE μ es es' ->
  ∃ es2 b,c es2 b=r/\((b=true/\(∀ w,(Instr.findAsking kt k es' i).run P w=.ok none w)/\RE μ es2 (es'++[⟨k,V,clock⟩])) \/
   ∃ n u old,b=false/\(∀ w,(Instr.findAsking kt k es' i).run P w=.ok (some (i+n,u)) w)/\(es'[n]?).map (·.key)=some old/\Instr.sameBits 10000 old k=true/\RE μ es2 (es'.modify n fun e=>{ e with key:=k,val:=V }))
 |[],es',i,c,no,r,hno,e,h=>by have:=h.nil_inv;subst this;exact⟨_,true,e,.inl ⟨rfl,fun w=>rfl,.cons rfl hsc rfl hv ⟨rfl,by simp⟩⟩⟩
 |x::es,es',i,c,no,r,hno,e,h=>by
  obtain⟨x',q,rfl,h1,h2,h3,h4,h5⟩:=h.cons_inv;unfold putS at e;rw[rL_cons]at e;split at e
  .
   rename_i hk';rw[bi_eq]at e;split at e
   . rename_i hsb;refine⟨_,false,e,.inr ⟨0,x'.val,x'.key,rfl,fun w=>?_,by simp,by rw[h1];exact hsb,?_⟩⟩
     . simp[Instr.findAsking,h1,(qxI hk').2.2]
     . simp only[List.modify_zero_cons];exact .cons rfl hsc h3 hv h5
   . exact absurd e hno
  .
   rename_i hk';obtain⟨es2,b,b1,b2⟩:=qgw hsc hv es q (i+1) (c:=fun es b=>c (x::es) b) (no:=no) hno e h5;have step:∀ w,(Instr.findAsking kt k (x'::q) i).run P w=(Instr.findAsking kt k q (i+1)).run P w:=fun w=>by simp[Instr.findAsking,h1,(qxI hk').2.2]
   refine⟨x::es2,b,b1,?_⟩;rcases b2 with⟨rfl,f1,f2⟩|⟨n,u,old,rfl,f1,f2,f4,f3⟩
   . exact .inl ⟨rfl,fun w=>by rw[step];exact f1 w,.cons h1 h2 h3 h4 f2⟩
   . refine .inr ⟨n+1,u,old,rfl,fun w=>?_,by simpa using f2,f4,?_⟩
     . rw[show i+(n+1)=i+1+n by omega,step];exact f1 w
     . rw[List.modify_succ_cons];exact .cons h1 h2 h3 h4 f3
  . exact absurd e hno
theorem qxA (h:Hp P μ m w){t kt et}(hm:mapT P t=some (kt,et))(hsk:sKey P kt=true){x k y X K Y v}(e:qCq P kt x k y m=.ret v m')(hx:R μ x X)(hk:R μ k K)(hy:R μ y Y):
  ∃ w',(Instr.mapUpdate t X K Y).run P w=.ok () w'/\v=undef/\Hp P μ m' w'/\Gn μ m w μ m' w':=by
 have hu:=qxU hm;obtain⟨fs,hfs⟩:=qza hsk;unfold qCq at e;simp only[bi_eq]at e;split at e
 case isFalse=>cases e
 rename_i hfl;have:=hk.flat1I hfl;subst this;rw[qvR]at e;split at e
 . cases e
 .
  rename_i i;obtain⟨z,hz,rfl⟩:=hx.mapI;simp only[M.get_eq,qvh]at e;split at e
  .
   rename_i es clock hes;have ho:=h.obj i z hz;rw[hes]at ho;obtain⟨z',ents,o1,o2,o3⟩:=ho;rw[hz]at o1;cases o1;split at e
   case isFalse=>cases e
   rename_i hck;have hck':=qy9 hck;obtain⟨es2,b,b1,b2⟩:=qgw (P:=P) (kt:=kt) hfl hy (clock:=clock) es ents.toList 0 (by intro h;cases h) e o3;simp only[natF_eq,M.put_eq]at b1;cases b1;have hb:z.b<w.heap.size:=h.lt i z hz;have step:∀ (ents':Array MapEntry) (clock':Nat),(b=true->clock'=clock+1)->(b=false->clock'=clock)->RE μ es2 ents'.toList ->
     (Instr.mapUpdate t (.map (some z.b)) K Y).run P w=.ok () { w with heap:=w.heap.setIfInBounds z.b (.map ents' clock') } ->
     ∃ w',(Instr.mapUpdate t (.map (some z.b)) K Y).run P w=.ok () w'/\undef=undef/\Hp P μ (m.setA i (.map es2 (if b=true then clock.succ else clock))) w'/\Gn μ m w μ (m.setA i (.map es2 (if b=true then clock.succ else clock))) w':=by
    intro ents' clock' c1 c2 hre run;have hc:clock'=(if b=true then clock.succ else clock):=by cases b<;>simp[c1,c2]
    subst hc;obtain⟨p1,p2⟩:=h.put (w':={ w with heap:=w.heap.setIfInBounds z.b (.map ents' (if b=true then clock.succ else clock)) }) (x:=z) hz (by rw[hes];rfl) (o:=.map es2 (if b=true then clock.succ else clock)) (by simp)
     (fun b' hb'=>by simp only[Array.getElem?_setIfInBounds];rw[if_neg (fun e=>hb' e.symm)]) ⟨z,ents',hz,by simp[hb],hre⟩ ⟨rfl,rfl⟩ (fun hr=>by cases hr)
    exact⟨_,run,rfl,p1,p2⟩
   rcases b2 with⟨rfl,f1,f2⟩|⟨n,u,old,rfl,f1,f2,f4,f3⟩
   . refine step (ents.push ⟨K,Y,clock⟩) (clock+1) (fun _=>rfl) (fun h=>by cases h) (by simpa using f2) ?_;have hf:(Instr.findKey kt K ents.toList).run P w=.ok none w:=by rw[qu8 hfs];exact f1 w
     simp[Instr.mapUpdate,run_underlying hu,getObj,setObj,Sem.run,o2,hck',hf]
   .
    refine step (ents.modify n fun e=>{ e with key:=K,val:=Y }) clock (fun h=>by cases h) (fun _=>rfl) (by simpa using f3) ?_;have hf:(Instr.findKey kt K ents.toList).run P w=.ok (some (n,u)) w:=by rw[qu8 hfs];have:=f1 w;simpa using this
    have hkey:((ents[n]?).map (·.key)).getD K=old:=by
     have:(ents[n]?).map (·.key)=some old:=by simpa using f2
     rw[this];rfl
    have hstay:(Instr.keyThatStays old K).run P w=.ok K w:=by simp[Instr.keyThatStays,f4]
    simp only[Instr.mapUpdate,Sem.run_bind,run_underlying hu,Result.andThen_ok];simp[getObj,setObj,Sem.run,o2,hck',hf,hkey,hstay]
  . cases e
 . cases e
theorem qAk {kt k}:∀ (es es':List MapEntry) (i:Nat) {c:List MapEntry->CO} {no:CO} {r:CO},no≠r->delS P kt k es c no=r->RE μ es es' ->
  ∃ es2,c es2=r/\(((∀ w,(Instr.findAsking kt k es' i).run P w=.ok none w)/\RE μ es2 es') \/
   ∃ n u,(∀ w,(Instr.findAsking kt k es' i).run P w=.ok (some (i+n,u)) w)/\RE μ es2 (es'.eraseIdx n))
 |[],es',i,c,no,r,hno,e,h=>⟨_,e,.inl ⟨fun w=>by rw[h.nil_inv];rfl,h⟩⟩
 |x::es,es',i,c,no,r,hno,e,h=>by
  obtain⟨x',q,rfl,h1,h2,h3,h4,h5⟩:=h.cons_inv;unfold delS at e;rw[rL_cons]at e;split at e
  . rename_i hk';refine⟨_,e,.inr ⟨0,x'.val,fun w=>?_,by simpa using h5⟩⟩;simp[Instr.findAsking,h1,(qxI hk').2.2]
  .
   rename_i hk';obtain⟨es2,b1,b2⟩:=qAk es q (i+1) (c:=fun es=>c (x::es)) (no:=no) hno e h5;have step:∀ w,(Instr.findAsking kt k (x'::q) i).run P w=(Instr.findAsking kt k q (i+1)).run P w:=fun w=>by simp[Instr.findAsking,h1,(qxI hk').2.2]
   refine⟨x::es2,b1,?_⟩;rcases b2 with⟨f1,f2⟩|⟨n,u,f1,f3⟩
   . exact .inl ⟨fun w=>by rw[step];exact f1 w,.cons h1 h2 h3 h4 f2⟩
   . refine .inr ⟨n+1,u,fun w=>?_,?_⟩
     . rw[show i+(n+1)=i+1+n by omega,step];exact f1 w
     . rw[List.eraseIdx_cons_succ];exact .cons h1 h2 h3 h4 f3
  . exact absurd e hno
theorem qzR (h:Hp P μ m w){t kt et}(hm:mapT P t=some (kt,et))(hsk:sKey P kt=true){x k X K v}(e:qB8 P kt x k m=.ret v m')(hx:R μ x X)(hk:R μ k K){ts ty}:
  ∃ w',(Builtin.delete_ ⟨t::ts⟩ ty #[X,K]).run P w=.ok Go.undef w'/\v=undef/\Hp P μ m' w'/\Gn μ m w μ m' w':=by
 have hu:=qxU hm;obtain⟨fs,hfs⟩:=qza hsk;unfold qB8 at e;simp only[bi_eq]at e;split at e
 case isFalse=>cases e
 rename_i hfl;have:=hk.flat1I hfl;subst this;rw[qvR]at e;split at e
 . cases e
 .
  rename_i i;obtain⟨z,hz,rfl⟩:=hx.mapI;simp only[M.get_eq,qvh]at e;split at e
  .
   rename_i es clock hes;have ho:=h.obj i z hz;rw[hes]at ho;obtain⟨z',ents,o1,o2,o3⟩:=ho;rw[hz]at o1;cases o1;split at e
   case isFalse=>cases e
   rename_i hck;have hck':=qy9 hck;rw[qBJ,<- o3.isEmpty]at hck';have hie:ents.toList.isEmpty=ents.isEmpty:=by cases ents with|mk l=>cases l<;>rfl
   rw[hie]at hck';obtain⟨es2,b1,b2⟩:=qAk (P:=P) (kt:=kt) es ents.toList 0 (by intro h;cases h) e o3;simp only[M.put_eq]at b1;cases b1;have hb:z.b<w.heap.size:=h.lt i z hz;have step:∀ (ents':Array MapEntry),RE μ es2 ents'.toList ->
     (Builtin.delete_ ⟨t::ts⟩ ty #[.map (some z.b),K]).run P w=.ok Go.undef { w with heap:=w.heap.setIfInBounds z.b (.map ents' clock) } ->
     ∃ w',(Builtin.delete_ ⟨t::ts⟩ ty #[.map (some z.b),K]).run P w=.ok Go.undef w'/\undef=undef/\Hp P μ (m.setA i (.map es2 clock)) w'/\Gn μ m w μ (m.setA i (.map es2 clock)) w':=by
    intro ents' hre run;obtain⟨p1,p2⟩:=h.put (w':={ w with heap:=w.heap.setIfInBounds z.b (.map ents' clock) }) (x:=z) hz (by rw[hes];rfl) (o:=.map es2 clock) (by simp)
     (fun b' hb'=>by simp only[Array.getElem?_setIfInBounds];rw[if_neg (fun e=>hb' e.symm)]) ⟨z,ents',hz,by simp[hb],hre⟩ ⟨rfl,rfl⟩ (fun hr=>by cases hr)
    exact⟨_,run,rfl,p1,p2⟩
   rcases b2 with⟨f1,f2⟩|⟨n,u,f1,f3⟩
   . refine step ents (by simpa using f2) ?_;have hf:(Instr.findKey kt K ents.toList).run P w=.ok none w:=by rw[qu8 hfs];exact f1 w
     simp[Builtin.delete_,run_underlying hu,getObj,setObj,Sem.run,o2,hck',hf];rfl
   . refine step (ents.eraseIdxIfInBounds n) (by simpa using f3) ?_;have hf:(Instr.findKey kt K ents.toList).run P w=.ok (some (n,u)) w:=by rw[qu8 hfs];have:=f1 w;simpa using this
     simp[Builtin.delete_,run_underlying hu,getObj,setObj,Sem.run,o2,hck',hf];rfl
  . cases e
 . cases e
end
end E
end Go.Proofs.YtjnefcbeemkkeaaGreat
