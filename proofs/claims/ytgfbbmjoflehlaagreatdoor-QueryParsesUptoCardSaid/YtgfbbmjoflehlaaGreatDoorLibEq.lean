/-
  The interpreter of the model's code over values, and its soundness: part 5 of 5. No claim stands here.
-/
import Derived.Test.YtgfbbmjoflehlaaGreatDoorLibDq
set_option linter.all false
namespace Go.Proofs.YtgfbbmjoflehlaaGreatDoor
namespace Ab
section
variable [Glob]
open Go.ChangeShapes Go.WideShapes Go.ChangeAt Go.RowKit
def qdf (P:Program)(T:List TypeId):Bool:=T.all fun t=>match P.underlying t with
 |some .bool|some (.int _)|some .string=>P.cellsOf t==1
 |some (.slice e)=>T.contains e&&decide (0<P.cellsOf e)&&P.cellsOf t==1
 |some (.struct fs)=>fs.toList.all fun f=>T.contains f.type
 |_=>false
def rowT (P:Program):Nat->List Field->Bool
 |_,[]=>true
 |o,f::fs=>f.offset==o&&rowT P (o+P.cellsOf f.type) fs
def qiW (P:Program)(T:List TypeId):Bool:=T.all fun t=>match P.underlying t with
 |some (.struct fs)=>rowT P 0 fs.toList&&P.cellsOf t==(fs.toList.map fun f=>P.cellsOf f.type).sum
 |_=>true
def ShT (P:Program)(B:Nat):Nat->TypeId->List Cell->Prop
 |0,_,_=>False
 |n+1,t,l=>match P.underlying t with
  |some .bool=>∃ b,l=[.val (.bool b)]
  |some (.int k)=>∃ x,l=[.val (.int k x)]/\k.min<=x/\x<=k.max
  |some .string=>∃ s:ByteArray,l=[.val (.string s)]/\s.size<=B
  |some (.slice e)=>∃ rows,l=[.imm rows]/\rows.length<=B/\∀ row∈rows,ShT P B n e row
  |some (.struct fs)=>∃ ls:List (List Cell),l=ls.flatten/\ls.length=fs.size/\∀ (i:Nat) f x,fs[i]? = some f->ls[i]? = some x->ShT P B n f.type x
  |_=>False
def qcf (im:Nat->Prop)(w:World)(l:List Cell)(cs:List Value):Prop:=l.length=cs.length/\∀ (o:Nat) c,l[o]? = some c->∃ u,cs[o]? = some u/\RelI im w c u
theorem qbO {β:Type}{f}:∀ {n:Nat} {r:List β},(List.range n).mapM f=some r->r.length=n/\∀ i,i<n->∃ y,f i=some y/\r[i]? = some y:=by
 intro n r h;have h1:=mapM_some_length h;rw[List.length_range]at h1;refine⟨h1,fun i hi=>?_⟩;have:=mapM_some_get h i i (by grind)
 grind
theorem qfQ {w:World}{base a n cs}(h:w.cells? base a n=some cs)(hn:0<n):
  cs.length=n/\a.spot=none/\∃ vs T fr,w.heap[a.block]? = some (.cells vs T fr)/\∀ j,j<n->vs[a.off+j]? = cs[j]?:=by
 unfold World.cells? at h;split at h
 .
  obtain⟨h1,h2⟩:=qbO h;obtain⟨y0,k1,k2⟩:=h2 0 hn;have hc:∀ j y,w.cell? (a.add j)=some y->∃ vs T fr,w.heap[a.block]? = some (.cells vs T fr)/\vs[a.off+j]? = some y:=by
   intro j y e;unfold World.cell? at e;have hb:(a.add j).block=a.block:=by unfold Addr.add;split<;>rfl
   have ho:(a.add j).off=a.off+j:=by unfold Addr.add;split<;>simp_all
   grind
  have hs:a.spot=none:=by
   unfold World.cell? at k1;rw[show a.add 0=a from by simp[Addr.add]]at k1;split at k1
   . simp_all
   grind
  grind
 grind
theorem qeM {im w v}(h:oneC v=true):qcf im w [.val v] [v]:=by
 refine⟨rfl,fun o c hc=>?_⟩;cases o with
 |zero=>simp only[aI,aa]at hc;subst hc;exact⟨_,rfl,.val _ h⟩
 |succ o=>grind
theorem YC {H}(d:DataW H):1<=Rows.uptoBulk d:=by
 cases d with
 |lit l=>cases l<;>simp[Rows.uptoBulk]
 |nil=>simp[Rows.uptoBulk]
 |ptr d=>simp[Rows.uptoBulk]
 |slice elems spare=>simp[Rows.uptoBulk]
 |agg parts=>simp[Rows.uptoBulk]
 |iface t d=>simp[Rows.uptoBulk]
 |map entries=>simp[Rows.uptoBulk]
 |held h=>simp[Rows.uptoBulk]
theorem qit {H d}{l:List (DataW H)}(h:d∈l):Rows.uptoBulk d<=Rows.uptoBulkAll l:=by
 induction l with
 |nil=>cases h
 |cons x r ih=>
  simp only[Rows.uptoBulkAll]
  grind
theorem qi4 {H}(l:List (DataW H)):l.length<=Rows.uptoBulkAll l:=by
 induction l with
 |nil=>grind
 |cons x r ih=>have:=YC x;simp only[Rows.uptoBulkAll,List.length_cons];omega
mutual
def wtC:Cell->Nat
 |.imm rows=>wtRs rows+1
 |_=>1
def wtL:List Cell->Nat
 |[]=>0
 |c::l=>wtC c+wtL l
def wtRs:List (List Cell)->Nat
 |[]=>0
 |l::r=>wtL l+wtRs r
end
theorem qgD (a b):wtL (a++b)=wtL a+wtL b:=by
 induction a with
 |nil=>simp[wtL]
 |cons c a ih=>simp only[List.cons_append,wtL,ih];omega
theorem qih {H}:∀ (rows:List (List Cell)) (ds:List (DataW H)),rows.length=ds.length->(∀ (i:Nat) r d,rows[i]? = some r->ds[i]? = some d->wtL r<=Rows.uptoBulk d)->wtRs rows<=Rows.uptoBulkAll ds
 |[],ds,_,_=>by simp[wtRs]
 |r::rows,[],h,_=>by simp at h
 |r::rows,d::ds,h,hp=>by have h1:=hp 0 r d rfl rfl;have h2:=qih rows ds (by simpa using h) (fun i r' d' e1 e2=>hp (i+1) r' d' (by simpa using e1) (by simpa using e2));simp only[wtRs,Rows.uptoBulkAll];omega
theorem YT {H enc P w base spare held T B}(hT:qdf P T=true)(hR:qiW P T=true):
  ∀ (n:Nat) (t:TypeId) (cs:List Value) (d:DataW H) (ps:List MemPlace),t∈T->DataW.trod enc P w base spare held n t cs=some (d,ps)->Rows.uptoBulk d<=B ->
   ∃ l,qcf (fun b=>b<w.heap.size) w l cs/\ShT P B n t l/\cs.length=P.cellsOf t/\wtL l<=Rows.uptoBulk d
 |0,t,cs,d,ps,_,e,_=>by simp[DataW.trod]at e
 |n+1,t,cs,d,ps,ht,e,hB=>by
  have h1:=(List.all_eq_true.1 hT) t ht;have h2:=(List.all_eq_true.1 hR) t ht;unfold DataW.trod at e;cases hu:P.underlying t with
  |none=>rw[hu]at h1;cases h1
  |some ud=>
   rw[hu]at h1 h2 e;cases ud with
   |bool=>
    simp only[beq_iff_eq]at h1;rcases cs with _|⟨v,_|⟨v2,cs⟩⟩
    . simp at e
    . cases v<;>simp at e;rename_i b;refine⟨[.val (.bool b)],qeM rfl,?_,h1.symm,YC _⟩;simp only[ShT,hu];exact⟨b,rfl⟩
    . cases v<;>simp at e
   |int k=>
    simp only[beq_iff_eq]at h1;rcases cs with _|⟨v,_|⟨v2,cs⟩⟩
    . simp at e
    . cases v<;>simp at e;rename_i k' x;obtain⟨⟨rfl,hw⟩,_⟩:=e;refine⟨[.val (.int k' x)],qeM rfl,?_,h1.symm,YC _⟩;simp only[ShT,hu];simp only[Lit.wf,aC,aX]at hw;exact⟨x,rfl,hw⟩
    . cases v<;>simp at e
   |string=>
    simp only[beq_iff_eq]at h1;rcases cs with _|⟨v,_|⟨v2,cs⟩⟩
    . simp at e
    . cases v<;>simp at e;rename_i s;obtain⟨_,rfl,_⟩:=e;refine⟨[.val (.string s)],qeM rfl,?_,h1.symm,YC _⟩;simp only[ShT,hu];refine⟨s,rfl,?_⟩;simp only[Rows.uptoBulk]at hB;have hl:s.data.toList.length=s.size:=by rw[Array.length_toList];rfl
      omega
    . cases v<;>simp at e
   |slice el=>
    simp only[aC,aX,beq_iff_eq]at h1;obtain⟨⟨h1,h3⟩,h4⟩:=h1;have hel:el∈T:=by simpa using h1
    rcases cs with _|⟨v,_|⟨v2,cs⟩⟩
    . simp at e
    .
     cases v with
     |slice a len cap=>
      cases a with
      |none=>
       cases len<;>cases cap<;>simp at e;refine⟨[.imm []],⟨rfl,fun o c hc=>?_⟩,?_,h4.symm,YC _⟩
       . cases o with
         |zero=>simp only[aI,aa]at hc;subst hc;exact⟨_,rfl,.immE none 0⟩
         |succ o=>simp at hc
       . simp only[ShT,hu];exact⟨[],rfl,Nat.zero_le _,by simp⟩
      |some a=>
       simp only at e;split at e
       .
        rename_i hcond;rw[Option.bind_eq_some_iff]at e;obtain⟨elems,he,e⟩:=e;rw[aG]at e;obtain⟨rest,hrest,e⟩:=e;simp only[ai]at e;obtain⟨rfl,_⟩:=e;obtain⟨m1,m2⟩:=qbO he;simp only[Rows.uptoBulk]at hB;have hlen:elems.length<=B:=by have:=qi4 (elems.map (·.1));rw[List.length_map]at this;omega
        have each:∀ i,i<len->∃ li csi vs,w.cells? base (a.add (i*P.cellsOf el)) (P.cellsOf el)=some csi/\qcf (fun b=>b<w.heap.size) w li csi/\ShT P B n el li/\csi.length=P.cellsOf el/\vs=csi/\∀ y,elems[i]? = some y->wtL li<=Rows.uptoBulk y.1:=by
         intro i hi;obtain⟨y,k1,k2⟩:=m2 i hi;rw[Option.bind_eq_some_iff]at k1;obtain⟨csi,k3,k4⟩:=k1;obtain⟨di,pi⟩:=y;have hb:Rows.uptoBulk di<=B:=by have:Rows.uptoBulk di<=Rows.uptoBulkAll (elems.map (·.1)):=qit (List.mem_map.2 ⟨(di,pi),aM k2,rfl⟩);omega
         obtain⟨li,r1,r2,r3,r4⟩:=YT (B:=B) hT hR n el csi di pi hel k4 hb;exact⟨li,csi,csi,k3,r1,r2,r3,rfl,fun y hy=>by rw[k2]at hy;cases hy;exact r4⟩
        cases len with
        |zero=>
         refine⟨[.imm []],⟨rfl,fun o c hc=>?_⟩,?_,h4.symm,YC _⟩
         . cases o with
           |zero=>simp only[aI,aa]at hc;subst hc;exact⟨_,rfl,.immE _ _⟩
           |succ o=>simp at hc
         . simp only[ShT,hu];exact⟨[],rfl,Nat.zero_le _,by simp⟩
        |succ len'=>
         obtain⟨l0,cs0,_,q1,_,_,_,_,_⟩:=each 0 (by omega);rw[Nat.zero_mul,show a.add 0=a from by simp[Addr.add]]at q1;obtain⟨_,q2,vs,Tt,fr,q3,q4⟩:=qfQ q1 h3
         let rowAt:Nat->List Cell:=fun i=>if hi:i<len'+1 then(each i hi).choose else []
         have hrow:∀ i (hi:i<len'+1),∃ csi,w.cells? base (a.add (i*P.cellsOf el)) (P.cellsOf el)=some csi/\qcf (fun b=>b<w.heap.size) w (rowAt i) csi/\ShT P B n el (rowAt i)/\csi.length=P.cellsOf el/\∀ y,elems[i]? = some y->wtL (rowAt i)<=Rows.uptoBulk y.1:=by
          intro i hi;obtain⟨csi,_,z1,z2,z3,z4,_,z5⟩:=(each i hi).choose_spec;refine⟨csi,z1,?_,?_,z4,?_⟩
          . simp only[rowAt,dif_pos hi];exact z2
          . simp only[rowAt,dif_pos hi];exact z3
          . simp only[rowAt,dif_pos hi];exact z5
         have hlt:a.block<w.heap.size:=by have:=Array.getElem?_eq_some_iff.1 q3;exact this.1
         have hvs:∀ i (hi:i<len'+1) csi,w.cells? base (a.add (i*P.cellsOf el)) (P.cellsOf el)=some csi->∀ j,j<P.cellsOf el->vs[a.off+i*P.cellsOf el+j]? = csi[j]?:=by
          intro i hi csi z1 j hj;obtain⟨_,_,vs',T',fr',q5,q6⟩:=qfQ z1 h3;have hb:(a.add (i*P.cellsOf el)).block=a.block:=by unfold Addr.add;split<;>rfl
          have ho:(a.add (i*P.cellsOf el)).off=a.off+i*P.cellsOf el:=by unfold Addr.add;split<;>simp_all
          rw[hb,q3]at q5;cases q5;rw[<- q6 j hj,ho]
         refine⟨[.imm ((List.range (len'+1)).map rowAt)],⟨rfl,fun o c hc=>?_⟩,?_,h4.symm,?_⟩
         .
          cases o with
          |succ o=>simp at hc
          |zero=>
           simp only[aI,aa]at hc;subst hc;refine⟨_,rfl,?_⟩;have ha:a=⟨a.block,a.off,none⟩:=by obtain⟨b,o,s⟩:=a;simp only at q2;subst q2;rfl
           have hcell:∀ r o c,cellAt ((List.range (len'+1)).map rowAt) r o=some c->∃ (hr:r<len'+1),(rowAt r)[o]? = some c:=by
            intro r o c hc;obtain⟨row,k1,k2⟩:=qc.1 hc;rw[aH]at k1;by_cases hr:r<len'+1
            . rw[List.getElem?_range hr]at k1;simp only[av,aa]at k1;subst k1;exact⟨hr,k2⟩
            . rw[List.getElem?_eq_none (by simpa using hr)]at k1;simp at k1
           have:=RelI.imm (im:=fun b=>b<w.heap.size) (w:=w) ((List.range (len'+1)).map rowAt) a.block a.off cap (P.cellsOf el) vs Tt fr (fun r o=>(vs[a.off+r*P.cellsOf el+o]?).getD Go.undef) q3 hlt
            (by rw[List.length_map,List.length_range];exact hcond.2.1) (fun row hr=>by obtain⟨i,hi,rfl⟩:=List.mem_map.1 hr;obtain⟨csi,_,z2,_,z4,_⟩:=hrow i (List.mem_range.1 hi);rw[z2.1,z4])
            (fun r o c hc=>by
             obtain⟨hr,hc⟩:=hcell r o c hc;obtain⟨csi,z1,z2,_,z4,_⟩:=hrow r hr;obtain⟨u,hu',_⟩:=z2.2 o c hc;have ho:o<P.cellsOf el:=by rw[<- z4];exact(az.1 hu').1
             rw[hvs r hr csi z1 o ho,hu'];rfl)
            (fun r o c hc=>by
             obtain⟨hr,hc⟩:=hcell r o c hc;obtain⟨csi,z1,z2,_,z4,_⟩:=hrow r hr;obtain⟨u,hu',hrel⟩:=z2.2 o c hc;have ho:o<P.cellsOf el:=by rw[<- z4];exact(az.1 hu').1
             rw[hvs r hr csi z1 o ho,hu'];exact hrel)
           rw[List.length_map,List.length_range,<- ha]at this;exact this
         . simp only[ShT,hu];refine⟨_,rfl,by rw[List.length_map,List.length_range];omega,fun row hr=>?_⟩;obtain⟨i,hi,rfl⟩:=List.mem_map.1 hr;obtain⟨_,_,_,z3,_⟩:=hrow i (List.mem_range.1 hi);exact z3
         . have hw:=qih ((List.range (len'+1)).map rowAt) (elems.map (·.1)) (by simp[m1]) (fun i r d e1 e2=>by
            rw[aH]at e1 e2;by_cases hi:i<len'+1
            . rw[List.getElem?_range hi]at e1;simp only[av,aa]at e1;subst e1;obtain⟨_,_,_,_,_,z5⟩:=hrow i hi;cases hy:elems[i]? with
              |none=>simp[hy]at e2
              |some y=>simp only[hy,av,aa]at e2;subst e2;exact z5 y hy
            . rw[List.getElem?_eq_none (by simpa using hi)]at e1;simp at e1)
           simp only[wtL,wtC,Rows.uptoBulk];omega
       . cases e
     |_=>simp at e
    .
     cases v with
     |slice a len cap=>
      cases a with
      |none=>cases len<;>cases cap<;>simp at e
      |some a=>simp at e
     |_=>simp at e
   |struct fs=>
    simp only at h1;simp only[aC,beq_iff_eq]at h2;have e':(if cs.length=P.cellsOf t then(fs.toList.mapM fun f=>DataW.trod enc P w base spare held n f.type ((cs.drop f.offset).take (P.cellsOf f.type))).map fun xs=>(DataW.agg (xs.map (·.1)),xs.flatMap (·.2))else none)=some (d,ps):=by
     rcases cs with _|⟨v,_|⟨v2,cs⟩⟩
     . exact e
     . cases v<;>exact e
     . cases v<;>exact e
    split at e'
    .
     rename_i hlen;rw[aG]at e';obtain⟨xs,hxs,e'⟩:=e';simp only[ai]at e';obtain⟨rfl,_⟩:=e';simp only[Rows.uptoBulk]at hB;have key:∀ (fl:List Field) (o:Nat) (xs:List (DataW H×List MemPlace)) (cs':List Value),(∀ f∈fl,f.type∈T)->rowT P o fl=true->cs'.length=(fl.map fun f=>P.cellsOf f.type).sum->(∀ j,cs'[j]? = cs[o+j]?) ->
       (fl.mapM fun f=>DataW.trod enc P w base spare held n f.type ((cs.drop f.offset).take (P.cellsOf f.type)))=some xs->Rows.uptoBulkAll (xs.map (·.1))<=B ->
       ∃ ls:List (List Cell),ls.length=fl.length/\qcf (fun b=>b<w.heap.size) w ls.flatten cs'/\(∀ (i:Nat) f x,fl[i]? = some f->ls[i]? = some x->ShT P B n f.type x)/\wtL ls.flatten<=Rows.uptoBulkAll (xs.map (·.1)):=by
      intro fl
      induction fl with
      |nil=>intro o xs cs' _ _ hl _ _ _;refine⟨[],rfl,⟨by simpa using hl.symm,by simp⟩,by simp,by simp[wtL]⟩
      |cons f fl ih=>
       intro o xs cs' hf hr hl hj hm hb;simp only[rowT,aC,beq_iff_eq]at hr;obtain⟨ho,hr⟩:=hr;rw[List.mapM_cons]at hm;simp only[Option.bind_eq_bind,Option.bind_eq_some_iff]at hm;obtain⟨y,hy,ys,hys,hm⟩:=hm;simp only[Option.pure_def,aa]at hm;subst hm;simp only[List.map_cons,Rows.uptoBulkAll]at hb;obtain⟨dy,py⟩:=y;obtain⟨l0,r1,r2,r3,r4⟩:=YT (B:=B) hT hR n f.type _ dy py (hf f au) hy (by simp only at hb;omega);simp only[List.map_cons,List.sum_cons]at hl;obtain⟨ls,s1,s2,s3,s4⟩:=ih (o+P.cellsOf f.type) ys (cs'.drop (P.cellsOf f.type)) (fun f' h=>hf f' (aB _ h)) hr (by rw[List.length_drop];omega)
        (fun j=>by rw[List.getElem?_drop,hj,Nat.add_assoc]) hys (by simp only at hb;omega)
       have hcs:∀ j,j<P.cellsOf f.type->((cs.drop f.offset).take (P.cellsOf f.type))[j]? = cs'[j]?:=by intro j hj';rw[List.getElem?_take_of_lt hj',List.getElem?_drop,hj,ho]
       refine⟨l0::ls,by simp[s1],⟨?_,fun j c hc=>?_⟩,fun i f' x hf' hx=>?_,by rw[List.flatten_cons,qgD];simp only[List.map_cons,Rows.uptoBulkAll];omega⟩
       . rw[List.flatten_cons,List.length_append,s2.1,r1.1,r3,List.length_drop];omega
       . rw[List.flatten_cons]at hc;by_cases hjl:j<l0.length
         . rw[aY hjl]at hc;obtain⟨u,hu',hrel⟩:=r1.2 j c hc;exact⟨u,by rw[<- hcs j (by rw[<- r3,<- r1.1];exact hjl)];exact hu',hrel⟩
         . rw[aZ (by omega)]at hc;obtain⟨u,hu',hrel⟩:=s2.2 _ c hc;refine⟨u,?_,hrel⟩;rw[List.getElem?_drop]at hu';rw[<- hu'];congr 1;have:=r1.1;omega
       . cases i with
         |zero=>simp only[aI,aa]at hf' hx;subst hf';subst hx;exact r2
         |succ i=>exact s3 i f' x (by simpa using hf') (by simpa using hx)
     obtain⟨ls,s1,s2,s3,s4⟩:=key fs.toList 0 xs cs (fun f hf=>by have:=(List.all_eq_true.1 h1) f hf;simpa using this) h2.1 (by rw[hlen,h2.2]) (fun j=>by rw[Nat.zero_add]) hxs (by omega);refine⟨ls.flatten,s2,?_,hlen,by simp only[Rows.uptoBulk];omega⟩;simp only[ShT,hu];exact⟨ls,rfl,by simpa using s1,fun i f x hf hx=>s3 i f x (by simpa using hf) hx⟩
    . cases e'
   |_=>simp at h1
end
section
variable [Glob]
open Go.ChangeShapes Go.WideShapes Go.ChangeAt Go.RowKit
def ShFs (P:Program)(B n:Nat):List TypeId->List Cell->Prop
 |[],l=>l=[]
 |t::ts,l=>∃ x rest,l=x++rest/\ShT P B n t x/\ShFs P B n ts rest
def qfd (P:Program)(t:TypeId):Option (List TypeId):=match P.underlying t with
 |some (.struct fs)=>some (fs.toList.map (·.type))
 |_=>none
theorem ShT.fields {P B n t l ts}(h:ShT P B n t l)(hu:qfd P t=some ts):∃ m,ShFs P B m ts l:=by
 cases n with
 |zero=>exact h.elim
 |succ n=>
  unfold qfd at hu;simp only[ShT]at h;split at hu
  .
   rename_i fs he;rw[he]at h;simp only[aa]at hu;subst hu;obtain⟨ls,rfl,hl,hs⟩:=h;refine⟨n,?_⟩;have key:∀ (fl:List Field) (ls:List (List Cell)),ls.length=fl.length->(∀ (i:Nat) f x,fl[i]? = some f->ls[i]? = some x->ShT P B n f.type x)->ShFs P B n (fl.map (·.type)) ls.flatten:=by
    intro fl
    induction fl with
    |nil=>intro ls hl _;have:ls=[]:=List.length_eq_zero_iff.1 hl;rw[this];rfl
    |cons f fl ih=>
     intro ls hl hs;cases ls with
     |nil=>grind
     |cons x ls=>exact⟨x,ls.flatten,by simp,hs 0 f x rfl rfl,ih ls (by grind) (fun i f' x' h1 h2=>hs (i+1) f' x' (by grind) (by grind))⟩
   grind
  grind
theorem ShT.int {P B n t l k}(h:ShT P B n t l)(hu:P.underlying t=some (.int k)):∃ x,l=[.val (.int k x)]/\k.min<=x/\x<=k.max:=by
 cases n with
 |zero=>exact h.elim
 |succ n=>simpa only[ShT,hu]using h
theorem ShT.bool {P B n t l}(h:ShT P B n t l)(hu:P.underlying t=some .bool):∃ b,l=[.val (.bool b)]:=by
 cases n with
 |zero=>exact h.elim
 |succ n=>simpa only[ShT,hu]using h
theorem ShT.string {P B n t l}(h:ShT P B n t l)(hu:P.underlying t=some .string):∃ s:ByteArray,l=[.val (.string s)]/\s.size<=B:=by
 cases n with
 |zero=>exact h.elim
 |succ n=>simpa only[ShT,hu]using h
theorem ShT.slice {P B n t e l}(h:ShT P B n t l)(hu:P.underlying t=some (.slice e)):∃ m rows,l=[.imm rows]/\rows.length<=B/\∀ row∈rows,ShT P B m e row:=by
 cases n with
 |zero=>exact h.elim
 |succ n=>simp only[ShT,hu]at h;obtain⟨rows,h1,h2,h3⟩:=h;exact⟨n,rows,h1,h2,h3⟩
def qbG (P:Program)(t:TypeId)(l:List Cell):AV:=match P.underlying t with
 |some (.struct _)=>.ag l
 |_=>match l with
  |[c]=>.c c
  |l=>.ag l
def vJ (P:Program):List TypeId->List (List Cell)->List AV
 |t::ts,l::ls=>qbG P t l::vJ P ts ls
 |_,_=>[]
def qiH (P:Program)(B:Nat):List TypeId->List (List Cell)->Prop
 |[],[]=>True
 |t::ts,l::ls=>(∃ n,ShT P B n t l)/\qiH P B ts ls
 |_,_=>False
def G0of (w:World):Gh:=⟨fun _=>none,fun b=>b<w.heap.size,fun _=>False⟩
theorem qhq {P w B n t v l T}(hT:qdf P T=true)(ht:t∈T){base}(hval:Value.okWide P w .any base t v)(h:qcf (fun b=>b<w.heap.size) w l v.cells.toList)(hs:ShT P B n t l)(k):YY (G0of w) w k (qbG P t l) v:=by
 have h1:=(List.all_eq_true.1 hT) t ht;have cell:∀ c u p,RelI (fun b=>b<w.heap.size) w c u->(∀ z rs,c≠.own z rs)->(∀ es,c≠.mp es)->c=.dead\/Sh (G0of w) w p c u:=by
  intro c u p hr _ _;cases hr with
  |val v h=>exact .inr ⟨rfl,h⟩
  |nil=>exact .inr rfl
  |immE a cap=>exact .inr (.immE a cap)
  |imm rows b off cap sz vs T fr us hb hi hcap hsz hv hr=>exact .inr (.imm rows b off cap sz vs T fr us hb hi hcap hsz hv hr)
  |dead v h=>grind
 have notOwn:∀ c u,RelI (fun b=>b<w.heap.size) w c u->(∀ z rs,c≠.own z rs)/\(∀ es,c≠.mp es):=by intro c u hr;cases hr<;>exact⟨by grind,by grind⟩
 have single:oneC v=true->(∃ c,l=[c])->qbG P t l=(match l with|[c]=>.c c|l=>.ag l)->YY (G0of w) w k (qbG P t l) v:=by
  intro hv hl he;obtain⟨c,rfl⟩:=hl;rw[he];have hcv:v.cells.toList=[v]:=by cases v<;>first|rfl|cases hv
  refine⟨trivial,fun r o c' hc=>?_⟩;obtain⟨rfl,rfl,rfl⟩:=one_cell hc;obtain⟨u,hu,hr⟩:=h.2 0 c' rfl;rw[hcv]at hu;simp only[aI,aa]at hu;subst hu;exact⟨_,rfl,cell _ _ _ hr (notOwn _ _ hr).1 (notOwn _ _ hr).2⟩
 unfold Value.okWide at hval;cases hu:P.underlying t with
 |none=>grind
 |some ud=>
  rw[hu]at h1 hval;cases n with
  |zero=>exact hs.elim
  |succ n=>
   simp only[ShT,hu]at hs;cases ud with
   |bool=>obtain⟨b,rfl⟩:=hs;refine single ?_ ⟨_,rfl⟩ (by simp[qbG,hu]);cases v<;>first|rfl|(simp[Cell.okWide,Cell.ok,hu]at hval)
   |int k=>obtain⟨x,rfl,_⟩:=hs;refine single ?_ ⟨_,rfl⟩ (by simp[qbG,hu]);cases v<;>first|rfl|(simp[Cell.okWide,Cell.ok,hu]at hval)
   |string=>obtain⟨x,rfl,_⟩:=hs;refine single ?_ ⟨_,rfl⟩ (by simp[qbG,hu]);cases v<;>first|rfl|(simp[Cell.okWide,Cell.ok,hu]at hval)
   |slice e=>obtain⟨x,rfl,_⟩:=hs;refine single ?_ ⟨_,rfl⟩ (by simp[qbG,hu]);cases v<;>first|rfl|(simp[Cell.okWide,Cell.ok,hu]at hval)
   |struct fs=>
    obtain⟨cs,rfl,_,_⟩:=hval;have he:qbG P t l=.ag l:=by simp[qbG,hu]
    rw[he];have hlen:l.length=cs.size:=by have:=h.1;simpa [Value.cells]using this
    refine⟨⟨cs,rfl,by omega⟩,fun r o c hc=>?_⟩;obtain⟨row,h3,h4⟩:=qc.1 hc;cases r with
    |succ r=>simp[AV.ag]at h3
    |zero=>simp only[AV.ag,aI,aa]at h3;subst h3;obtain⟨u,hu',hr⟩:=h.2 o c h4;refine⟨u,?_,cell _ _ _ hr (notOwn _ _ hr).1 (notOwn _ _ hr).2⟩;simpa [qX,AV.ag,Value.cells]using hu'
   |_=>grind
theorem qiD {H enc P w base T B}(hT:qdf P T=true)(hR:qiW P T=true):
  ∀ (ts:List TypeId) (vs:List Value) (ds:List (DataW H)) (ps:List MemPlace),(∀ t∈ts,t∈T)->(∀ (j:Nat) t v,ts[j]? = some t->vs[j]? = some v->Value.okWide P w .any base t v) ->
   DataW.TrodAll enc P w 0 (fun _=>true) true ts vs ds ps->Rows.uptoBulkAll ds<=B ->
   ∃ ls,qiH P B ts ls/\wtRs ls<=Rows.uptoBulkAll ds/\(vJ P ts ls).length=vs.length/\∀ (k:Nat) a,(vJ P ts ls)[k]? = some a->∃ V,vs[k]? = some V/\∀ key,YY (G0of w) w key a V
 |[],vs,ds,ps,_,_,h,_=>by obtain⟨rfl,rfl,rfl⟩:=trodAll_nil h;exact⟨[],trivial,by simp[wtRs],rfl,by simp[vJ]⟩
 |t::ts,vs,ds,ps,ht,hv,h,hb=>by
  obtain⟨v,vs',d,ds',p,q,rfl,rfl,rfl,⟨fuel,h0⟩,hr⟩:=trodAll_cons h;simp only[Rows.uptoBulkAll]at hb;obtain⟨ls,k1,k4,k2,k3⟩:=qiD (B:=B) hT hR ts vs' ds' q (fun t' h'=>ht t' (aB _ h')) (fun j t' v' e1 e2=>hv (j+1) t' v' (by simpa using e1) (by simpa using e2)) hr (by omega);obtain⟨l,r1,r2,_,r4⟩:=YT (B:=B) hT hR fuel t _ d p (ht t au) h0 (by omega);refine⟨l::ls,⟨⟨fuel,r2⟩,k1⟩,by simp only[wtRs,Rows.uptoBulkAll];omega,by simp[vJ,k2],fun k a e=>?_⟩;cases k with
  |zero=>simp only[vJ,aI,aa]at e;subst e;exact⟨v,rfl,qhq hT (ht t au) (hv 0 t v rfl rfl) r1 r2⟩
  |succ k=>simp only[vJ,List.getElem?_cons_succ]at e;obtain⟨V,hV,hr⟩:=k3 k a e;exact⟨V,by simpa using hV,hr⟩
theorem qiU {G w}(hG:∀ k,G.γ k=none){F:Fr}{ts:Array Value}(hb:F.boxes=[])(hs:∀ (k:Nat) v,F.slots[k]? = some v->∃ V,ts[k]? = some V/\∀ key,YY G w key v V){k rows}(e:F.rowsAt k=some rows)(hi:k.inHeap):qU G w k rows:=by
 obtain⟨r,π⟩:=k;cases r with
 |slot j=>
  cases π with
  |nil=>rcases hi with hi|hi<;>simp[Root.boxed]at hi
  |cons x π=>
   obtain⟨a,b⟩:=x;simp only[Fr.rowsAt,Fr.rows]at e;cases hj:F.slots[j]? with
   |none=>grind
   |some v=>
    simp only[hj,av,ae,getR]at e;cases hc:cellAt v.rows a b with
    |none=>grind
    |some c=>
     simp only[hc]at e;obtain⟨V,_,hr⟩:=hs j v hj;obtain⟨u,_,hsh⟩:=(hr ⟨.slot j,[]⟩).2 a b c hc;cases c with
     |own z rs=>
      rcases hsh with h|h
      . cases h
      . rcases h with⟨_,hx,_⟩|⟨x,hx,_⟩
        . subst hx;cases π with
          |nil=>simp only[getR,aa]at e;subst e;exact .inl ⟨hG _,rfl,by simp⟩
          |cons y π=>obtain⟨y1,y2⟩:=y;simp[getR,cellAt]at e
        grind
     |_=>grind
 |par i=>simp[Fr.rowsAt,Fr.rows,hb]at e
 |loc i=>simp[Fr.rowsAt,Fr.rows,hb]at e
 |res=>simp[Fr.rowsAt,Fr.rows,hb]at e
theorem qhu {H enc P f}{fn:Func}{w base T B args}{ds:List (DataW H)}{ps hand}(hT:qdf P T=true)(hR:qiW P T=true)(hts:∀ t∈fn.params.toList,t∈T)(hval:∀ (j:Nat) t v,fn.params[j]? = some t->args[j]? = some v->Value.okWide P w .any base t v)(h:DataW.TrodAll enc P w 0 (fun _=>true) true fn.params.toList args.toList ds ps)(hb:Rows.uptoBulkAll ds<=B)(hglob:∀ b,b<Glob.n->b<w.heap.size/\w.heap[b]? = Glob.H b)(hev:∀ ls,qiH P B fn.params.toList ls->wtRs ls<=B->Ev P hand f (vJ P fn.params.toList ls) [] (.ret (.c (bc true))) []):
  Calls P f args w fun e w'=>e=.returned (.bool true)/\(w.keptBut w' (fun _=>False)/\(∀ a,a.block<w.heap.size->w'.frozen? a=w.frozen? a)/\w.heap.size<=w'.heap.size)/\∀ b,b<w.heap.size->w'.heap[b]? = w.heap[b]?:=by
 obtain⟨ls,k1,k4,k2,k3⟩:=qiD (enc:=enc) (B:=B) hT hR fn.params.toList args.toList ds ps hts (fun j t v e1 e2=>hval j t v (by simpa using e1) (by simpa using e2)) h hb;have hs:∀ (k:Nat) v,(⟨vJ P fn.params.toList ls,[]⟩:Fr).slots[k]? = some v->∃ V,args[k]? = some V/\∀ key,YY (G0of w) w key v V:=by intro k v e;obtain⟨V,hV,hr⟩:=k3 k v e;exact⟨V,by simpa using hV,hr⟩
 have hrel:RelF (G0of w) w ⟨vJ P fn.params.toList ls,qd 0 []⟩ args:=by
  refine⟨⟨fun k k' h h' e=>(by cases e),fun k h e=>(by cases e),fun b hb=>hb,hglob⟩,(by simpa using k2),fun k v e=>?_,fun r l e=>(by cases e),fun d hd=>hd.elim,fun k rows e hi=>?_⟩
  . obtain⟨V,hV,hr⟩:=hs k v e;exact⟨V,hV,hr _⟩
  . exact(qiU (G:=G0of w) (w:=w) (fun _=>rfl) rfl hs e hi)
 refine((hev ls k1 (Nat.le_trans k4 hb)).2 (G0of w) w args hrel).mono fun e w' hw=>?_;obtain⟨G',hg,V,rfl,hr⟩:=hw;obtain⟨V',hV,hav⟩:=hr.slots 0 _ rfl;obtain⟨u,hu,hsh⟩:=hav.2 0 0 (bc true) rfl;have hVV:V'=V:=by simpa using hV.symm
 subst hVV;have hu':u=V':=by simpa [qX,AV.c]using hu.symm
 subst hu';have hval:u=.bool true:=by
  rcases hsh with h|h
  . cases h
  . exact h.1
 have keep:∀ b,b<w.heap.size->w'.heap[b]? = w.heap[b]?:=fun b hb=>hg.keep b hb;refine⟨by rw[hval],⟨⟨hg.out.1,hg.out.2,fun i hi=>?_⟩,fun a ha=>by unfold World.frozen?;rw[keep _ ha],hg.size⟩,keep⟩;rw[keep i hi];cases hh:w.heap[i]? with
 |none=>rfl
 |some o=>cases o<;>simp
theorem qkX {w w':World}(h:∀ b,b<w.heap.size->w'.heap[b]? = w.heap[b]?){p}(hp:p.block<w.heap.size):w.sameAt w' p:=by
 cases p with
 |cell b o=>simp only[World.sameAt,World.cell?];first|rw[h b hp]|(simp[h b hp])
 |map b=>simp only[World.sameAt];first|rw[h b hp]|exact h b hp
theorem qfi {H enc P w w'}(hl:laidOutB P=true)(h:∀ b,b<w.heap.size->w'.heap[b]? = w.heap[b]?){sp}:
  ∀ (ts:List TypeId) (vs:List Value) (ds:List (DataW H)) (ps:List MemPlace),(ts.all fun t=>P.readableRec t&&decide (t<P.types.size))=true->(∀ p∈ps,p.block<w.heap.size/\sp p.block=true) ->
   DataW.TrodAll enc P w 0 (fun _=>true) true ts vs ds ps->DataW.TrodAll enc P w' 0 sp true ts vs ds ps
 |[],vs,ds,ps,_,_,hd=>by obtain⟨rfl,rfl,rfl⟩:=trodAll_nil hd;exact hd
 |t::ts,vs,ds,ps,hr,hp,hd=>by
  obtain⟨v,vs',d,ds',p,q,rfl,rfl,rfl,h0,hrest⟩:=trodAll_cons hd;simp only[List.all_cons,aC,aX]at hr;exact⟨p,q,WideElems.Trod_stays hl hr.1.1 hr.1.2 h0 (fun x hx=>qkX h (hp x (aL _ hx)).1) (fun x hx=>(hp x (aL _ hx)).2),
   qfi hl h ts vs' ds' q hr.2 (fun x hx=>hp x (aS _ hx)) hrest,rfl⟩
theorem post_of_same' {H enc P f}{s:ChangeSpec}{apart fresh handsOn again W W' args v ds gs before pa pv}(hW:DataW.Whole enc P f.params.toList s.vars apart W args.toList ds gs before)(hres:∀ (b:Nat) (sp:Nat->Bool) (hd:Bool),DataW.TrodAll enc P W' b sp hd f.resultTypes.toList (v.resultList f.resultTypes.size) (s.fn H (ds++gs)).results [])(hargs:∀ sp:Nat->Bool,(∀ p∈before,sp p.block=true)->DataW.TrodAll enc P W' 0 sp true f.params.toList args.toList (s.fn H (ds++gs)).args pa)(hvars:∀ sp:Nat->Bool,(∀ p∈before,sp p.block=true)->DataW.TrodVars enc P W' sp s.vars (s.fn H (ds++gs)).vars pv)(hps:before=pa++pv)(hk:W.keptBut W' (·∈before))(hfz:∀ a:Addr,a.block<W.heap.size->W'.frozen? a=W.frozen? a)(hok:∀ (j:Nat) (t:TypeId) (r:Value),f.resultTypes[j]? = some t->(v.resultList f.resultTypes.size)[j]? = some r->Value.okWide P W' .any 0 t r):
  s.post enc P f apart fresh handsOn again W args v W':=by
 have hold:∀ p∈before,(fun b=>decide (b<W.heap.size)) p.block=true:=fun p hp=>by simpa using hW.lt p hp
 have hlt:∀ p∈before,p.block<W.heap.size:=fun p hp=>by grind
 refine⟨ds,gs,before,[],pa,pv,hW,hres _ _ _,hargs _ hold,hvars _ hold,World.keptBut_mono (fun p hp=>⟨hp,?_⟩) hk,fun _=>?_⟩
 . grind
 .
  obtain⟨_,_,_,_,_,hz,hn⟩:=hW;refine⟨hok,_,_,([]++pa)++pv,⟨[]++pa,pv,ChangeShapes.trodAll_append (hargs _ (fun _ _=>rfl)) (hres _ _ _),hvars _ (fun _ _=>rfl),rfl,?_,?_⟩,?_⟩
  . intro b off hp;have hb:MemPlace.cell b off∈before:=by grind
    rw[hfz _ (hlt _ hb)];exact hz b off hb
  . grind
  grind
theorem qjt {H enc P f fn}{s:ChangeSpec}{w base T B args}{ds gs:List (DataW H)}{before hand}(hT:qdf P T=true)(hR:qiW P T=true)(hts:(fn.params.toList.all T.contains)=true)(hl:laidOutB P=true)(hrd:(fn.params.toList.all fun t=>P.readableRec t&&decide (t<P.types.size))=true)(hvars:s.vars=[])(hspec:∀ ds:List (DataW H),ds.length=fn.params.size->s.fn H ds={ results:=[.lit (.bool true)],args:=ds })(hres:∃ t,fn.resultTypes = #[t]/\P.underlying t=some .bool)(hval:∀ (j:Nat) t v,fn.params[j]? = some t->args[j]? = some v->Value.okWide P w .any base t v)(hW:DataW.Whole enc P fn.params.toList s.vars false w args.toList ds gs before)(hk:Rows.uptoBulkAll (ds++gs)<=B)(hglob:∀ b,b<Glob.n->b<w.heap.size/\w.heap[b]? = Glob.H b)(hev:∀ ls,qiH P B fn.params.toList ls->wtRs ls<=B->Ev P hand f (vJ P fn.params.toList ls) [] (.ret (.c (bc true))) []):
  Calls P f args w fun e w'=>∃ v,e=.returned v/\s.post enc P fn false true false false w args v w':=by
 have hW':=hW;obtain⟨p,q,hA,hV,rfl,hfz,hnd⟩:=hW;rw[hvars]at hV;obtain⟨rfl,rfl⟩:=trodVars_none hV;rw[List.append_nil]at hk hW';have hlen:ds.length=fn.params.size:=by
  have:∀ (ts:List TypeId) (vs:List Value) (ds:List (DataW H)) ps,DataW.TrodAll enc P w 0 (fun _=>true) true ts vs ds ps->ds.length=ts.length:=by
   intro ts
   induction ts with
   |nil=>intro vs ds ps h;obtain⟨_,rfl,_⟩:=trodAll_nil h;rfl
   |cons t ts ih=>
    intro vs ds ps h;obtain⟨v,vs',d,ds',p,q,rfl,rfl,rfl,_,hr⟩:=trodAll_cons h
    grind
  grind
 obtain⟨t,hrt,hub⟩:=hres;refine(qhu (enc:=enc) (B:=B) hT hR (fun t ht=>by grind) hval hA hk hglob hev).mono fun e w' ⟨he,hg,hkeep⟩=>?_;have hold:∀ x∈p,x.block<w.heap.size:=fun x hx=>by have:=hW'.lt x hx;omega
 refine⟨_,he,post_of_same' (pa:=p) (pv:=[]) (before:=p) (ds:=ds) (gs:=[]) (by omega) (fun b sp hd=>?_) (fun sp hsp=>?_) (fun sp hsp=>?_) (by simp) (World.keptBut_mono (fun _ h=>h.elim) hg.1) hg.2.1 (ok_one hrt rfl (okWide_bool_mk hub _))⟩
 . rw[List.append_nil,hspec ds hlen,hrt];exact trodAll_cons_mk (shut_bool hub _) trodAll_mk0
 . rw[List.append_nil,hspec ds hlen];exact qfi hl hkeep _ _ _ _ hrd (fun x hx=>⟨hold x hx,hsp x hx⟩) hA
 . rw[hvars,List.append_nil,hspec ds hlen];rfl
end
end Ab
end Go.Proofs.YtgfbbmjoflehlaaGreatDoor
