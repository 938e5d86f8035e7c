/-
  The interpreter is sound: operations that turn memory; one operation. No claim stands here.
-/
import Derived.Test.YtjnefcbeemkkeaaGreatEBq
import Derived.Lib.OthersKept
import Derived.Maps.RangeRun
import Derived.Lib.ConvBytes
import Derived.Laws.MakeOwn
import Derived.Laws.AppendOwn
import Derived.Orders
import Derived.LoopNIn
import Derived.OrdersIn
import Derived.RangeFuncLeaves
import Derived.RangeFuncCalls
set_option linter.all false
namespace Go.Proofs.YtjnefcbeemkkeaaGreat
namespace E
section
variable {P:Program} {μ:Mu} {dp nt:Nat} {F:T Value} {a:Act} {w w':World} {m m':M}
theorem Hp.kill (h:Hp P μ m w){i x}(hx:μ i=some x):Hp P μ (m.setA i .dead) w/\Gn μ m w μ (m.setA i .dead) w:=by
 have hi:=h.idroom hx;have at_:∀ q,q<4 ^ hd->(m.setA i .dead).at q=if q=i then .dead else m.at q:=by
  intro q hq;by_cases hqi:q=i
  . subst hqi;rw[if_pos rfl,M.at_setA_same]
  . rw[if_neg hqi,M.at_setA_other m i q _ hi hq hqi]
 refine⟨⟨fun q y e=>?_,h.fresh,h.room,fun q y e hr=>?_,h.lt,fun p q y z hne hp hq ep eq=>?_⟩,⟨.refl μ,Nat.le_refl _,Nat.le_refl _,fun _ _ _=>rfl,fun q y hw e=>?_,⟨rfl,rfl⟩,fun _ _=>rfl⟩⟩
 .
  rw[at_ q (h.idroom e)];split
  . trivial
  . exact h.obj q y e
 .
  rw[at_ q (h.idroom e)]at hr;split at hr
  . cases hr
  . exact h.root q y e hr
 .
  rw[at_ p (h.idroom ep)]at hp;rw[at_ q (h.idroom eq)]at hq;split at hp
  . cases hp
  . split at hq
    . cases hq
    . exact h.inj p q y z hne hp hq ep eq
 .
  rw[at_ q (h.idroom e)]at hw;split at hw
  . cases hw
  . exact .inl ⟨q,y,hw,e,rfl⟩
theorem qA1 (hO:HO μ w m){t el t1}(hu:P.underlying t=some (.slice el))(hk:srcT P t1=true){sz x X}(hx:R μ x X){c r}(hno:∀ k,.no k≠r)(e:srcF sz x m c=r):
  ∃ n new NS,c n new=r/\Src P sz t1 X n NS w/\RL μ new NS/\ones new:=by
 have hkind:(∃ e',P.underlying t1=some (.slice e'))\/P.underlying t1=some .string:=by
  unfold srcT at hk;split at hk
  . exact .inl ⟨_,by assumption⟩
  . exact .inr (by assumption)
  . cases hk
 have fix:∀ {n NS},Src P sz t X n NS w->Src P sz t1 X n NS w:=fun s=>⟨hkind,s.len,s.cells,s.cellsD,s.newsLen,s.one⟩
 unfold srcF at e;simp only[qvx]at e;split at e
 . obtain⟨rfl,rfl,rfl⟩:=hx.nilsl;exact⟨0,[],[],e,fix (.ofNil w hu 0),.nil,.nil⟩
 .
  rename_i ad n z;simp only[natF_eq,M.cells_eq]at e;split at e
  .
   rename_i ro t' cs hc;simp only[takeF_eq,dropL_eq]at e;split at e
   .
    rename_i hle;have hle:n*sz<=(cs.drop ad.off).length:=hle;obtain⟨_,⟨rfl,_,a',rfl⟩|⟨y,cap,hy,hcap,hs,rfl⟩⟩:=hx.slI
    . refine⟨0,[],[],by simpa using e,fix (.ofSlice w hu a' 0 0 [] (by simp) (by simp) (by simp)),.nil,.nil⟩
    .
     have ho:=hO ad.block y hy;rw[hc]at ho;simp only[List.length_drop]at hle;by_cases hkk:ad.off<=cs.length
     . obtain⟨us,u1,u2,u3,u4⟩:=qfQ (k:=ad.off) (n:=n*sz) ho hy (by omega);have h6:ones cs:=by obtain⟨_,_,_,_,_,_,_,_,h6,_⟩:=ho;exact h6
       exact⟨n,_,us,e,fix (.ofSlice w hu _ n cap us u1 u3 fun u hu=>one_cell' (u4 u hu)),u2,(h6.drop _).take _⟩
     . have h0:n*sz=0:=by omega
       refine⟨n,[],[],?_,fix (.ofSlice w hu _ n cap [] (by simp[h0]) (by simp) (by simp)),.nil,.nil⟩;rw[<- e,show Nat.mul n sz=0 from h0];simp
   . exact absurd e (hno _)
  . exact absurd e (hno _)
 .
  simp only[qvt,bi_eq]at e;split at e
  .
   rename_i s _ _;have:=hx.str;subst this;split at e
   .
    rename_i h1;have h1:sz=1:=Nat.eq_of_beq_eq_true h1;subst h1;have hb:∀ (l:List UInt8) (f:List Value->CO),E.byteCells l f=f (l.map fun b=>Value.int .u8 b.toNat):=by
     intro l
     induction l with
     |nil=>intro f;rfl
     |cons b l ih=>intro f;unfold E.byteCells at ih |-;rw[rL_cons,natF_eq,ih];rfl
    rw[hb]at e;simp only[lenF_eq,List.length_map,bytes,Array.length_toList]at e;refine⟨s.size,_,Go.byteCells s,e,⟨hkind,fun _=>rfl,firstCells_string s w,firstCells_string s w.drew,by rw[byteCells_length,Nat.mul_one],fun u hu=>?_⟩,?_,?_⟩
    . obtain⟨_,_,rfl⟩:=List.mem_map.1 hu;rfl
    . have:(Go.byteCells s).all sc=true:=List.all_eq_true.2 fun v hv=>by obtain⟨_,_,rfl⟩:=List.mem_map.1 hv;rfl
      exact qv8 this
    . intro v hv;obtain⟨_,_,rfl⟩:=List.mem_map.1 hv;rfl
   . exact absurd e (hno _)
  . exact absurd e (hno _)
theorem qwe {t t1 ty el i}(hu:P.underlying t=some (.slice el))(hi:P.info? el=some i){base n cap}(hn:n<=cap){X}(hs:Src P i.size t1 X 0 [] w):
  (Builtin.append_ #[t,t1] ty #[.slice base n cap,X]).run P w=.ok (.slice base n cap) w:=by
 have h1:=hs.len;have h2:=hs.cells;rcases hs.kind with⟨e',hk⟩|hk<;>cases base<;>simp[Builtin.append_,run_underlying hu,run_underlying hk,sizeOf,typeInfo,hi,h1,h2,hn,storeCells]
theorem qvK (h:Hp P μ m w)(hn:m.next<hdN){t t1 ty el i z}(hu:P.underlying t=some (.slice el))(hi:P.info? el=some i)(hz:i.zero=some z)(hzs:z.cells.size=i.size){ro base n cap k X old new OS NS}(hs:Src P i.size t1 X k NS w)(hrn:RL μ new NS)(hon:ones new)(hro:RL μ old OS)(hoo:ones old)(hlen:OS.length=n*i.size)(hfc:(Builtin.firstCells i.size n (.slice base n cap)).run P w.drew=.ok OS.toArray w.drew)(hg:cap<n+k)(hroom:(n+k)*(i.bytes+1)<=1048576):
  ∃ V μ' w',(Builtin.append_ #[t,t1] ty #[.slice base n cap,X]).run P w=.ok V w'/\R μ' (slV (n+k) i.size m.next) V/\Hp P μ' (m.push (.cells ro el (old++new))) w'/\Gn μ m w μ' (m.push (.cells ro el (old++new))) w':=by
 have hb:(n+k)*i.bytes<=1048576:=Nat.le_trans (Nat.mul_le_mul_left _ (Nat.le_succ _)) hroom;have hnk:n+k<=1048576:=Nat.le_trans (Nat.le_mul_of_pos_right _ (Nat.succ_pos _)) hroom;have hfit:Builtin.nextslicecap (n+k) cap*i.bytes<=281474976710656:=by have h1:=Go.Room.nextslicecap_le' hg;have h2:=Nat.mul_le_mul_right i.bytes h1;rw[Nat.mul_assoc]at h2;omega
 have run:=run_append_grow_src (P:=P) w t t1 ty el i z hu hi hz base n cap OS hfc X k NS hs hg (by omega) hfit;have hge:=grownCap_ge w (n+k) cap el;generalize grownCap w (n+k) cap el=gc at run hge;have hsz:((OS++NS).toArray++Builtin.zeroCells z.cells (gc-(n+k))).size=gc*i.size:=by
  have h3:=hs.newsLen;have hzc:(Builtin.zeroCells z.cells (gc-(n+k))).size=(gc-(n+k))*i.size:=by simp[Builtin.zeroCells,hzs]
  rw[Array.size_append,hzc];simp only[List.size_toArray,List.length_append,hlen,h3];rw[<- Nat.add_mul,<- Nat.add_mul];congr 1;omega
 have hrl:RL μ (old++new) ((OS++NS).toArray:Array Value).toList:=hro.append hrn;obtain⟨p1,p2⟩:=h.newCells (ro:=ro) (t:=el) (l:=old++new) (vs:=(OS++NS).toArray++Builtin.zeroCells z.cells (gc-(n+k))) (fr:=(0,0)) (w0:=w.drew) hn
  (by rw[hrl.size,Array.size_append];omega) (hoo.append hon) (hrl.pre _) rfl ⟨rfl,rfl⟩ (.inl rfl)
 refine⟨_,_,_,run,?_,p1,p2⟩;refine .sl m.next 0 (n+k) i.size ⟨w.heap.size,0,_⟩ gc (Mu.set_same μ _ _) hge ?_;rw[hsz];simp
theorem qw2 (h:Hp P μ m w)(hn:m.next<hdN){t t1 ty el i}(hu:P.underlying t=some (.slice el))(hi:P.info? el=some i)(hrt:qwQ P el=false){ro q x c}(hc:m.at q=.cells ro el c)(hx:μ q=some x){off n cap k X new NS}(hs:Src P i.size t1 X k NS w)(hrn:RL μ new NS)(hon:ones new)(hold:n*i.size<=c.length-off)(hoff:off<=c.length\/n=0)(hcap:x.o+off+cap*i.size<=x.S)(hg:n+k<=cap)(hro:ro≠1\/off+n*i.size=c.length):
  ∃ V μ' w',(Builtin.append_ #[t,t1] ty #[.slice (some ⟨x.b,x.o+off,none⟩) n cap,X]).run P w=.ok V w'/\R μ' (slV (n+k) i.size m.next) V /\
   Hp P μ' ((m.setA q .dead).push (.cells ro el ((c.drop off).take (n*i.size)++new))) w'/\Gn μ m w μ' ((m.setA q .dead).push (.cells ro el ((c.drop off).take (n*i.size)++new))) w':=by
 have ho:=h.obj q x hx;rw[hc]at ho;obtain⟨x',vs,fr,o1,o2,o3,o4,o5,o6,o7⟩:=ho;rw[hx]at o1;cases o1;have hnl:=hs.newsLen;have hgs:(n+k)*i.size<=cap*i.size:=Nat.mul_le_mul_right _ hg;rw[Nat.add_mul]at hgs;have run:=run_append_room_src (P:=P) w t t1 ty el i hu hi x.b (x.o+off) n cap X k NS hs hg
  (fun j hj=>by
   have:x.o+off+n*i.size+j<vs.size:=by omega
   simp[World.cell?,o2,this])
  (fun j hj=>by have:=o3.free (k:=x.o+off+n*i.size+j) (hro.imp id fun h=>by omega) (by omega);simp only[World.frozen?,o2];simpa using this)
 obtain⟨vs',b1,b2,b3,b4,b5⟩:=XK NS (x.o+off+n*i.size) w vs o2 (by omega);obtain⟨p1,p2⟩:=h.take (w':=w.setCells x.b (x.o+off+n*i.size) NS) (x':=⟨x.b,x.o+off,x.S⟩) hn hx (by rw[hc];rfl) rfl (o:=.cells ro el ((c.drop off).take (n*i.size)++new)) (size_setCells _ _ _ _) b5 (by
   have hmono:Ext μ (μ.set m.next ⟨x.b,x.o+off,x.S⟩):=Mu.set_ext _ (h.fresh _ (Nat.le_refl _));have hl1:((c.drop off).take (n*i.size)).length=n*i.size:=by simp;omega
   refine⟨⟨x.b,x.o+off,x.S⟩,vs',fr,Mu.set_same μ _ _,b1,o3.mv (hro.symm.imp (fun h=>by simp only[List.length_append,hl1];show x.o+c.length<=x.o+off+_;omega) id),by rw[b2,o4],?_,((o6.drop _).take _).append hon,fun j v e=>?_⟩
   . simp only[List.length_append,hl1,hrn.1,hnl];omega
   . by_cases hj:j<n*i.size
     . rw[List.getElem?_append_left (by omega),List.getElem?_take,if_pos hj,List.getElem?_drop]at e;obtain⟨u,u1,u2⟩:=o7 (off+j) v e;refine⟨u,?_,u2.mono hmono⟩;show vs'[x.o+off+j]? = some u;rw[b3 _ (by omega),Nat.add_assoc,u1]
     . rw[List.getElem?_append_right (by omega),hl1]at e;obtain⟨u,u1,u2⟩:=hrn.get e;refine⟨u,?_,u2.mono hmono⟩;have hjl:=(List.getElem?_eq_some_iff.1 u1).1;have:=b4 (j-n*i.size) hjl;show vs'[x.o+off+j]? = some u;rw[show x.o+off+j=x.o+off+n*i.size+(j-n*i.size)by omega,this,u1]) (qv0 _ _ _ _) hrt
 refine⟨_,_,_,run,?_,p1,p2⟩;exact .sl m.next 0 (n+k) i.size ⟨x.b,x.o+off,x.S⟩ cap (Mu.set_same μ _ _) hg (by simpa using hcap)
theorem qdu (h:Hp P μ m w){t t1 ty el}(hu:P.underlying t=some (.slice el))(hk:srcT P t1=true){z0}(hz:zL P el=some z0)(hs0:szT P el≠0)(hrt:qwQ P el=false){s x S X v}(e:appR el (szT P el) (byT P el) s x m=.ret v m')(hS:R μ s S)(hX:R μ x X):
  ∃ V μ' w',(Builtin.append_ #[t,t1] ty #[S,X]).run P w=.ok V w'/\R μ' v V/\Hp P μ' m' w'/\Gn μ m w μ' m' w':=by
 obtain⟨z1,z2,⟨i,zv,hi,hiz,z3⟩,_⟩:=qyD hz;have hsz:szT P el=i.size:=by simp[szT,hi]
 have hby:byT P el=i.bytes:=by simp[byT,hi]
 have hzs:zv.cells.size=i.size:=by rw[<- hsz,<- z2,<- z3];simp
 unfold appR at e;obtain⟨n,new,NS,e2,hs,hrn,hon⟩:=qA1 h.obj hu hk hX (by intro k h;cases h) e;replace e:=e2;clear e2;rw[hsz]at hs;simp only[qvx]at e;split at e
 .
  obtain⟨rfl,rfl,rfl⟩:=hS.nilsl;cases n with
  |zero=>simp only[cN_zero]at e;cases e;have hNS:NS=[]:=List.length_eq_zero_iff.1 (by rw[hs.newsLen];simp);subst hNS;exact⟨_,μ,w,qwe hu hi (Nat.le_refl _) hs,.sc _ rfl,h,.refl _ _ _⟩
  |succ k=>
   simp only[cN_succ,natF_eq,bi_eq]at e;split at e
   . rename_i hroom;have hroom:(k+1)*(i.bytes+1)<=1048576:=by rw[<- hby];exact Nat.le_of_ble_eq_true hroom
     obtain⟨hn,rfl,rfl⟩:=qvf e;have:=qvK (P:=P) (ro:=0) (t:=t) (t1:=t1) (ty:=ty) (base:=none) (n:=0) (cap:=0) (k:=k+1) (old:=[]) (OS:=[]) h hn hu hi hiz hzs hs hrn hon .nil .nil (by simp) (run_firstCells_none w.drew i.size 0 0 0) (by omega) (by simpa using hroom);simpa [hsz]using this
   . cases e
 .
  rename_i ad l zz;cases n with
  |zero=>
   simp only[cN_zero]at e;cases e;have hNS:NS=[]:=List.length_eq_zero_iff.1 (by rw[hs.newsLen];simp);subst hNS;obtain⟨_,⟨rfl,_,a',rfl⟩|⟨y,cap,hy,hcap,hs',rfl⟩⟩:=hS.slI
   . exact⟨_,μ,w,qwe hu hi (Nat.le_refl _) hs,hS,h,.refl _ _ _⟩
   . exact⟨_,μ,w,qwe hu hi hcap hs,hS,h,.refl _ _ _⟩
  |succ k=>
   simp only[cN_succ,natF_eq,bi_eq]at e;split at e
   .
    rename_i hroom;rw[qu1,Bool.and_eq_true]at hroom;have hzz:zz=szT P el:=Nat.eq_of_beq_eq_true hroom.1;have hroom:(l+(k+1))*(i.bytes+1)<=1048576:=by rw[<- hby];exact Nat.le_of_ble_eq_true hroom.2
    simp only[M.cells_eq]at e;split at e
    .
     rename_i ro et c hc;split at e
     .
      rename_i het;have het:el=et:=Nat.eq_of_beq_eq_true het;subst het;rw[qxm,ve,lenF_eq]at e;split at e
      .
       rename_i hro;have hro:ro≠1\/ad.off+l*i.size=c.length:=by rw[Bool.or_eq_true]at hro;refine hro.imp (fun h h2=>by rw[h2]at h;cases h) fun h=>?_;rw[<- hsz];exact Nat.eq_of_beq_eq_true h
       simp only[takeF_eq,dropL_eq,appF_eq,M.put_eq]at e;split at e
       .
        rename_i hle;have hle:l*i.size<=c.length-ad.off:=by rw[<- hsz];simpa using hle
        obtain⟨hn,hv,hm⟩:=qvf e;have hn:m.next<hdN:=hn;obtain⟨_,hS'⟩:=hS.slI;have hv':v=slV (l+(k+1)) i.size m.next:=by rw[hv,hsz];rfl
        have hm':m'=(m.setA ad.block .dead).push (.cells ro el ((c.drop ad.off).take (l*i.size)++new)):=by rw[hm,hsz];rfl
        subst hv';subst hm';have dead:∀ {V:Value} {μ':Mu} {w':World} {y:Lc},μ ad.block=some y->Hp P μ (m.setA ad.block .dead) w->True:=fun _ _=>trivial;rcases hS' with⟨rfl,⟨y0,hy0⟩,a',rfl⟩|⟨y,cap,hy,hcap,hs',rfl⟩
        . obtain⟨q1,q2⟩:=h.kill hy0;obtain⟨V,μ',w',r1,r2,r3,r4⟩:=qvK (P:=P) (t:=t) (t1:=t1) (ty:=ty) (base:=some a') (n:=0) (cap:=0) (k:=k+1) (old:=[]) (OS:=[]) q1 hn hu hi hiz hzs hs hrn hon .nil .nil (by simp)
           (run_firstCells_some w.drew i.size 0 a' 0 0 [] (by simp) (by simp)) (by omega) hroom
          refine⟨V,μ',w',by simpa using r1,by simpa using r2,?_,?_⟩
          . simpa using r3
          . simpa using q2.trans r4
        .
         have ho:=h.obj ad.block y hy;have h6:ones c:=by rw[hc]at ho;obtain⟨_,_,_,_,_,_,_,_,h6,_⟩:=ho;exact h6
         rw[hc]at ho;by_cases hkk:ad.off<=c.length
         . by_cases hg:l+(k+1)<=cap
           . exact qw2 h hn hu hi hrt hc hy hs hrn hon hle (.inl hkk) (by rw[<- hsz,<- hzz];exact hs') hg hro
           . obtain⟨us,u1,u2,u3,u4⟩:=qfQ (k:=ad.off) (n:=l*i.size) ho hy (by omega);obtain⟨q1,q2⟩:=h.kill hy;obtain⟨V,μ',w',r1,r2,r3,r4⟩:=qvK (P:=P) (t:=t) (t1:=t1) (ty:=ty) (base:=some ⟨y.b,y.o+ad.off,none⟩) (n:=l) (cap:=cap) (k:=k+1) q1 hn hu hi hiz hzs hs hrn hon u2 ((h6.drop _).take _) u1
              (run_firstCells_some w.drew i.size l _ l cap us u1 (by simpa using u3)) (by omega) hroom
             exact⟨V,μ',w',r1,r2,r3,q2.trans r4⟩
         .
          have h0:l*i.size=0:=by omega
          have hl0:l=0:=by
           rcases Nat.mul_eq_zero.1 h0 with h|h
           . exact h
           . exact absurd (by rw[hsz];exact h) hs0
          subst hl0;by_cases hg:0+(k+1)<=cap
          . exact qw2 h hn hu hi hrt hc hy hs hrn hon hle (.inr rfl) (by rw[<- hsz,<- hzz];exact hs') hg hro
          . obtain⟨q1,q2⟩:=h.kill hy;obtain⟨V,μ',w',r1,r2,r3,r4⟩:=qvK (P:=P) (t:=t) (t1:=t1) (ty:=ty) (base:=some ⟨y.b,y.o+ad.off,none⟩) (n:=0) (cap:=cap) (k:=k+1) (old:=[]) (OS:=[]) q1 hn hu hi hiz hzs hs hrn hon .nil .nil (by simp)
             (run_firstCells_some w.drew i.size 0 _ 0 cap [] (by simp) (by simp)) (by omega) hroom
            refine⟨V,μ',w',by simpa using r1,by simpa using r2,?_,?_⟩
            . simpa using r3
            . simpa using q2.trans r4
       . cases e
      . cases e
     . cases e
    . cases e
   . cases e
 . cases e
end
end E
end Go.Proofs.YtjnefcbeemkkeaaGreat
namespace Go.Proofs.YtjnefcbeemkkeaaGreat
namespace E
section
variable {P:Program} {μ:Mu} {dp nt:Nat} {F:T Value} {a:Act} {w w':World} {m m':M}
theorem qy3 (h:Hp P μ m w)(hF:RF μ dp nt F a.tmps)(hG:Gl P μ){t x v}(e:(loud P dp (.range t x)).f F m=.ret v m')(dst ty pos after)(guard):
  Ran P μ m w (execOp a.eval ⟨dst,.range t x,ty,pos,after,guard⟩) v m':=by
 unfold loud at e;obtain⟨u,hu,hr⟩:=zf hF hG x;simp only at e;split at e
 .
  rename_i ht;simp only[hu,qvt]at e;split at e
  . rename_i s;have hV:=hr.str;obtain⟨hn,rfl,rfl⟩:=qvf e;have hset:=Mu.set_same μ m.next ⟨w.heap.size,0,0⟩;obtain⟨p1,p2⟩:=h.new (w':=w.alloc (.stringIter s 0)) hn (o:=.siter (bytes s) 0) (x:=⟨w.heap.size,0,0⟩) rfl (size_alloc _ _) (fun b hb=>by rw[heap_alloc,if_neg (by omega)])
     ⟨_,s,hset,rfl,by rw[heap_alloc,if_pos rfl],by simp[bytes]⟩ ⟨rfl,rfl⟩ (fun hr=>by cases hr)
    refine Does.ran (n:=.value (.pointer (some ⟨w.heap.size,0,none⟩))) (V:=.pointer (some ⟨w.heap.size,0,none⟩)) ?_ (.inl rfl) (.ptr m.next 0 ⟨w.heap.size,0,0⟩ hset) p1 p2;simp[execOp,Instr.range,run_underlying ht,hV]
  . cases e
 .
  rename_i kt et ht;simp only[hu,qvR]at e;split at e
  . cases e
  .
   rename_i i;obtain⟨z,hz,hV⟩:=hr.mapI;simp only[M.get_eq,qvh]at e;split at e
   . rename_i es clock hes;have ho:=h.obj i z hz;rw[hes]at ho;obtain⟨z',ents,o1,o2,o3⟩:=ho;rw[hz]at o1;cases o1;obtain⟨hn,rfl,rfl⟩:=qvf e;have hset:=Mu.set_same μ m.next ⟨w.heap.size,0,0⟩;have hext:=Mu.set_ext (μ:=μ) ⟨w.heap.size,0,0⟩ (h.fresh _ (Nat.le_refl _));obtain⟨p1,p2⟩:=h.new (w':=w.alloc (.mapIter (some z.b) clock #[] clock)) hn (o:=.miter i clock [] clock) (x:=⟨w.heap.size,0,0⟩) rfl (size_alloc _ _) (fun b hb=>by rw[heap_alloc,if_neg (by omega)])
      ⟨_,z,hset,rfl,hext _ _ hz,by rw[heap_alloc,if_pos rfl]⟩ ⟨rfl,rfl⟩ (fun hr=>by cases hr)
     refine Does.ran (n:=.value (.pointer (some ⟨w.heap.size,0,none⟩))) (V:=.pointer (some ⟨w.heap.size,0,none⟩)) ?_ (.inl rfl) (.ptr m.next 0 ⟨w.heap.size,0,0⟩ hset) p1 p2;simp[execOp,Instr.range,run_underlying ht,hV,getObj,Sem.run,o2]
   . cases e
  . cases e
 . cases e
theorem heap_set {w:World}{k b o}:({ w with heap:=w.heap.setIfInBounds k o }:World).heap[b]? = if b=k/\k<w.heap.size then some o else w.heap[b]?:=by
 simp only[Array.getElem?_setIfInBounds];by_cases hb:k=b
 .
  subst hb;by_cases hk:k<w.heap.size
  . simp[hk]
  . simp[hk]
 . rw[if_neg hb,if_neg (fun h=>hb h.1.symm)]
theorem RE.filter {es es'}(h:RE μ es es')(p:Nat->Bool):RE μ (es.filter fun e=>p e.born) (es'.filter fun e=>p e.born):=by
 induction es generalizing es' with
 |nil=>rw[h.nil_inv];exact⟨rfl,by simp⟩
 |cons e es ih=>
  obtain⟨e',q,rfl,h1,h2,h3,h4,h5⟩:=h.cons_inv;simp only[List.filter_cons,h3];split
  . exact .cons h1 h2 h3 h4 (ih h5)
  . exact ih h5
theorem RE.any {es es'}(h:RE μ es es')(p:Nat->Bool):(es.any fun e=>p e.born)=es'.any fun e=>p e.born:=by
 induction es generalizing es' with
 |nil=>rw[h.nil_inv]
 |cons e es ih=>obtain⟨e',q,rfl,h1,h2,h3,h4,h5⟩:=h.cons_inv;simp only[List.any_cons,h3,ih h5]
theorem qzW (h:Hp P μ m w)(hF:RF μ dp nt F a.tmps)(hG:Gl P μ){it b v}(e:(loud P dp (.next it b)).f F m=.ret v m')(dst ty pos after)(guard):
  Ran P μ m w (execOp a.eval ⟨dst,.next it b,ty,pos,after,guard⟩) v m':=by
 unfold loud at e;obtain⟨u,hu,hr⟩:=zf hF hG it;simp only[hu,qu5,bi_eq]at e;split at e
 .
  rename_i ad;obtain⟨_,x,hx,hV⟩:=hr.ptrI;split at e
  .
   rename_i h0;have h0:ad.off=0:=Nat.eq_of_beq_eq_true h0;rw[h0]at hV;unfold qDt at e;rw[M.get_eq]at e;have ho:=h.obj ad.block x hx;split at e
   .
    rename_i s ps hat
    rw[hat]at ho;obtain⟨x',S,o1,o2,o3,o4⟩:=ho;rw[hx]at o1;cases o1;rw[o2]at hV;have hk:x.b<w.heap.size:=h.lt _ _ hx;simp only[bi_eq]at e;split at e
    .
     rename_i hb;subst hb;cases s with
     |nil=>
      have hsz:¬ ps<S.size:=by have:=congrArg List.length o4;simp at this;have h2:S.size=S.data.size:=rfl;omega
      rw[cL_nil]at e;cases e;refine Does.ran (n:=.value (.tuple #[.bool false])) (V:=.tuple #[.bool false]) ?_ (.inl rfl) (.mkTup (.cons (.mkB _) .nil)) h (.refl _ _ _);simp[execOp,hV,Lib.run_next_end_at w x.b S ps ty o3 hsz]
     |cons c r=>
      have hsz:ps<S.size:=by have:=congrArg List.length o4;simp at this;have h2:S.size=S.data.size:=rfl;omega
      have hc:S[ps]'hsz=c:=by have:=congrArg (·[0]?) o4;simp only[List.getElem?_drop,List.getElem?_cons_zero,Nat.add_zero]at this;have h3:S.data.toList[ps]? = some c:=this.symm;rw[Array.getElem?_toList]at h3;obtain⟨_,h4⟩:=Array.getElem?_eq_some_iff.1 h3;exact h4
      have hr':r=S.data.toList.drop (ps+1):=by have:=congrArg (List.drop 1) o4;simpa [List.drop_drop]using this
      rw[cL_cons,natF_eq]at e;split at e
      . rename_i hlt;have hlt:c.toNat<128:=by simpa [Nat.blt_eq]using hlt
        simp only[natF_eq,M.put_eq]at e;cases e;obtain⟨p1,p2⟩:=h.put (w':=(w.iterAt x.b S (ps+1))) (o:=.siter r (ps+1)) hx (by rw[hat];rfl) (by simp[World.iterAt]) (fun b' hb'=>by simp only[World.iterAt];rw[heap_set,if_neg (fun h=>hb' h.1)])
         ⟨x,S,hx,o2,by simp only[World.iterAt];rw[heap_set,if_pos ⟨rfl,hk⟩],hr'⟩ ⟨rfl,rfl⟩ (fun hr=>by cases hr)
        refine Does.ran (n:=.value (.tuple #[.bool true,.int .i64 ps,.int .i32 c.toNat])) (V:=.tuple #[.bool true,.int .i64 ps,.int .i32 c.toNat]) ?_ (.inl rfl) (.mkTup (.cons (.mkB _) (.cons (.mkI _ _) (.cons (.mkI _ _) .nil)))) p1 p2;have:=Lib.run_next_ascii_at (P:=P) w x.b S ps ty o3 hsz (by rw[hc];exact hlt);simp[execOp,hV,this,hc]
      . cases e
    . cases e
   .
    rename_i j since seen st hat
    rw[hat]at ho;obtain⟨x',y,o1,o2,o3,o4⟩:=ho;rw[hx]at o1;cases o1;rw[o2]at hV;have hk:x.b<w.heap.size:=h.lt _ _ hx;simp only[bi_eq]at e;split at e
    . cases e
    .
     rename_i hb;have hb:b=false:=by simpa using hb
     subst hb;simp only[M.get_eq,qvh]at e;split at e
     .
      rename_i es clock hes;have hom:=h.obj j y o3;rw[hes]at hom;obtain⟨y',ents,q1,q2,q3⟩:=hom;rw[o3]at q1;cases q1;split at e
      .
       rename_i hg;have hfil:=q3.filter (fun n=>!seen.contains n);have hguard:(!seen.toArray.isEmpty && !ents.isEmpty&&ents.all (fun x=>decide (x.born>=st)))=false:=by
        have h1:(es.any fun e=>Nat.blt e.born st)=ents.toList.any fun e=>Nat.blt e.born st:=q3.any fun n=>Nat.blt n st;rw[h1]at hg;simp only[Bool.or_eq_true]at hg;rcases hg with hg|hg
        . simp at hg;simp[hg]
        . obtain⟨u,u1,u2⟩:=List.any_eq_true.1 hg;have:(ents.all fun x=>decide (x.born>=st))=false:=by rw[<- Array.all_toList];refine Bool.eq_false_iff.2 fun hall=>?_;have:=List.all_eq_true.1 hall u u1;simp[Nat.blt_eq]at this u2;omega
          rw[this,Bool.and_false]
       have hleft:(ents.filter fun e=>!seen.toArray.contains e.born).toList=ents.toList.filter fun e=>!seen.contains e.born:=by rw[Array.toList_filter];simp
       split at e
       . rename_i hnil;rw[hnil]at hfil;have hl:(ents.filter fun e=>!seen.toArray.contains e.born) = #[]:=Array.toList_inj.1 (by rw[hleft,hfil.nil_inv]);cases e;refine Does.ran (n:=.value (.tuple #[.bool false])) (V:=.tuple #[.bool false]) ?_ (.inl rfl) (.mkTup (.cons (.mkB _) .nil)) h (.refl _ _ _);simp only[execOp,hV,Instr.next,getObj,Sem.run_bind,Sem.run,o4,q2,Result.andThen,hguard,hl];simp[choose,Sem.run,Question.forced]
       .
        rename_i en hen;rw[hen]at hfil;obtain⟨en',r',hcons,g1,g2,g3,g4,g5⟩:=hfil.cons_inv;have:=g5.nil_inv;subst this;have hl:(ents.filter fun e=>!seen.toArray.contains e.born) = #[en']:=Array.toList_inj.1 (by rw[hleft,hcons]);split at e
        . rename_i hlt;have hlt:en.born<since:=by simpa [Nat.blt_eq]using hlt
          simp only[M.put_eq]at e;cases e;obtain⟨p1,p2⟩:=h.put (w':={ w with heap:=w.heap.setIfInBounds x.b (.mapIter (some y.b) since (seen.toArray.push en'.born) clock) }) (o:=.miter j since (seen++[en.born]) clock) hx (by rw[hat];rfl) (by simp) (fun b' hb'=>by rw[heap_set,if_neg (fun h=>hb' h.1)])
           ⟨x,y,hx,o2,o3,by rw[heap_set,if_pos ⟨rfl,hk⟩,g3];simp⟩ ⟨rfl,rfl⟩ (fun hr=>by cases hr)
          refine Does.ran (n:=.value (.tuple #[.bool true,en'.key,en'.val])) (V:=.tuple #[.bool true,en'.key,en'.val]) ?_ (.inl rfl) (.mkTup (.cons (.mkB _) (.cons (by rw[g1];exact qvj g2) (.cons g4 .nil)))) p1 p2;simp only[execOp,hV,Instr.next,getObj,Sem.run_bind,Sem.run,o4,q2,Result.andThen,hguard,hl];have h5:en'.born<since:=by rw[g3];exact hlt
          have h6:¬ since<=en'.born:=by omega
          simp[choose,Sem.run,Question.forced,h5,h6,setObj,o4]
        . cases e
       . cases e
      . cases e
     . cases e
   . cases e
  . cases e
 . cases e
theorem RE.find {es es'}(h:RE μ es es')(p:Nat->Bool){e}(he:es.find? (fun e=>p e.born)=some e):∃ e',es'.find? (fun e=>p e.born)=some e'/\e'.key=e.key/\qvq e.key=true/\R μ e.val e'.val:=by
 induction es generalizing es' with
 |nil=>cases he
 |cons x es ih=>
  obtain⟨e',q,rfl,h1,h2,h3,h4,h5⟩:=h.cons_inv;simp only[List.find?_cons,h3]at he |-;split at he
  . cases he;exact⟨e',rfl,h1,h2,h4⟩
  . exact ih h5 he
theorem qyN (h:Hp P μ m w)(hF:RF μ dp nt F a.tmps)(hG:Gl P μ){it v}(e:(loud P dp (.entry it)).f F m=.ret v m')(dst ty pos after)(guard):
  Ran P μ m w (execOp a.eval ⟨dst,.entry it,ty,pos,after,guard⟩) v m':=by
 unfold loud at e;obtain⟨u,hu,hr⟩:=zf hF hG it;simp only[hu,qu5,bi_eq]at e;split at e
 .
  rename_i ad;obtain⟨_,x,hx,hV⟩:=hr.ptrI;split at e
  .
   rename_i h0;have h0:ad.off=0:=Nat.eq_of_beq_eq_true h0;rw[h0]at hV;unfold qBK at e;rw[M.get_eq]at e;have ho:=h.obj ad.block x hx;split at e
   .
    rename_i j since seen st hat
    rw[hat]at ho;obtain⟨x',y,o1,o2,o3,o4⟩:=ho;rw[hx]at o1;cases o1;rw[o2]at hV;simp only[M.get_eq,qvh]at e;split at e
    .
     rename_i es clock hes;have hom:=h.obj j y o3;rw[hes]at hom;obtain⟨y',ents,q1,q2,q3⟩:=hom;rw[o3]at q1;cases q1;rw[bi_eq]at e;split at e
     .
      rename_i hcl;have hcl:clock=st:=Nat.eq_of_beq_eq_true hcl;subst hcl;split at e
      . rename_i s hs;split at e
        . rename_i en hen;cases e;obtain⟨en',f1,f2,f3,f4⟩:=q3.find (fun n=>n==s) hen;refine Does.ran (n:=.value (.tuple #[en'.key,en'.val])) (V:=.tuple #[en'.key,en'.val]) ?_ (.inl rfl) (.mkTup (.cons (by rw[f2];exact qvj f3) (.cons f4 .nil))) h (.refl _ _ _);have f1':ents.find? (fun e=>e.born==s)=some en':=by rw[<- Array.find?_toList];exact f1
          simp only[execOp,hV,Instr.entry,getObj,Sem.run_bind,Sem.run,o4,q2,Result.andThen,List.back?_toArray,hs,bne_self_eq_false,Bool.false_eq_true,if_false,f1'];rfl
        . cases e
      . cases e
     . cases e
    . cases e
   . cases e
  . cases e
 . cases e
end
end E
end Go.Proofs.YtjnefcbeemkkeaaGreat
namespace Go.Proofs.YtjnefcbeemkkeaaGreat
namespace E
section
variable {P:Program} {μ:Mu} {dp nt:Nat} {F:T Value} {a:Act} {w w':World} {m m':M}
theorem qyK (h:Hp P μ m w)(hF:RF μ dp nt F a.tmps)(hG:Gl P μ){x t ts v}(e:(loud P dp (.call { callee:=.builtin .clear,args:=⟨[x]⟩,argTypes:=⟨t::ts⟩ })).f F m=.ret v m')(dst ty pos after)(guard):
  Ran P μ m w (execOp a.eval ⟨dst,.call { callee:=.builtin .clear,args:=⟨[x]⟩,argTypes:=⟨t::ts⟩ },ty,pos,after,guard⟩) v m':=by
 unfold loud at e;obtain⟨u,hu,hr⟩:=zf hF hG x;simp only at e;split at e
 .
  rename_i el ht;split at e
  .
   rename_i z hz;obtain⟨z1,z2,_,zz,z3,z4⟩:=qyD hz;rw[bi_eq]at e;split at e
   . cases e
   rename_i hsz;have hsz:szT P el≠0:=by simpa using hsz
   simp only[hu,qvx]at e;split at e
   . obtain⟨rfl,rfl,hV⟩:=hr.nilsl;cases e;refine Does.ran (n:=.value undef) (V:=undef) ?_ (.inl rfl) .undef h (.refl _ _ _);simp[execOp,resolve,invoke,builtin,hV,Builtin.clear_,run_underlying ht,E.undef]
   .
    rename_i ad n zc;cases n with
    |zero=>rw[cN_zero]at e;cases e;refine Does.ran (n:=.value undef) (V:=undef) ?_ (.inl rfl) .undef h (.refl _ _ _);obtain⟨_,⟨_,_,a',hV⟩|⟨y,cap,hy,hcap,hs',hV⟩⟩:=hr.slI<;>simp[execOp,resolve,invoke,builtin,hV,Builtin.clear_,run_underlying ht,E.undef]
    |succ n=>
     simp only[cN_succ,M.cells_eq,bi_eq]at e;split at e
     .
      rename_i ro t' c hc;split at e
      . cases e
      .
       rename_i hro;have hro:ro≠1:=by simpa using hro
       simp only[qwG,layF_eq,M.put_eq]at e;split at e
       . rename_i hk;cases e;obtain⟨_,⟨h0,_⟩|⟨y,cap,hy,hcap,hs',hV⟩⟩:=hr.slI
         . cases h0
         . obtain⟨f1,f2⟩:=qwY (μ:=μ) z1 (n+1);obtain⟨r1,r2,r3⟩:=h.write (P:=P) hro hc hy (k:=ad.off) f1 f2 hk;refine Does.ran (n:=.value undef) (V:=undef) ?_ (.inl rfl) .undef r2 r3;have hzc:(Builtin.zeroCells zz.cells (n+1)).toList=(List.replicate (n+1) z).flatten:=by
            have hzs:zz.cells.size=szT P el:=by rw[<- z2,<- z3];simp
            have hpos:0<zz.cells.size:=by omega
            exact(qf9 zz.cells zz.cells.size (n+1) rfl hpos).trans (by rw[z3])
           simp[execOp,resolve,invoke,builtin,hV,Builtin.clear_,run_underlying ht,E.undef,z4,hzc,r1]
       . cases e
     . cases e
   . cases e
  . cases e
 . cases e
theorem qwO:∀ (l L:List Value) {c:List UInt8->CO} {r:CO},(∀ k,.no k≠r)->qAd l c=r->RL μ l L->∃ bs:List UInt8,c bs=r/\L=bs.map fun b=>Value.int .u8 ((b.toNat:Nat):Int)
 |[],L,c,r,hno,e,h=>by have:=h.nil_inv;subst this;exact⟨[],e,rfl⟩
 |x::l,L,c,r,hno,e,h=>by
  obtain⟨V,L',rfl,h1,h2⟩:=h.cons_inv;unfold qAd at e;rw[rL_cons,qvg]at e;split at e
  .
   rename_i k n;have hV:=h1.int;rw[bi_eq]at e;split at e
   .
    rename_i hk;have hk:k=.u8:=by have:=Nat.eq_of_beq_eq_true hk;cases k<;>first|rfl|exact absurd this (by decide)
    subst hk;cases n with
    |ofNat b=>
     rw[cI_nat,natF_eq,bi_eq]at e;split at e
     . rename_i hlt;have hlt:b<256:=by simpa [Nat.blt_eq]using hlt
       obtain⟨bs,b1,b2⟩:=qwO l L' (c:=fun r=>c (.ofNat b::r)) hno e h2;refine⟨.ofNat b::bs,b1,?_⟩;rw[hV,b2,List.map_cons];congr 2;simp only[UInt8.toNat_ofNat'];rw[Nat.mod_eq_of_lt hlt];rfl
     . exact absurd e (hno _)
    |negSucc b=>exact absurd e (hno _)
   . exact absurd e (hno _)
  . exact absurd e (hno _)
theorem qvO {w:World}{b vs T fr}(h:w.heap[b]? = some (.cells vs T fr))(o n)(hn:n≠0)(b'):
  (w.freeze ⟨b,o,none⟩ n).heap[b']? = if b'=b then some (.cells vs T (if fr.1==fr.2 then(o,o+n)else(min fr.1 o,max fr.2 (o+n))))else w.heap[b']?:=by
 unfold World.freeze;rw[if_neg hn];simp only[Array.getElem?_modify];by_cases e:b=b'
 . subst e;simp[h]
 . rw[if_neg e,if_neg (fun e'=>e e'.symm)]
theorem qzU {e}(hc:P.cellsOf e=1)(count o n)(hn:o+n<=count):liesAt P P.depth e count o e n=true:=by have hd:P.depth=(2*(P.types.size+Made.depth)+1)+1:=rfl;rw[hd];simp only[liesAt,Bool.or_eq_true];left;rw[hd];simp[rowAt,hc,hn,sameLayout,Nat.mod_one]
theorem qz7 (h:Hp P μ m w)(hF:RF μ dp nt F a.tmps)(hG:Gl P μ){x k t ts v}(e:(loud P dp (.call { callee:=.builtin .unsafeString,args:=⟨[x,k]⟩,argTypes:=⟨t::ts⟩ })).f F m=.ret v m')(dst ty pos after)(guard):
  Ran P μ m w (execOp a.eval ⟨dst,.call { callee:=.builtin .unsafeString,args:=⟨[x,k]⟩,argTypes:=⟨t::ts⟩ },ty,pos,after,guard⟩) v m':=by
 unfold loud at e;obtain⟨u,hu,hr⟩:=zf hF hG x;obtain⟨q,hq,hqr⟩:=zf hF hG k;simp only at e;split at e
 .
  rename_i el hel;have hpt:P.underlying t=some (.pointer el):=by
   unfold ptrT at hel;split at hel
   . rename_i h1;cases hel;exact h1
   . cases hel
  rw[bi_eq]at e;split at e
  . cases e
  rename_i hsz;have hsz:szT P el=1:=by simpa [ve]using hsz
  have hc1:P.cellsOf el=1:=by rw[qyc,hsz]
  simp only[hu,hq,qvg]at e;split at e
  .
   rename_i kk nn;have hqV:=hqr.int;cases nn with
   |negSucc b=>cases e
   |ofNat n=>
    rw[cI_nat]at e;have hmax:IntKind.i64.max=9223372036854775807:=rfl;cases n with
    |zero=>
     rw[cN_zero]at e;split at e
     case h_2=>cases e
     rename_i o' ;cases e;refine Does.ran (n:=.value (.string .empty)) (V:=.string .empty) ?_ (.inl rfl) (.mkS _) h (.refl _ _ _);obtain⟨o,hV⟩:∃ o,a.eval x=.pointer o:=by
      cases o' with
      |none=>exact⟨_,hr.nilptr⟩
      |some ad=>exact⟨_,hr.ptrI.2.choose_spec.2⟩
     cases o with
     |none=>have u:∀ q,Builtin.unsafeString_ ⟨t::ts⟩ ty #[.pointer none,q]=(asInt q >>= _):=fun q=>rfl;simp[execOp,resolve,invoke,builtin,hV,hqV,u,asInt,asIntOf,hmax]
     |some ad=>have u:∀ q,Builtin.unsafeString_ ⟨t::ts⟩ ty #[.pointer (some ad),q]=(asInt q >>= _):=fun q=>rfl;simp[execOp,resolve,invoke,builtin,hV,hqV,u,asInt,asIntOf,hmax]
    |succ n=>
     rw[cN_succ]at e;unfold strM at e;simp only[qu5,M.cells_eq,bi_eq]at e;split at e
     .
      rename_i ad;obtain⟨_,y,hy,hV⟩:=hr.ptrI;split at e
      .
       rename_i ro t' c hc;split at e
       . cases e
       .
        rename_i hck;rw[qxm,qxm,ve,ve,Bool.or_eq_true,Bool.or_eq_true,not_or,not_or]at hck;have h0:ro≠2:=by simpa using hck.1
        have h1:t'=el:=by simpa using hck.2.1
        have h2:n+1<=room:=by simpa using hck.2.2
        subst h1;simp only[natF_eq,takeF_eq,dropL_eq]at e;split at e
        .
         rename_i hle;simp only[List.length_drop]at hle;have hle:n+1<=c.length-ad.off:=hle;have ho:=h.obj ad.block y hy;rw[hc]at ho;obtain⟨us,u1,u2,u3,u4⟩:=qfQ (k:=ad.off) (n:=n+1) ho hy (by omega);obtain⟨bs,b1,b2⟩:=qwO _ _ (by intro k h;cases h) e u2;simp only[M.put_eq]at b1;cases b1;obtain⟨y',vs,fr,o1,o2,o3,o4,o5,o6,o7⟩:=ho;rw[hy]at o1;cases o1;have hlen:bs.length=n+1:=by rw[b2]at u1;simpa using u1
         obtain⟨p1,p2⟩:=h.put (w':=w.freeze ⟨y.b,y.o+ad.off,none⟩ (n+1)) (o:=.cells 1 t' c) hy (by rw[hc];rfl) (by unfold World.freeze;simp) (fun b' hb'=>by rw[qvO o2 _ _ (by omega),if_neg hb'])
          ⟨y,vs,_,hy,by rw[qvO o2 _ _ (by omega),if_pos rfl],(by
           unfold Fr at o3 |-;split
           . right;left;exact⟨rfl,by simp;omega⟩
           . rename_i hne;rcases o3 with o3|⟨_,o3⟩|⟨o3,_⟩
             . exact absurd (by simp[o3]) hne
             . right;left;exact⟨rfl,by simp;omega⟩
             . exact absurd o3 h0),o4,o5,o6,o7⟩ (by unfold World.freeze;simp) (fun hr=>by rw[hc];exact hr)
         refine Does.ran (n:=.value (.string ⟨⟨bs⟩⟩)) (V:=.string ⟨⟨bs⟩⟩) ?_ (.inl rfl) (.mkS _) p1 p2;have hlb:(loadBytes ⟨y.b,y.o+ad.off,none⟩ .empty (n+1)).run P w=.ok ⟨⟨bs⟩⟩ w:=by have:=Lib.run_loadBytes (P:=P) w bs ⟨y.b,y.o+ad.off,none⟩ .empty (fun j x hx=>u3 j _ (by rw[b2,List.getElem?_map,hx];rfl));rw[hlen]at this;rw[this];congr 2;simp
         have hroom:room=1048576:=rfl;have hn1:¬ ((n:Int)+1<0):=by omega
         have hn2:¬ ((9223372036854775807:Int)<(n:Int)+1):=by omega
         have hn3:((n:Int)+1).toNat=n+1:=by omega
         have hn4:¬ ((n:Int)+1=0):=by omega
         have hva:(variablesAt ⟨y.b,y.o+ad.off,none⟩ t' (n+1)).run P w=.ok true w:=by have hl:=qzU (P:=P) hc1 (vs.size / P.cellsOf t') (y.o+ad.off) (n+1) (by rw[hc1,Nat.div_one];omega);simp[variablesAt,World.shape?,o2,hl]
         have u:∀ q,Builtin.unsafeString_ ⟨t::ts⟩ ty #[.pointer (some ⟨y.b,y.o+ad.off,none⟩),q]=(asInt q >>= _):=fun q=>rfl;simp[execOp,resolve,invoke,builtin,hV,hqV,u,asInt,asIntOf,hmax,hn1,hn2,hn3,hn4,elemOf,run_underlying hpt,hva,hlb]
        . cases e
      . cases e
     . cases e
  . cases e
 . cases e
theorem qAD {t}(h:isU8 P t=true):P.underlying t=some (.int .u8):=by
 unfold isU8 at h;split at h
 . assumption
 . cases h
theorem qyb (l)(f):E.byteCells l f=f (l.map fun b=>Value.int .u8 (.ofNat b.toNat)):=by
 unfold E.byteCells
 induction l generalizing f with
 |nil=>rfl
 |cons b l ih=>rw[rL_cons,natF_eq];exact ih fun r=>f (.int .u8 (.ofNat b.toNat)::r)
theorem qxy (h:Hp P μ m w){s t e}(hs:P.underlying s=some .string)(ht:P.underlying t=some (.slice e))(he:P.underlying e=some (.int .u8)){v V r}(e0:sbR e v m=.ret r m')(hv:R μ v V):
  ∃ V2 μ' w',(convert s t V).run P w=.ok V2 w'/\R μ' r V2/\Hp P μ' m' w'/\Gn μ m w μ' m' w':=by
 unfold sbR at e0;rw[qvt]at e0;split at e0
 case h_2=>cases e0
 rename_i b;have:=hv.str;subst this;rw[qyb]at e0;simp only[lenF_eq,bi_eq]at e0;split at e0
 case isFalse=>cases e0
 obtain⟨hn,rfl,rfl⟩:=qvf e0;have hge:b.size<=grownCap w b.size 0 e:=grownCap_ge w b.size 0 e;have hbs:(bytes b).length=b.size:=by simp[bytes]
 have hsz:(Lib.bytesCells w e b).size=grownCap w b.size 0 e:=by simp only[Lib.bytesCells,Array.size_append,Array.size_map,Array.size_replicate];have:b.data.size=b.size:=rfl;omega
 obtain⟨p1,p2⟩:=h.new (w':=Lib.bytesWorld w e b) hn (o:=.cells 2 e ((bytes b).map fun b=>.int .u8 (.ofNat b.toNat))) (x:=⟨w.heap.size,0,(Lib.bytesCells w e b).size⟩) rfl (Lib.bytesWorld_size w e b) (fun j hj=>Lib.bytesWorld_at_old w e b j hj)
  ⟨_,_,_,Mu.set_same μ _ _,Lib.bytesWorld_at_new w e b,.inr (.inr ⟨rfl,Nat.le_refl _⟩),rfl,by simp only[List.length_map,hbs,hsz,Nat.zero_add];exact hge,(fun v hv=>by
   obtain⟨b,_,rfl⟩:=List.mem_map.1 hv;rfl),fun j v e=>by
   rw[List.getElem?_map]at e;cases hb:(bytes b)[j]? with
   |none=>rw[hb]at e;cases e
   |some q=>
    rw[hb]at e;simp only[Option.map_some,Option.some.injEq]at e;subst e;refine⟨_,?_,.mkI _ _⟩;have hlt:j<b.data.size:=by have:=(List.getElem?_eq_some_iff.1 hb).1;simpa [bytes]using this
    have hq:b.data[j]? = some q:=by simpa [bytes]using hb
    show(Lib.bytesCells w e b)[0+j]? = _;rw[Nat.zero_add];simp only[Lib.bytesCells];rw[Array.getElem?_append_left (by simpa using hlt),Array.getElem?_map,hq];rfl⟩ ⟨by unfold Lib.bytesWorld World.freeze;split<;>rfl,by unfold Lib.bytesWorld World.freeze;split<;>rfl⟩ (fun _=>rfl)
 refine⟨_,_,_,Lib.run_convert_string_bytes w s t e b hs ht he,?_,p1,p2⟩;have:((bytes b).map fun b:UInt8=>(Value.int .u8 (.ofNat b.toNat))).length=b.size:=by simp[hbs]
 rw[this];refine .sl m.next 0 b.size 1 ⟨w.heap.size,0,(Lib.bytesCells w e b).size⟩ (grownCap w b.size 0 e) (Mu.set_same μ _ _) hge ?_;rw[hsz];simp
theorem qxf (h:Hp P μ m w){s e}(hs:P.underlying s=some (.slice e))(he:P.underlying e=some (.int .u8)){v V r}(e0:mkR v m=.ret r m')(hv:R μ v V):
  ∃ w',(convert s s V).run P w=.ok V w'/\r=v/\Hp P μ m' w'/\Gn μ m w μ m' w':=by
 unfold mkR at e0;rw[qvx]at e0;split at e0
 . cases e0
 case h_3=>cases e0
 rename_i ad n z;cases n with
 |zero=>rw[cN_zero]at e0;cases e0
 |succ n=>
 rw[cN_succ,M.cells_eq]at e0;split at e0
 case h_2=>cases e0
 rename_i ro t c hc;rw[bi_eq]at e0;split at e0
 . cases e0
 rename_i hro;have hro:ro≠1:=by simpa using hro
 rw[M.put_eq]at e0;cases e0;have key:∀ {y:Lc} (o':Nat) (k:Nat),μ ad.block=some y->V=.slice (some ⟨y.b,o',none⟩) (n+1) k->∃ w',(convert s s V).run P w=.ok V w'/\True/\Hp P μ (m.setA ad.block (.cells 2 t c)) w'/\Gn μ m w μ (m.setA ad.block (.cells 2 t c)) w':=by
  intro y o' k hy hV;have ho:=h.obj _ y hy;rw[hc]at ho;obtain⟨y',vs,fr,o1,o2,o3,o4,o5,o6,o7⟩:=ho;rw[hy]at o1;cases o1;have hsh:w.shape? y.b=some (t,vs.size):=by simp[World.shape?,o2]
  obtain⟨p1,p2⟩:=h.put (w':=w.freeze ⟨y.b,vs.size,none⟩ 1) (o:=.cells 2 t c) hy (by rw[hc];rfl) (by unfold World.freeze;simp) (fun b' hb'=>by rw[qvO o2 _ _ (by omega),if_neg hb'])
   ⟨y,vs,_,hy,by rw[qvO o2 _ _ (by omega),if_pos rfl],(by
    right;right;refine⟨rfl,?_⟩;split
    . simp[o4]
    . rename_i hne;rcases o3 with o3|⟨o3,_⟩|⟨_,o3⟩
      . exact absurd (by simp[o3]) hne
      . exact absurd o3 hro
      . simp only;omega),o4,o5,o6,o7⟩ (by unfold World.freeze;simp) (fun hr=>by rw[hc];exact hr)
  refine⟨_,?_,trivial,p1,p2⟩;subst hV;simp[convert,run_underlying hs,run_underlying he,markStringish,hsh]
 obtain⟨_,⟨h0,_⟩|⟨y,cap,hy,hcap,hs',hV⟩⟩:=hv.slI
 . cases h0
 . obtain⟨w',k1,k2,k3,k4⟩:=key _ _ hy hV;exact⟨w',k1,rfl,k3,k4⟩
theorem qby (h:Hp P μ m w)(hF:RF μ dp nt F a.tmps)(hG:Gl P μ){t x y v}(e:(loud P dp (.makeSlice t x y)).f F m=.ret v m')(dst ty pos after)(guard):
  Ran P μ m w (execOp a.eval ⟨dst,.makeSlice t x y,ty,pos,after,guard⟩) v m':=by
 unfold loud at e;obtain⟨p,hp,hpr⟩:=zf hF hG x;obtain⟨q,hq,hqr⟩:=zf hF hG y;simp only at e;split at e
 case h_2=>cases e
 rename_i el hel;obtain⟨hu,hok⟩:=qxQ hel;split at e
 case h_2=>cases e
 rename_i z hz;obtain⟨z1,z2,⟨i,zv,hi,hiz,z3⟩,_⟩:=qyD hz;simp only[hp,hq,qvg]at e;split at e
 case h_2=>cases e
 rename_i k n;split at e
 case h_2=>cases e
 rename_i k' n';cases n with
 |negSucc n=>simp only[cI_neg]at e;cases e
 |ofNat n=>
  cases n' with
  |negSucc n'=>simp only[cI_nat,cI_neg]at e;cases e
  |ofNat n'=>
   simp only[cI_nat,bi_eq,qwG,natF_eq]at e;split at e
   case isFalse=>cases e
   rename_i hle;have hle:n<=n':=Nat.le_of_ble_eq_true hle;split at e
   case isFalse=>cases e
   rename_i hroom;have hroom:n'*(byT P el+1)<=1048576:=Nat.le_of_ble_eq_true hroom;obtain⟨hn,rfl,rfl⟩:=qvf e;have hby:byT P el=i.bytes:=by simp[byT,hi]
   have hsz:szT P el=i.size:=by simp[szT,hi]
   have hn':n'<=1048576:=Nat.le_trans (Nat.le_mul_of_pos_right _ (Nat.succ_pos _)) hroom;have hbn:i.bytes*n'<=1048576:=by
    rw[hby]at hroom;have h1:n'*(i.bytes+1)=i.bytes*n'+n':=by rw[Nat.mul_add,Nat.mul_one,Nat.mul_comm]
    omega
   obtain⟨f1,f2⟩:=qwY (μ:=μ) z1 n;have hzs:zv.cells.size=szT P el:=by rw[<- z2,<- z3];simp
   have hcells:madeCells zv.cells (n'*i.size)=⟨(List.replicate n' z).flatten⟩:=by
    by_cases h0:i.size=0
    . have hz0:z=[]:=List.length_eq_zero_iff.1 (by omega);subst hz0;rw[h0];simp[madeCells]
    . apply Array.ext';rw[<- hsz];exact(qf9 zv.cells (szT P el) n' hzs (by omega)).trans (by rw[z3])
   have hpre:(List.replicate n' z).flatten=(List.replicate n z).flatten++(List.replicate (n'-n) z).flatten:=by rw[<- List.flatten_append,List.replicate_append_replicate];congr 2;omega
   have hr3:∀ (j:Nat) (v:Value),(List.replicate n z).flatten[j]? = some v->∃ u,(⟨(List.replicate n' z).flatten⟩:Array Value)[j]? = some u/\R μ v u:=fun j v hv=>by obtain⟨V,h1,h2⟩:=f1.get hv;refine⟨V,?_,h2⟩;have hlt:=(List.getElem?_eq_some_iff.1 h1).1;show(⟨(List.replicate n' z).flatten⟩:Array Value)[j]? = _;rw[<- Array.getElem?_toList];show(List.replicate n' z).flatten[j]? = _;rw[hpre,List.getElem?_append_left hlt];exact h1
   have r2:(⟨(List.replicate n' z).flatten⟩:Array Value).size=n'*szT P el:=by simp[z2]
   have hlen:(List.replicate n z).flatten.length<=(⟨(List.replicate n' z).flatten⟩:Array Value).size:=by rw[r2,List.length_flatten];simp only[List.map_replicate,List.sum_replicate_nat,z2];exact Nat.mul_le_mul_right _ hle
   obtain⟨p1,p2⟩:=h.newCells (ro:=0) (t:=el) (vs:=⟨(List.replicate n' z).flatten⟩) (fr:=(0,0)) (w0:=w) hn hlen f2 hr3 rfl ⟨rfl,rfl⟩ (.inl rfl);have hbi:(i.bytes:Int)*(n':Int)<=281474976710656:=by
    have:(i.bytes:Int)*(n':Int)=((i.bytes*n':Nat):Int):=by simp
    omega
   have run:=run_make (P:=P) w t el i zv hu hi hiz k k' (n:Int) (n':Int) (by omega) (by omega) hbi (by omega);simp only[Int.toNat_natCast,hcells]at run;have hV1:a.eval x=.int k n:=hpr.int;have hV2:a.eval y=.int k' n':=hqr.int;refine Does.ran (n:=.value (.slice (some ⟨w.heap.size,0,none⟩) n n')) (V:=.slice (some ⟨w.heap.size,0,none⟩) n n') ?_ (.inl rfl) ?_ p1 p2
   . simp[execOp,hV1,hV2,run]
   . refine .sl m.next 0 n (szT P el) ⟨w.heap.size,0,_⟩ n' (Mu.set_same μ _ _) hle ?_;rw[r2];simp
end
end E
end Go.Proofs.YtjnefcbeemkkeaaGreat
namespace Go.Proofs.YtjnefcbeemkkeaaGreat
namespace E
section
variable {P:Program} {μ:Mu} {dp nt:Nat} {F:T Value} {a:Act} {w w':World} {m m':M}
theorem qgi (h:Hp P μ m w)(hF:RF μ dp nt F a.tmps)(hG:Gl P μ){op v}(e:(loud P dp op).f F m=.ret v m')(dst ty pos after)(guard):
  Ran P μ m w (execOp a.eval ⟨dst,op,ty,pos,after,guard⟩) v m':=by
 have e0:=e;unfold loud at e;split at e
 . exact qeI h e0 ..
 . exact qhH h hF hG e0 ..
 . exact qas h hF hG e0 ..
 . exact qcE h e0 ..
 . exact qeW h hF hG e0 ..
 .
  rename_i t x k y;split at e
  . rename_i kt et hm;obtain⟨u1,h1,r1⟩:=zf hF hG x;obtain⟨u2,h2,r2⟩:=zf hF hG k;obtain⟨u3,h3,r3⟩:=zf hF hG y;rw[bi_eq]at e;split at e
    . rename_i hsk;simp only[h1,h2,h3]at e;obtain⟨w',run,rfl,p1,p2⟩:=qxA h hm hsk e r1 r2 r3;exact Does.ran (n:=.skip) (V:=Go.undef) (by simp[execOp,run]) (.inr ⟨rfl,rfl⟩) .undef p1 p2
    . simp only[h1,h2,h3]at e;obtain⟨w',run,rfl,p1,p2⟩:=qyo h hF hG hm e r1 r2 r3;exact Does.ran (n:=.skip) (V:=Go.undef) (by simp[execOp,run]) (.inr ⟨rfl,rfl⟩) .undef p1 p2
  . cases e
 .
  rename_i t x k y;split at e
  . rename_i kt et hm;obtain⟨u1,h1,r1⟩:=zf hF hG x;obtain⟨u2,h2,r2⟩:=zf hF hG k;obtain⟨u3,h3,r3⟩:=zf hF hG y;rw[bi_eq]at e;split at e
    . rename_i hsk;simp only[h1,h2,h3]at e;obtain⟨w',run,rfl,p1,p2⟩:=qxA h hm hsk e r1 r2 r3;exact Does.ran (n:=.skip) (V:=Go.undef) (by simp[execOp,run]) (.inr ⟨rfl,rfl⟩) .undef p1 p2
    . simp only[h1,h2,h3]at e;obtain⟨w',run,rfl,p1,p2⟩:=qyo h hF hG hm e r1 r2 r3;exact Does.ran (n:=.skip) (V:=Go.undef) (by simp[execOp,run]) (.inr ⟨rfl,rfl⟩) .undef p1 p2
  . cases e
 . exact qy3 h hF hG e0 ..
 . exact qby h hF hG e0 ..
 .
  rename_i s t x;split at e
  . rename_i el hs ht;rw[bi_eq]at e;split at e
    . rename_i h8;obtain⟨u,hu,hr⟩:=zf hF hG x;simp only[hu]at e;obtain⟨V,μ',w',run,hv,p1,p2⟩:=qxy h hs ht (qAD h8) e hr;exact Does.ran (n:=.value V) (by simp[execOp,run]) (.inl rfl) hv p1 p2
    . cases e
  . rename_i el0 el hs ht;rw[bi_eq]at e;split at e
    . rename_i hc;rw[qu1,Bool.and_eq_true]at hc;have hst:s=t:=Nat.eq_of_beq_eq_true hc.1;subst hst;rw[hs]at ht;cases ht;obtain⟨u,hu,hr⟩:=zf hF hG x;simp only[hu]at e;obtain⟨w',run,rfl,p1,p2⟩:=qxf h hs (qAD hc.2) e hr;exact Does.ran (n:=.value (a.eval x)) (by simp[execOp,run]) (.inl rfl) (hr.mono p2.ext) p1 p2
    . cases e
  . cases e
 . exact qzW h hF hG e0 ..
 . exact qyN h hF hG e0 ..
 .
  rename_i s x t t1;split at e
  .
   rename_i el hel;obtain⟨hu,hok⟩:=qxQ hel;rw[bi_eq]at e;split at e
   . cases e
   . rename_i hck;simp only[ve,qu1,qxm,Bool.not_eq_true',Bool.not_eq_true,Bool.not_eq_false',Bool.and_eq_true,Bool.or_eq_false_iff,Bool.not_eq_false,ne_eq]at hck;obtain⟨hk,hz,hrt,hs0⟩:=hck;obtain⟨z0,hz⟩:=Option.isSome_iff_exists.1 hz;have hs0:szT P el≠0:=fun h0=>by rw[h0]at hs0;cases hs0
     obtain⟨u1,h1,r1⟩:=zf hF hG s;obtain⟨u2,h2,r2⟩:=zf hF hG x;simp only[h1,h2]at e;obtain⟨V,μ',w',run,hv,p1,p2⟩:=qdu (P:=P) (ty:=ty) h hu hk hz hs0 hrt e r1 r2;exact Does.ran (n:=.value V) (by simp[execOp,resolve,invoke,builtin,run]) (.inl rfl) hv p1 p2
  . cases e
 .
  rename_i x k t ts;split at e
  . rename_i kt et hm;obtain⟨u1,h1,r1⟩:=zf hF hG x;obtain⟨u2,h2,r2⟩:=zf hF hG k;rw[bi_eq]at e;split at e
    . rename_i hsk;simp only[h1,h2]at e;obtain⟨w',run,rfl,p1,p2⟩:=qzR (ts:=ts) (ty:=ty) h hm hsk e r1 r2;exact Does.ran (n:=.value Go.undef) (V:=Go.undef) (by simp[execOp,resolve,invoke,builtin,run]) (.inl rfl) .undef p1 p2
    . cases e
  . cases e
 .
  rename_i x y t t1;split at e
  .
   rename_i el hel;obtain⟨hu,hok⟩:=qxQ hel;rw[bi_eq]at e;split at e
   . cases e
   rename_i hk;rw[ve]at hk;have hk:srcT P t1=true:=by simpa using hk
   obtain⟨u1,h1,r1⟩:=zf hF hG x;obtain⟨u2,h2,r2⟩:=zf hF hG y;simp only[h1,h2,qvx]at e;have key:∀ {b:Option Addr} {n c:Nat},a.eval x=.slice b n c->a.eval y=.slice none 0 0->Ran P μ m w (execOp a.eval ⟨dst,.call { callee:=.builtin .copy,args:=⟨[x,y]⟩,argTypes:=⟨[t,t1]⟩ },ty,pos,after,guard⟩) (.int .i64 (.ofNat 0)) m:=by
    intro b n c hx hy;have hmin:Nat.min 0 n=0:=Nat.zero_min n;have hsz:=run_sizeOf (P:=P) (quZ hok) w;refine Does.ran (n:=.value (.int .i64 0)) (V:=.int .i64 0) ?_ (.inl rfl) (.mkI _ _) h (.refl _ _ _);have run:(Builtin.copy_ ⟨[t,t1]⟩ ty #[a.eval x,a.eval y]).run P w=.ok (.int .i64 0) w:=by rw[hx,hy];cases b<;>simp[Builtin.copy_,run_underlying hu,Builtin.lenOf,Builtin.firstCells,hsz,hmin,storeCells,goInt]<;>rfl
    simp[execOp,resolve,invoke,builtin,run]
   split at e
   . obtain⟨_,_,hy⟩:=r2.nilsl;split at e
     . obtain⟨_,_,hx⟩:=r1.nilsl;cases e;exact key hx hy
     . obtain⟨_,⟨_,_,a',hx⟩|⟨z,cap,_,_,_,hx⟩⟩:=r1.slI<;>(cases e;exact key hx hy)
     . cases e
   . cases e
   . cases e
  . cases e
 . exact qyK h hF hG e0 ..
 . exact qz7 h hF hG e0 ..
 . cases e
end
end E
end Go.Proofs.YtjnefcbeemkkeaaGreat
namespace Go.Proofs.YtjnefcbeemkkeaaGreat
namespace E
section
variable {P:Program} {μ:Mu} {dp nt:Nat} {F:T Value} {a:Act} {w w':World} {m m':M}
theorem RF.put (h:RF μ dp nt F a.tmps){v V}(hv:R μ v V)(d){β}(c:T Value->β):∃ F1,(putD dp nt d).f v F c=c F1/\RF μ dp nt F1 (a.put d V).tmps:=by
 cases d with
 |none=>exact⟨F,rfl,h⟩
 |some d=>
  by_cases hd:d<nt
  .
   have hd4:=Nat.lt_of_lt_of_le hd h.le;refine⟨T.put dp d v F,by simp[putD,Nat.blt_eq,hd],?_⟩;refine⟨by simp[Act.put,h.size],h.le,fun t ht=>?_⟩;show R μ _ ((a.tmps.setIfInBounds d V).getD t Go.undef);by_cases ht':t=d
   . subst ht';rw[T.look_put_same];have:(a.tmps.setIfInBounds t V).getD t Go.undef=V:=by simp[Array.getD_eq_getD_getElem?,h.size,hd]
     rw[this];exact hv
   . rw[T.look_put_other _ _ _ _ _ _ ht hd4 ht'];have:(a.tmps.setIfInBounds d V).getD t Go.undef=a.tmps.getD t Go.undef:=by simp[Array.getD_eq_getD_getElem?,Array.getElem?_setIfInBounds,Ne.symm ht']
     rw[this];exact h.at_ t ht
  .
   refine⟨F,by simp[putD,Nat.blt_eq,hd],?_⟩;have:(a.put (some d) V).tmps=a.tmps:=by
    show a.tmps.setIfInBounds d V=a.tmps;apply Array.ext
    . simp
    . intro i h1 h2;have:=h.size;rw[Array.getElem_setIfInBounds];have h3:i<a.tmps.size:=by simpa using h1
      rw[if_neg (show ¬ d=i from fun h4=>hd (h4▸(by omega:i<nt)))]
   rw[this];exact h
theorem put_defers (a:Act)(d:Option Nat)(V):(a.put d V).defers=a.defers:=by cases d<;>rfl
inductive Ex (μ:Mu):X->Exit->Prop
 |norm:Ex μ .norm .normal
 |ret:Ex μ .ret .ret
 |exit (id):Ex μ (.exit id) (.exit id)
 |pan (v V) (h:R μ v V):Ex μ (.pan v) (.panic [{ v:=V,recovered:=false }])
structure St (D:List Deferred) (P:Program) (dp nt:Nat) (μ0:Mu) (m0:M) (w0:World) (F:T Value) (m:M) (a:Act) (w:World) (μ:Mu):Prop where
 hp:Hp P μ m w
 gn:Gn μ0 m0 w0 μ m w
 gl:Gl P μ
 rf:RF μ dp nt F a.tmps
 df:a.defers=D
def Stands (D:List Deferred)(P:Program)(dp nt:Nat)(μ0:Mu)(m0:M)(w0:World)(x:X)(F:T Value)(m:M)(e:Exit)(a:Act)(w:World):Prop:=∃ μ,Ex μ x e/\St D P dp nt μ0 m0 w0 F m a w μ
def Fin (P:Program)(μ:Mu)(m:M)(w:World):CO->Ending->World->Prop
 |.ret v m',.returned V,w'=>∃ μ',R μ' v V/\Hp P μ' m' w'/\Gn μ m w μ' m' w'
 |.pan v m',.panicked ps,w'=>∃ V μ',ps=[{ v:=V,recovered:=false }]/\R μ' v V/\Hp P μ' m' w'/\Gn μ m w μ' m' w'
 |_,_,_=>False
def FW (ro:Option Nat):Fence:={ Fence.wide with round:=ro }
theorem FW.room {ro}{p:Prop}(h:(FW ro).depth.isSome=true):p:=by simp[FW,Fence.wide]at h
theorem qAh {ro P f args w R}(h:Calls P f args w R):CallsIn (FW ro) (0-1) P f args w R:=(callsIn_wide.2 h:CallsIn Fence.wide (0-1) P f args w R)
theorem qCA {ro P l f tmps assign body w R}(h:RoundIn Fence.wide 0 P l f tmps assign body w R):RoundIn (FW ro) (0-1) P l f tmps assign body w R:=h
def TgOk (P:Program)(t:Tg)(m:M)(r:CO)(μ:Mu)(w:World)(L:List Value):Prop:=match t with
 |.fn f=>(∃ fn,P.funcs[f]? = some fn/\fn.body.isSome=true/\(fn.name == "runtime.NumGoroutine")=false/\Calls P f ⟨L⟩ w (Fin P μ m w r)) \/
  (∃ v V w' μ' m',(callFunc f ⟨L⟩).run P w=.ok (.value V) w'/\R μ' v V/\r=.ret v m'/\Hp P μ' m' w'/\Gn μ m w μ' m' w'/\∀ fn,P.funcs[f]? = some fn->fn.body=none)
 |.yd j=>∀ x,μ j=some x->∃ f tmps as bo,(Instr.yield x.b ⟨L⟩).run P w=.ok (.round x.b f tmps as bo) w/\RoundIn Fence.wide 0 P x.b f tmps as bo w (Fin P μ m w r)
def RecSound (P:Program)(rec:Rec):Prop:=∀ (t:Tg) (l:List Value) (m:M) (r:CO),rec t l m=r->(∀ k,r≠.no k)->∀ (μ:Mu) (w:World) (L:List Value),Hp P μ m w->Gl P μ->RL μ l L->TgOk P t m r μ w L
theorem Yh {P}{f:Nat}{fn}(h:P.funcs[f]? = some fn)(hb:fn.body.isSome=true)(hn:(fn.name == "runtime.NumGoroutine")=false)(args)(w):
  (callFunc f args).run P w=.ok (.enter f args) w:=by
 have hb':fn.body.isNone=false:=by cases hx:fn.body<;>simp_all
 simp only[callFunc,program,bind,Sem.bind,Sem.run,h,hn,hb',Bool.false_eq_true,if_false];rfl
theorem qxF {D ro rec}(hrec:RecSound P rec){μ0 m0 w0 o k x F'}(e:(oper P dp nt o).f rec k F m=.go x F' m')(h:St D P dp nt μ0 m0 w0 F m a w μ){next Q}(hnext:∀ F1 m1 a1 w1 μ1,St D P dp nt μ0 m0 w0 F1 m1 a1 w1 μ1->k F1 m1=.go x F' m'->next a1 w1)(hQ:∀ e a' w',x≠.norm->Stands D P dp nt μ0 m0 w0 x F' m' e a' w'->Q e a' w'):o.wpIn (FW ro) 0 P a w next Q:=by
 have hnd:∀ c,o.op≠.defer c:=by intro c hc;simp[oper,hc,isQ,isR,loud,noC,qvw]at e
 unfold oper at e;refine⟨fun _ _=>trivial,?_⟩;rw[Oper.semAt_eq _ _ _ hnd];have done:∀ {v V:Value} {μ1:Mu} {m1:M} {w1:World},R μ1 v V->Hp P μ1 m1 w1->Gn μ m w μ1 m1 w1->((putD dp nt o.dst).f v F fun F=>k F m1)=.go x F' m'->next (a.put o.dst V) w1:=by intro v V μ1 m1 w1 hv hp hg e;obtain⟨F1,h1,h2⟩:=(h.rf.mono hg.ext).put hv o.dst fun F=>k F m1;rw[h1]at e;exact hnext F1 m1 _ w1 μ1 ⟨hp,h.gn.trans hg,h.gl.mono hg.ext,h2,by rw[put_defers];exact h.df⟩ e
 rw[bi_eq]at e;split at e
 .
  simp only[qxj]at e;split at e
  . rename_i v hv;obtain⟨V,run,hr⟩:=qaS (w:=w) h.hp.root h.rf h.gl h.hp.obj hv o.dst o.type o.pos o.after o.guard;have:(execOp a.eval o).run P w=.ok (.value V) w:=run;rw[this];exact done hr h.hp (.refl _ _ _) e
  . cases e
 rw[bi_eq]at e;split at e
 .
  simp only[qvw]at e;obtain⟨dst,op,ty,pos,after,guard⟩:=o;simp only at e done;cases op with
  |call c=>
   generalize hq:(recR P dp (Op.call c)).f rec F m=r at e;have hno:∀ k,r≠.no k:=by rintro k rfl;cases e
   unfold recR qwr at hq;obtain⟨callee,cargs,ctys⟩:=c;cases callee with
   |value g=>
    obtain⟨u,hu,hr⟩:=zf h.rf h.gl g;obtain⟨as,has,hras⟩:=qvW (P:=P) h.rf h.gl cargs.toList;simp only[hu,qxW]at hq;split at hq
    case h_2=>
     simp only[qyZ]at hq;split at hq
     case h_2=>exact absurd hq.symm (hno _)
     rename_i j l1 l2 hne;obtain⟨rfl,rfl,y,hy,hV⟩:=hr.ydI;simp only[has]at hq;have hL:RL μ as (cargs.map a.eval).toList:=by simpa using hras
     have run:(execOp a.eval ⟨dst,.call ⟨.value g,cargs,ctys⟩,ty,pos,after,guard⟩).run P w=(Instr.yield y.b (cargs.map a.eval)).run P w:=by simp only[execOp,resolve,hV,Deferred.ofValue,invoke,pure_bind];simp
     rw[run];obtain⟨f,ts,as_,bo,f1,hround⟩:=hrec (.yd j) _ m r hq hno μ w _ h.hp h.gl hL y hy;replace f1:(Instr.yield y.b (cargs.map a.eval)).run P w=.ok (.round y.b f ts as_ bo) w:=f1;rw[f1,Oper.uponIn_round];refine⟨fun h=>FW.room h,qCA (hround.mono fun en w' hb=>?_)⟩;cases r with
     |no k=>exact absurd rfl (hno k)
     |ret v m1=>
      cases en with
      |returned V=>obtain⟨μ1,hv,hp,hg⟩:=hb;exact done hv hp hg e
      |_=>exact hb.elim
     |pan v m1=>
      cases en with
      |panicked ps=>obtain⟨V,μ1,rfl,hv,hp,hg⟩:=hb;cases e;exact hQ _ _ _ (by simp) ⟨μ1,.pan _ _ hv,hp,h.gn.trans hg,h.gl.mono hg.ext,h.rf.mono hg.ext,h.df⟩
      |_=>exact hb.elim
    rename_i f l1 l2;simp only[has,appF_eq]at hq;obtain⟨b1,b2,hV,hr1,hr2⟩:=hr.fnI;have hL:RL μ (l1.toList++(as++l2.toList)) ((b1++cargs.map a.eval++b2).toList):=by simp only[Array.toList_append,Array.toList_map,List.append_assoc];exact hr1.append (hras.append hr2)
    have run:(execOp a.eval ⟨dst,.call ⟨.value g,cargs,ctys⟩,ty,pos,after,guard⟩).run P w=(callFunc f (b1++cargs.map a.eval++b2)).run P w:=by simp only[execOp,resolve,hV,Deferred.ofValue,invoke,pure_bind]
    rw[run];rcases hrec (.fn f) _ m r hq hno μ w _ h.hp h.gl hL with⟨fn,f1,f2,f3,hcall⟩|⟨v,V,w2,μ2,m2,f1,f2,rfl,hp2,hg2,_⟩
    .
     rw[Yh f1 f2 f3,Oper.uponIn_enter];replace hcall:Calls P f (b1++cargs.map a.eval++b2) w (Fin P μ m w r):=hcall;refine⟨fun h=>FW.room h,qAh (Calls.mono hcall fun en w' hb=>?_)⟩;cases r with
     |no k=>exact absurd rfl (hno k)
     |ret v m1=>
      cases en with
      |returned V=>obtain⟨μ1,hv,hp,hg⟩:=hb;exact done hv hp hg e
      |_=>exact hb.elim
     |pan v m1=>
      cases en with
      |panicked ps=>obtain⟨V,μ1,rfl,hv,hp,hg⟩:=hb;cases e;exact hQ _ _ _ (by simp) ⟨μ1,.pan _ _ hv,hp,h.gn.trans hg,h.gl.mono hg.ext,h.rf.mono hg.ext,h.df⟩
      |_=>exact hb.elim
    . replace f1:(callFunc f (b1++cargs.map a.eval++b2)).run P w=.ok (.value V) w2:=f1;rw[f1];exact done f2 hp2 hg2 e
   |_=>exact absurd hq.symm (hno _)
  |panic x0=>
   generalize hq:(recR P dp (Op.panic x0)).f rec F m=r at e;have hno:∀ k,r≠.no k:=by rintro k rfl;cases e
   unfold recR at hq;obtain⟨u,hu,hr⟩:=zf h.rf h.gl x0;simp only[hu,qyY]at hq;split at hq
   case h_1=>exact absurd hq.symm (hno _)
   case h_3=>exact absurd hq.symm (hno _)
   rename_i t v;subst hq;cases e;obtain⟨V,hV,hr'⟩:=hr.ifI;have run:(execOp a.eval ⟨dst,.panic x0,ty,pos,after,guard⟩).run P w=.halt (.panic (.iface t V)) w:=by simp only[execOp,Instr.panic,hV];rfl
   rw[run];exact hQ _ _ _ (by simp) ⟨μ,.pan _ _ (.iface t v V hr'),h⟩
  |_=>cases e
 .
  simp only[qvw]at e;split at e
  . rename_i v m1 hl;obtain⟨n,V,μ1,w1,run,hn,hv,hp,hg⟩:=qgi h.hp h.rf h.gl hl o.dst o.type o.pos o.after o.guard;have run':(execOp a.eval o).run P w=.ok n w1:=run;rw[run'];rcases hn with rfl|⟨rfl,rfl⟩
    . exact done hv hp hg e
    . exact done hv hp hg e
  . cases e
  . cases e
end
end E
end Go.Proofs.YtjnefcbeemkkeaaGreat
namespace Go.Proofs.YtjnefcbeemkkeaaGreat
namespace E
section
variable {D:List Deferred} {ro:Option Nat} {P:Program} {dp nt:Nat} {μ0:Mu} {m0:M} {w0:World} {rec:Rec}
theorem qxu {μ F m a w}(h:St D P dp nt μ0 m0 w0 F m a w μ)(d){β}(c:T Value->β):∃ F1,(putD dp nt d).f undef F c=c F1/\St D P dp nt μ0 m0 w0 F1 m (a.put d Go.undef) w μ:=by obtain⟨F1,h1,h2⟩:=h.rf.put (v:=undef) (V:=Go.undef) .undef d c;exact⟨F1,h1,h.hp,h.gn,h.gl,h2,by rw[put_defers];exact h.df⟩
theorem qyX {β}(want v)(a b z:β):onGd want v a b z=match v with|.bool t=>(if t=want then a else b)|.tuple _=>b|_=>z:=by unfold onGd;rw[qvH,qzz];cases v<;>first|rfl|(rename_i t;cases t<;>cases want<;>rfl)
theorem qwk {ops g μ F m a w}(h:St D P dp nt μ0 m0 w0 F m a w μ):∃ v,(∀ c:Value->Out,(guardOf P dp ops.toList g).f F c=c v) /\
  ∀ o:Oper,o.guard=some g->(∀ b,v=.bool b->Region.wanted o (yielded ops a.tmps)=(b==g.2))/\(∀ l,v=.tuple l->Region.wanted o (yielded ops a.tmps)=false):=by
 obtain⟨j,want⟩:=g;unfold guardOf;cases hd:(ops.toList[j]?).bind (·.dst)with
 |none=>refine⟨unk,fun c=>by simp only[hd],fun o _=>⟨fun b hb=>(by cases hb),fun l hl=>(by cases hl)⟩⟩
 |some d=>
  obtain⟨v,hv,hr⟩:=zf h.rf h.gl (.tmp d);refine⟨v,fun c=>by simp only[hd];exact hv _ c,fun o ho=>?_⟩;have hd':(ops[j]?).bind (·.dst)=some d:=by rw[<- Array.getElem?_toList];exact hd
  have hev:a.eval (.tmp d)=a.tmps.getD d Go.undef:=rfl;rw[hev]at hr;have hy:yielded ops a.tmps j=(match a.tmps[d]? with|some (.bool b)=>some b|_=>none):=by
   simp only[yielded,hd',Option.bind_some];rcases a.tmps[d]? with _|V
   . rfl
   . cases V<;>rfl
  refine⟨fun b hb=>?_,fun l hl=>?_⟩
  .
   subst hb;have hV:=hr.bool;have hq:a.tmps[d]? = some (.bool b):=by
    rw[Array.getD_eq_getD_getElem?]at hV;cases ht:a.tmps[d]? with
    |none=>rw[ht]at hV;cases hV
    |some V=>rw[ht]at hV;simpa using hV
   simp only[Region.wanted,ho,hy,hq];cases b<;>cases want<;>rfl
  .
   subst hl;obtain⟨l',hV,_⟩:=hr.tupI;have hq:yielded ops a.tmps j=none:=by
    rw[hy];rw[Array.getD_eq_getD_getElem?]at hV;cases ht:a.tmps[d]? with
    |none=>rfl
    |some V=>rw[ht]at hV;simp at hV;subst hV;rfl
   simp only[Region.wanted,ho,hq];cases want<;>rfl
theorem qvS (hrec:RecSound P rec){ops Q}:∀ (rest:List Oper) (i:Nat) (F:T Value) (m:M) (a:Act) (w:World) (μ:Mu) (x:X) (F':T Value) (m':M),(∀ (k:Nat) o,rest[k]? = some o->ops[i+k]? = some o) ->
  St D P dp nt μ0 m0 w0 F m a w μ->(opers P dp nt ops.toList rest).f rec F m=.go x F' m'->(∀ e a' w',Stands D P dp nt μ0 m0 w0 x F' m' e a' w'->Q e a' w')->wpOpsIn (FW ro) 0 P ops Q (List.range' i rest.length) a w
 |[],i,F,m,a,w,μ,x,F',m',_,h,e,hq=>by cases e;exact hq _ _ _ ⟨μ,.norm,h⟩
 |o::rest,i,F,m,a,w,μ,x,F',m',hi,h,e,hq=>by
  have ho:ops[i]? = some o:=by have:=hi 0 o rfl;simpa using this
  have hi':∀ (k:Nat) o,rest[k]? = some o->ops[i+1+k]? = some o:=fun k o h=>by have:=hi (k+1) o (by simpa using h);rw[show i+(k+1)=i+1+k by omega]at this;exact this
  show wpOpsIn (FW ro) 0 P ops Q (i::List.range' (i+1) rest.length) a w;simp only[wpOpsIn,ho];have run:∀ e:(oper P dp nt o).f rec (fun F m=>(opers P dp nt ops.toList rest).f rec F m) F m=.go x F' m',o.wpIn (FW ro) 0 P a w (wpOpsIn (FW ro) 0 P ops Q (List.range' (i+1) rest.length)) Q:=fun e=>qxF hrec e h (fun F1 m1 a1 w1 μ1 h1 e1=>qvS hrec rest (i+1) F1 m1 a1 w1 μ1 x F' m' hi' h1 e1 hq) (fun e a' w' _=>hq e a' w');have skip:∀ e:((putD dp nt o.dst).f undef F fun F=>(opers P dp nt ops.toList rest).f rec F m)=.go x F' m',wpOpsIn (FW ro) 0 P ops Q (List.range' (i+1) rest.length) (a.put o.dst Go.undef) w:=fun e=>by obtain⟨F1,h1,h2⟩:=qxu h o.dst fun F=>(opers P dp nt ops.toList rest).f rec F m;rw[h1]at e;exact qvS hrec rest (i+1) F1 m _ w μ x F' m' hi' h2 e hq
  unfold opers at e;unfold one1 at e;split at e
  . rename_i hg;have hw:Region.wanted o (yielded ops a.tmps)=true:=by simp only[Region.wanted,hg]
    rw[if_pos hw];exact run e
  .
   rename_i g hg;obtain⟨v,hv,hw⟩:=qwk (ops:=ops) (g:=g) h;obtain⟨hw1,hw2⟩:=hw o hg;simp only[hv,qyX]at e;split at e
   . rename_i t;have:=hw1 t rfl;split at e
     . rename_i htw;rw[if_pos (by rw[this,htw];simp)];exact run e
     . rename_i htw;rw[if_neg (by rw[this];simpa using htw)];exact⟨fun _ _=>trivial,skip e⟩
   . rename_i l;rw[if_neg (by rw[hw2 l rfl];simp)];exact⟨fun _ _=>trivial,skip e⟩
   . cases e
end
end E
end Go.Proofs.YtjnefcbeemkkeaaGreat
