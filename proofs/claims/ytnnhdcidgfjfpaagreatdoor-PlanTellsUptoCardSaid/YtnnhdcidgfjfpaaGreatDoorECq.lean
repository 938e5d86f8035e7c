/-
  The interpreter is sound: operations that turn memory; one operation. No claim stands here.
-/
import Derived.Test.YtnnhdcidgfjfpaaGreatDoorEBq
import Derived.Lib.OthersKept
import Derived.Maps.RangeRun
import Derived.Lib.ConvBytes
import Derived.Laws.MakeOwn
import Derived.Laws.AppendOwn
import Derived.Orders
import Derived.LoopNIn
import Derived.OrdersIn
import Derived.RangeFuncLeaves
import Derived.RangeFuncCalls
set_option linter.all false
namespace Go.Proofs.YtnnhdcidgfjfpaaGreatDoor
namespace E
section
variable {P:Program} {μ:Mu} {dp nt:Nat} {F:T Value} {a:Act} {w w':World} {m m':M}
theorem Hp.kill (h:Hp P μ m w){i x}(n:μ i=some x):Hp P μ (m.setA i .dead) w/\Gn μ m w μ (m.setA i .dead) w:=by
 have o:=h.idroom n;have at_:∀ q,q<4 ^ hd->(m.setA i .dead).at q=if q=i then .dead else m.at q:=by
  intro q c;by_cases b:q=i
  . subst b;rw[if_pos rfl,M.at_setA_same]
  . rw[if_neg b,M.at_setA_other m i q _ o c b]
 refine⟨⟨λq y e=>?_,h.fresh,h.room,λq y e d=>?_,h.lt,λp q y z g f c k l=>?_⟩,⟨.refl μ,Nat.le_refl _,Nat.le_refl _,λ_ _ _=>rfl,λq y j e=>?_,⟨rfl,rfl⟩,λ_ _=>rfl⟩⟩
 .
  rw[at_ q (h.idroom e)];split
  . trivial
  . exact h.obj q y e
 .
  rw[at_ q (h.idroom e)]at d;split at d
  . cases d
  . exact h.root q y e d
 .
  rw[at_ p (h.idroom k)]at f;rw[at_ q (h.idroom l)]at c;split at f
  . cases f
  . split at c
    . cases c
    . exact h.inj p q y z g f c k l
 .
  rw[at_ q (h.idroom e)]at j;split at j
  . cases j
  grind
theorem qCq (I:HO μ w m){t J t1}(h:P.underlying t=some (.slice J))(K:srcT P t1=true){sz x X}(p:R μ x X){c r}(L:∀ k,.no k≠r)(e:srcF sz x m c=r):
  ∃ n new j,c n new=r/\Src P sz t1 X n j w/\RL μ new j/\ones new:=by
 have d:(∃ N,P.underlying t1=some (.slice N))\/P.underlying t1=some .string:=by
  unfold srcT at K
  grind
 have g:∀ {n j},Src P sz t X n j w->Src P sz t1 X n j w:=λs=>⟨d,s.len,s.cells,s.cellsD,s.newsLen,s.one⟩
 unfold srcF at e;simp only[qvH]at e;split at e
 . obtain⟨rfl,rfl,rfl⟩:=p.nilsl;exact⟨0,[],[],e,g (.ofNil w h 0),.nil,.nil⟩
 .
  rename_i o n z;simp only[natF_eq,M.cells_eq]at e;split at e
  .
   rename_i ro t' cs O;simp only[takeF_eq,dropL_eq]at e;split at e
   .
    rename_i i;have i:n*sz<=(cs.drop o.off).length:=i;obtain⟨_,⟨rfl,_,Q,rfl⟩|⟨y,cap,G,H,hs,rfl⟩⟩:=p.slI
    . refine⟨0,[],[],by grind,g (.ofSlice w h Q 0 0 [] (by simp) (by simp) (by simp)),.nil,.nil⟩
    .
     have q:=I o.block y G;rw[O]at q;simp only[List.length_drop]at i;by_cases S:o.off<=cs.length
     . obtain⟨us,U,V,W,Y⟩:=qfQ (k:=o.off) (n:=n*sz) q G (by omega);have A:ones cs:=by obtain⟨_,_,_,_,_,_,_,_,A,_⟩:=q;exact A
       exact⟨n,_,us,e,g (.ofSlice w h _ n cap us U W λu h=>one_cell' (Y u h)),V,(A.drop _).take _⟩
     . have h0:n*sz=0:=by omega
       refine⟨n,[],[],?_,g (.ofSlice w h _ n cap [] (by grind) (by simp) (by simp)),.nil,.nil⟩
       grind
   grind
  grind
 .
  simp only[qvE,bi_eq]at e;split at e
  .
   rename_i s _ _;have:=p.str;subst this;split at e
   .
    rename_i B;have B:sz=1:=Nat.eq_of_beq_eq_true B;subst B;have Z:∀ (l:List UInt8) (f:List Value->CO),E.byteCells l f=f (l.map λb=>Value.int .u8 b.toNat):=by
     intro l
     induction l with
     |nil=>intro f;rfl
     |cons b l ih=>intro f;unfold E.byteCells at ih |-;simp_all
    rw[Z]at e;simp only[lenF_eq,List.length_map,bytes,Array.length_toList]at e;refine⟨s.size,_,Go.byteCells s,e,⟨d,λ_=>rfl,firstCells_string s w,firstCells_string s w.drew,by rw[byteCells_length,Nat.mul_one],λu h=>?_⟩,?_,?_⟩
    . obtain⟨_,_,rfl⟩:=List.mem_map.1 h;rfl
    . have:(Go.byteCells s).all sc=true:=List.all_eq_true.2 λv C=>by obtain⟨_,_,rfl⟩:=List.mem_map.1 C;rfl
      exact qwp this
    . intro v C;obtain⟨_,_,rfl⟩:=List.mem_map.1 C;rfl
   grind
  grind
theorem qwA {t t1 ty c i}(e:P.underlying t=some (.slice c))(f:P.info? c=some i){base n cap}(g:n<=cap){X}(b:Src P i.size t1 X 0 [] w):
  (Builtin.append_ #[t,t1] ty #[.slice base n cap,X]).run P w=.ok (.slice base n cap) w:=by
 have h:=b.len;have j:=b.cells;rcases b.kind with⟨k,d⟩|d<;>cases base<;>simp[Builtin.append_,run_underlying e,run_underlying d,sizeOf,typeInfo,f,h,j,g,storeCells]
theorem qvY (h:Hp P μ m w)(C:m.next<hdN){t t1 ty c i z}(E:P.underlying t=some (.slice c))(G:P.info? c=some i)(H:i.zero=some z)(q:z.cells.size=i.size){ro base n cap k X old new OS e}(A:Src P i.size t1 X k e w)(r:RL μ new e)(s:ones new)(u:RL μ old OS)(v:ones old)(g:OS.length=n*i.size)(x:(Builtin.firstCells i.size n (.slice base n cap)).run P w.drew=.ok OS.toArray w.drew)(B:cap<n+k)(b:(n+k)*(i.bytes+1)<=1048576):
  ∃ V d w',(Builtin.append_ #[t,t1] ty #[.slice base n cap,X]).run P w=.ok V w'/\R d (slV (n+k) i.size m.next) V/\Hp P d (m.push (.cells ro c (old++new))) w'/\Gn μ m w d (m.push (.cells ro c (old++new))) w':=by
 have Q:(n+k)*i.bytes<=1048576:=Nat.le_trans (Nat.mul_le_mul_left _ (Nat.le_succ _)) b;have I:n+k<=1048576:=Nat.le_trans (Nat.le_mul_of_pos_right _ (Nat.succ_pos _)) b;have j:Builtin.nextslicecap (n+k) cap*i.bytes<=281474976710656:=by
  have J:=Go.Room.nextslicecap_le' B;have S:=Nat.mul_le_mul_right i.bytes J
  grind
 have run:=run_append_grow_src (P:=P) w t t1 ty c i z E G H base n cap OS x X k e A B (by omega) j;have o:=grownCap_ge w (n+k) cap c;generalize grownCap w (n+k) cap c=f at run o;have K:((OS++e).toArray++Builtin.zeroCells z.cells (f-(n+k))).size=f*i.size:=by
  have L:=A.newsLen;have y:(Builtin.zeroCells z.cells (f-(n+k))).size=(f-(n+k))*i.size:=by simp[Builtin.zeroCells,q]
  rw[Array.size_append,y];simp only[List.size_toArray,List.length_append,g,L];rw[<- Nat.add_mul,<- Nat.add_mul]
  grind
 have p:RL μ (old++new) ((OS++e).toArray:Array Value).toList:=u.append r;obtain⟨N,O⟩:=h.newCells (ro:=ro) (t:=c) (l:=old++new) (vs:=(OS++e).toArray++Builtin.zeroCells z.cells (f-(n+k))) (fr:=(0,0)) (w0:=w.drew) C
  (by rw[p.size,Array.size_append];omega) (v.append s) (p.pre _) rfl ⟨rfl,rfl⟩ (.inl rfl)
 refine⟨_,_,_,run,?_,N,O⟩;refine .sl m.next 0 (n+k) i.size ⟨w.heap.size,0,_⟩ f (Mu.set_same μ _ _) o ?_
 grind
theorem qxD (h:Hp P μ m w)(Y:m.next<hdN){t t1 ty f i}(Z:P.underlying t=some (.slice f))(hi:P.info? f=some i)(y:qxp P f=false){ro q x c}(K:m.at q=.cells ro f c)(z:μ q=some x){b n cap k X new l}(L:Src P i.size t1 X k l w)(p:RL μ new l)(A:ones new)(N:n*i.size<=c.length-b)(O:b<=c.length\/n=0)(Q:x.o+b+cap*i.size<=x.S)(B:n+k<=cap)(r:ro≠1\/b+n*i.size=c.length):
  ∃ V g w',(Builtin.append_ #[t,t1] ty #[.slice (some ⟨x.b,x.o+b,none⟩) n cap,X]).run P w=.ok V w'/\R g (slV (n+k) i.size m.next) V /\
   Hp P g ((m.setA q .dead).push (.cells ro f ((c.drop b).take (n*i.size)++new))) w'/\Gn μ m w g ((m.setA q .dead).push (.cells ro f ((c.drop b).take (n*i.size)++new))) w':=by
 have S:=h.obj q x z;rw[K]at S;obtain⟨x',vs,fr,U,C,W,o4,o5,o6,o7⟩:=S;rw[z]at U;cases U;have E:=L.newsLen;have G:(n+k)*i.size<=cap*i.size:=Nat.mul_le_mul_right _ B;rw[Nat.add_mul]at G;have run:=run_append_room_src (P:=P) w t t1 ty f i Z hi x.b (x.o+b) n cap X k l L B
  (λj H=>by
   have:x.o+b+n*i.size+j<vs.size:=by omega
   simp[World.cell?,C,this])
  (λj H=>by
   have:=W.free (k:=x.o+b+n*i.size+j) (r.imp id λh=>by omega) (by omega);simp only[World.frozen?,C]
   grind)
 obtain⟨I,b1,b2,b3,b4,b5⟩:=XK l (x.o+b+n*i.size) w vs C (by omega);obtain⟨p1,p2⟩:=h.take (w':=w.setCells x.b (x.o+b+n*i.size) l) (x':=⟨x.b,x.o+b,x.S⟩) Y z (by rw[K];rfl) rfl (o:=.cells ro f ((c.drop b).take (n*i.size)++new)) (size_setCells _ _ _ _) b5 (by
   have d:Ext μ (μ.set m.next ⟨x.b,x.o+b,x.S⟩):=Mu.set_ext _ (h.fresh _ (Nat.le_refl _));have s:((c.drop b).take (n*i.size)).length=n*i.size:=by grind
   refine⟨⟨x.b,x.o+b,x.S⟩,I,fr,Mu.set_same μ _ _,b1,W.mv (r.symm.imp (λh=>by grind) id),by grind,?_,((o6.drop _).take _).append A,λj v e=>?_⟩
   . simp only[List.length_append,s,p.1,E];omega
   .
    by_cases H:j<n*i.size
    . rw[List.getElem?_append_left (by omega),List.getElem?_take,if_pos H,List.getElem?_drop]at e;obtain⟨u,u1,J⟩:=o7 (b+j) v e;refine⟨u,?_,J.mono d⟩
      grind
    . rw[List.getElem?_append_right (by omega),s]at e;obtain⟨u,u1,J⟩:=p.get e;refine⟨u,?_,J.mono d⟩
      grind) (qwk _ _ _ _) y
 refine⟨_,_,_,run,?_,p1,p2⟩;exact .sl m.next 0 (n+k) i.size ⟨x.b,x.o+b,x.S⟩ cap (Mu.set_same μ _ _) B (by omega)
theorem qdu (h:Hp P μ m w){t t1 ty j}(u:P.underlying t=some (.slice j))(hk:srcT P t1=true){z0}(hz:zL P j=some z0)(hs0:szT P j≠0)(J:qxp P j=false){s x S X v}(e:appR j (szT P j) (byT P j) s x m=.ret v m')(K:R μ s S)(hX:R μ x X):
  ∃ V d w',(Builtin.append_ #[t,t1] ty #[S,X]).run P w=.ok V w'/\R d v V/\Hp P d m' w'/\Gn μ m w d m' w':=by
 obtain⟨z1,z2,⟨i,zv,p,z,z3⟩,_⟩:=qzB hz;have Z:szT P j=i.size:=by simp[szT,p]
 have L:byT P j=i.bytes:=by simp[byT,p]
 have A:zv.cells.size=i.size:=by grind
 unfold appR at e;obtain⟨n,new,NS,e2,o,f,g⟩:=qCq h.obj u hk hX (by grind) e;replace e:=e2;clear e2;rw[Z]at o;simp only[qvH]at e;split at e
 .
  obtain⟨rfl,rfl,rfl⟩:=K.nilsl;cases n with
  |zero=>simp only[cN_zero]at e;cases e;have E:NS=[]:=List.length_eq_zero_iff.1 (by rw[o.newsLen];simp);subst E;exact⟨_,μ,w,qwA u p (Nat.le_refl _) o,.sc _ rfl,h,.refl _ _ _⟩
  |succ k=>
   simp only[cN_succ,natF_eq,bi_eq]at e;split at e
   . rename_i b;have b:(k+1)*(i.bytes+1)<=1048576:=by rw[<- L];exact Nat.le_of_ble_eq_true b
     obtain⟨B,rfl,rfl⟩:=qvs e;have:=qvY (P:=P) (ro:=0) (t:=t) (t1:=t1) (ty:=ty) (base:=none) (n:=0) (cap:=0) (k:=k+1) (old:=[]) (OS:=[]) h B u p z A o f g .nil .nil (by simp) (run_firstCells_none w.drew i.size 0 0 0) (by omega) (by grind)
     grind
   grind
 .
  rename_i q l zz;cases n with
  |zero=>
   simp only[cN_zero]at e;cases e;have E:NS=[]:=List.length_eq_zero_iff.1 (by rw[o.newsLen];simp);subst E;obtain⟨_,⟨rfl,_,a',rfl⟩|⟨y,cap,G,C,hs',rfl⟩⟩:=K.slI
   . exact⟨_,μ,w,qwA u p (Nat.le_refl _) o,K,h,.refl _ _ _⟩
   . exact⟨_,μ,w,qwA u p C o,K,h,.refl _ _ _⟩
  |succ k=>
   simp only[cN_succ,natF_eq,bi_eq]at e;split at e
   .
    rename_i b;rw[qu6,Bool.and_eq_true]at b;have hzz:zz=szT P j:=Nat.eq_of_beq_eq_true b.1;have b:(l+(k+1))*(i.bytes+1)<=1048576:=by rw[<- L];exact Nat.le_of_ble_eq_true b.2
    simp only[M.cells_eq]at e;split at e
    .
     rename_i ro et c W;split at e
     .
      rename_i H;have H:j=et:=Nat.eq_of_beq_eq_true H;subst H;rw[qx1,quZ,lenF_eq]at e;split at e
      .
       rename_i r;have r:ro≠1\/q.off+l*i.size=c.length:=by rw[Bool.or_eq_true]at r;refine r.imp (λh h2=>by simp_all) λh=>?_;simp_all
       simp only[takeF_eq,dropL_eq,appF_eq,M.put_eq]at e;split at e
       .
        rename_i I;have I:l*i.size<=c.length-q.off:=by grind
        obtain⟨B,hv,hm⟩:=qvs e;have B:m.next<hdN:=B;obtain⟨_,hS'⟩:=K.slI;have hv':v=slV (l+(k+1)) i.size m.next:=by simp_all
        have hm':m'=(m.setA q.block .dead).push (.cells ro j ((c.drop q.off).take (l*i.size)++new)):=by grind
        subst hv';subst hm';have dead:∀ {V:Value} {d:Mu} {w':World} {y:Lc},μ q.block=some y->Hp P μ (m.setA q.block .dead) w->True:=λ_ _=>trivial;rcases hS' with⟨rfl,⟨y0,hy0⟩,a',rfl⟩|⟨y,cap,G,C,hs',rfl⟩
        . obtain⟨N,O⟩:=h.kill hy0;obtain⟨V,d,w',r1,r2,Q,U⟩:=qvY (P:=P) (t:=t) (t1:=t1) (ty:=ty) (base:=some a') (n:=0) (cap:=0) (k:=k+1) (old:=[]) (OS:=[]) N B u p z A o f g .nil .nil (by simp)
           (run_firstCells_some w.drew i.size 0 a' 0 0 [] (by simp) (by simp)) (by omega) b
          refine⟨V,d,w',by omega,by grind,?_,?_⟩
          . simpa using Q
          . simpa using O.trans U
        .
         have Y:=h.obj q.block y G;have h6:ones c:=by rw[W]at Y;obtain⟨_,_,_,_,_,_,_,_,h6,_⟩:=Y;exact h6
         rw[W]at Y;by_cases hkk:q.off<=c.length
         . by_cases hg:l+(k+1)<=cap
           . exact qxD h B u p J W G o f g I (.inl hkk) (by grind) hg r
           . obtain⟨us,u1,u2,u3,u4⟩:=qfQ (k:=q.off) (n:=l*i.size) Y G (by omega);obtain⟨N,O⟩:=h.kill G;obtain⟨V,d,w',r1,r2,Q,U⟩:=qvY (P:=P) (t:=t) (t1:=t1) (ty:=ty) (base:=some ⟨y.b,y.o+q.off,none⟩) (n:=l) (cap:=cap) (k:=k+1) N B u p z A o f g u2 ((h6.drop _).take _) u1
              (run_firstCells_some w.drew i.size l _ l cap us u1 (by simp_all)) (by omega) b
             exact⟨V,d,w',r1,r2,Q,O.trans U⟩
         .
          have h0:l*i.size=0:=by omega
          have hl0:l=0:=by
           rcases Nat.mul_eq_zero.1 h0 with h|h
           . exact h
           omega
          subst hl0;by_cases hg:0+(k+1)<=cap
          . exact qxD h B u p J W G o f g I (.inr rfl) (by grind) hg r
          . obtain⟨N,O⟩:=h.kill G;obtain⟨V,d,w',r1,r2,Q,U⟩:=qvY (P:=P) (t:=t) (t1:=t1) (ty:=ty) (base:=some ⟨y.b,y.o+q.off,none⟩) (n:=0) (cap:=cap) (k:=k+1) (old:=[]) (OS:=[]) N B u p z A o f g .nil .nil (by simp)
             (run_firstCells_some w.drew i.size 0 _ 0 cap [] (by simp) (by simp)) (by omega) b
            refine⟨V,d,w',by omega,by grind,?_,?_⟩
            . simpa using Q
            . simpa using O.trans U
       grind
      grind
     grind
    grind
   grind
 grind
end
end E
end Go.Proofs.YtnnhdcidgfjfpaaGreatDoor
namespace Go.Proofs.YtnnhdcidgfjfpaaGreatDoor
namespace E
section
variable {P:Program} {μ:Mu} {dp nt:Nat} {F:T Value} {a:Act} {w w':World} {m m':M}
theorem qz3 (h:Hp P μ m w)(f:RF μ dp nt F a.tmps)(g:Gl P μ){t x v}(e:(loud P dp (.range t x)).f F m=.ret v m')(dst ty pos after)(guard):
  Ran P μ m w (execOp a.eval ⟨dst,.range t x,ty,pos,after,guard⟩) v m':=by
 unfold loud at e;obtain⟨u,i,d⟩:=zt f g x;simp only at e;split at e
 .
  rename_i j;simp only[i,qvE]at e;split at e
  . rename_i s;have k:=d.str;obtain⟨l,rfl,rfl⟩:=qvs e;have c:=Mu.set_same μ m.next ⟨w.heap.size,0,0⟩;obtain⟨p,q⟩:=h.new (w':=w.alloc (.stringIter s 0)) l (o:=.siter (bytes s) 0) (x:=⟨w.heap.size,0,0⟩) rfl (size_alloc _ _) (λb r=>by rw[heap_alloc,if_neg (by omega)])
     ⟨_,s,c,rfl,by rw[heap_alloc,if_pos rfl],by simp[bytes]⟩ ⟨rfl,rfl⟩ (λd=>by cases d)
    refine Does.ran (n:=.value (.pointer (some ⟨w.heap.size,0,none⟩))) (V:=.pointer (some ⟨w.heap.size,0,none⟩)) ?_ (.inl rfl) (.ptr m.next 0 ⟨w.heap.size,0,0⟩ c) p q;simp[execOp,Instr.range,run_underlying j,k]
  grind
 . cases e
theorem qA9 (h:Hp P μ m w)(H:RF μ dp nt F a.tmps)(I:Gl P μ){k b v}(e:(loud P dp (.next k b)).f F m=.ret v m')(dst ty pos after)(guard):
  Ran P μ m w (execOp a.eval ⟨dst,.next k b,ty,pos,after,guard⟩) v m':=by
 unfold loud at e;obtain⟨u,J,l⟩:=zt H I k;simp only[J,qu9,bi_eq]at e;split at e
 .
  rename_i z;obtain⟨_,x,g,j⟩:=l.ptrI;split at e
  .
   rename_i p;have p:z.off=0:=Nat.eq_of_beq_eq_true p;rw[p]at j;unfold qEW at e;rw[M.get_eq]at e;have A:=h.obj z.block x g;split at e
   .
    rename_i s d i
    rw[i]at A;obtain⟨x',S,B,C,E,q⟩:=A;rw[g]at B;cases B;rw[C]at j;have U:x.b<w.heap.size:=h.lt _ _ g;simp only[bi_eq]at e;split at e
    .
     rename_i K;subst K;cases s with
     |nil=>
      have f:¬ d<S.size:=by simp_all
      rw[cL_nil]at e;cases e;refine Does.ran (n:=.value (.tuple #[.bool false])) (V:=.tuple #[.bool false]) ?_ (.inl rfl) (.mkTup (.cons (.mkB _) .nil)) h (.refl _ _ _);simp[execOp,j,Lib.run_next_end_at w x.b S d ty E f]
     |cons c r=>
      have f:d<S.size:=by have:=congrArg List.length q;simp at this;omega
      have L:S[d]'f=c:=by have:=congrArg (·[0]?) q;simp only[List.getElem?_drop,List.getElem?_cons_zero,Nat.add_zero]at this;have G:S.data.toList[d]? = some c:=this.symm;rw[Array.getElem?_toList]at G;obtain⟨_,N⟩:=Array.getElem?_eq_some_iff.1 G;exact N
      have t:r=S.data.toList.drop (d+1):=by have:=congrArg (List.drop 1) q;simpa [List.drop_drop]using this
      rw[cL_cons,natF_eq]at e;split at e
      . rename_i y;have y:c.toNat<128:=by simp_all
        simp only[natF_eq,M.put_eq]at e;cases e;obtain⟨O,Q⟩:=h.put (w':=(w.iterAt x.b S (d+1))) (o:=.siter r (d+1)) g (by rw[i];rfl) (by simp[World.iterAt]) (λW R=>by simp only[World.iterAt];grind)
         ⟨x,S,g,C,by simp only[World.iterAt];grind,t⟩ ⟨rfl,rfl⟩ (λl=>by cases l)
        refine Does.ran (n:=.value (.tuple #[.bool true,.int .i64 d,.int .i32 c.toNat])) (V:=.tuple #[.bool true,.int .i64 d,.int .i32 c.toNat]) ?_ (.inl rfl) (.mkTup (.cons (.mkB _) (.cons (.mkI _ _) (.cons (.mkI _ _) .nil)))) O Q;have:=Lib.run_next_ascii_at (P:=P) w x.b S d ty E f (by grind);simp[execOp,j,this,L]
      grind
    grind
   grind
  grind
 grind
end
end E
end Go.Proofs.YtnnhdcidgfjfpaaGreatDoor
namespace Go.Proofs.YtnnhdcidgfjfpaaGreatDoor
namespace E
section
variable {P:Program} {μ:Mu} {dp nt:Nat} {F:T Value} {a:Act} {w w':World} {m m':M}
theorem qxl:∀ (l L:List Value) {c:List UInt8->CO} {r:CO},(∀ k,.no k≠r)->qBr l c=r->RL μ l L->∃ f:List UInt8,c f=r/\L=f.map λb=>Value.int .u8 ((b.toNat:Nat):Int)
 |[],L,c,r,d,e,h=>by have:=h.nil_inv;subst this;exact⟨[],e,rfl⟩
 |x::l,L,c,r,d,e,h=>by
  obtain⟨V,j,rfl,o,p⟩:=h.cons_inv;unfold qBr at e;rw[rL_cons,qvt]at e;split at e
  .
   rename_i k n;have q:=o.int;rw[bi_eq]at e;split at e
   .
    rename_i g;have g:k=.u8:=by have:=Nat.eq_of_beq_eq_true g;cases k<;>first|rfl|exact absurd this (by decide)
    subst g;cases n with
    |ofNat b=>
     rw[cI_nat,natF_eq,bi_eq]at e;split at e
     . rename_i i;have i:b<256:=by simp_all
       obtain⟨f,s,b2⟩:=qxl l j (c:=λr=>c (.ofNat b::r)) d e p;refine⟨.ofNat b::f,s,?_⟩;rw[q,b2,List.map_cons];congr 2;simp only[UInt8.toNat_ofNat']
       grind
     grind
    |negSucc b=>simp_all
   grind
  grind
theorem qv1 {w:World}{b vs T fr}(h:w.heap[b]? = some (.cells vs T fr))(o n)(d:n≠0)(c):
  (w.freeze ⟨b,o,none⟩ n).heap[c]? = if c=b then some (.cells vs T (if fr.1==fr.2 then(o,o+n)else(min fr.1 o,max fr.2 (o+n))))else w.heap[c]?:=by
 unfold World.freeze
 grind
theorem qA7 {e}(c:P.cellsOf e=1)(b o n)(d:o+n<=b):liesAt P P.depth e b o e n=true:=by have hd:P.depth=(2*(P.types.size+Made.depth)+1)+1:=rfl;rw[hd];simp only[liesAt,Bool.or_eq_true];left;rw[hd];simp[rowAt,c,d,sameLayout,Nat.mod_one]
theorem qBl (h:Hp P μ m w)(Y:RF μ dp nt F a.tmps)(Z:Gl P μ){x k t ts v}(e:(loud P dp (.call { callee:=.builtin .unsafeString,args:=⟨[x,k]⟩,argTypes:=⟨t::ts⟩ })).f F m=.ret v m')(dst ty pos after)(guard):
  Ran P μ m w (execOp a.eval ⟨dst,.call { callee:=.builtin .unsafeString,args:=⟨[x,k]⟩,argTypes:=⟨t::ts⟩ },ty,pos,after,guard⟩) v m':=by
 unfold loud at e;obtain⟨u,hu,p⟩:=zt Y Z x;obtain⟨q,hq,C⟩:=zt Y Z k;simp only at e;split at e
 .
  rename_i z E;have G:P.underlying t=some (.pointer z):=by
   unfold ptrT at E
   grind
  rw[bi_eq]at e;split at e
  . cases e
  rename_i g;have g:szT P z=1:=by simpa [quZ]using g
  have H:P.cellsOf z=1:=by rw[qy3,g]
  simp only[hu,hq,qvt]at e;split at e
  .
   rename_i kk nn;have i:=C.int;cases nn with
   |negSucc b=>cases e
   |ofNat n=>
    rw[cI_nat]at e;have f:IntKind.i64.max=9223372036854775807:=rfl;cases n with
    |zero=>
     rw[cN_zero]at e;split at e
     case h_2=>cases e
     rename_i o' ;cases e;refine Does.ran (n:=.value (.string .empty)) (V:=.string .empty) ?_ (.inl rfl) (.mkS _) h (.refl _ _ _);obtain⟨o,A⟩:∃ o,a.eval x=.pointer o:=by
      cases o' with
      |none=>exact⟨_,p.nilptr⟩
      |some d=>exact⟨_,p.ptrI.2.choose_spec.2⟩
     cases o with
     |none=>have u:∀ q,Builtin.unsafeString_ ⟨t::ts⟩ ty #[.pointer none,q]=(asInt q >>= _):=λq=>rfl;simp[execOp,resolve,invoke,builtin,A,i,u,asInt,asIntOf,f]
     |some d=>have u:∀ q,Builtin.unsafeString_ ⟨t::ts⟩ ty #[.pointer (some d),q]=(asInt q >>= _):=λq=>rfl;simp[execOp,resolve,invoke,builtin,A,i,u,asInt,asIntOf,f]
    |succ n=>
     rw[cN_succ]at e;unfold strM at e;simp only[qu9,M.cells_eq,bi_eq]at e;split at e
     .
      rename_i d;obtain⟨_,y,r,A⟩:=p.ptrI;split at e
      .
       rename_i ro B c I;split at e
       . cases e
       .
        rename_i J;rw[qx1,qx1,quZ,quZ,Bool.or_eq_true,Bool.or_eq_true,not_or,not_or]at J;have h0:ro≠2:=by simp_all
        have h1:B=z:=by simp_all
        have h2:n+1<=room:=by simp_all
        subst h1;simp only[natF_eq,takeF_eq,dropL_eq]at e;split at e
        .
         rename_i l;simp only[List.length_drop]at l;have l:n+1<=c.length-d.off:=l;have K:=h.obj d.block y r;rw[I]at K;obtain⟨us,u1,u2,u3,u4⟩:=qfQ (k:=d.off) (n:=n+1) K r (by omega);obtain⟨s,b1,b2⟩:=qxl _ _ (by grind) e u2;simp only[M.put_eq]at b1;cases b1;obtain⟨y',vs,fr,o1,L,o3,o4,o5,o6,o7⟩:=K;rw[r]at o1;cases o1;have hlen:s.length=n+1:=by grind
         obtain⟨p1,p2⟩:=h.put (w':=w.freeze ⟨y.b,y.o+d.off,none⟩ (n+1)) (o:=.cells 1 B c) r (by rw[I];rfl) (by unfold World.freeze;simp) (λb' N=>by rw[qv1 L _ _ (by omega),if_neg N])
          ⟨y,vs,_,r,by rw[qv1 L _ _ (by omega),if_pos rfl],(by
           unfold Fr at o3 |-
           grind),o4,o5,o6,o7⟩ (by unfold World.freeze;simp) (λp=>by rw[I];exact p)
         refine Does.ran (n:=.value (.string ⟨⟨s⟩⟩)) (V:=.string ⟨⟨s⟩⟩) ?_ (.inl rfl) (.mkS _) p1 p2;have O:(loadBytes ⟨y.b,y.o+d.off,none⟩ .empty (n+1)).run P w=.ok ⟨⟨s⟩⟩ w:=by have:=Lib.run_loadBytes (P:=P) w s ⟨y.b,y.o+d.off,none⟩ .empty (λj x hx=>u3 j _ (by grind));simp_all
         have Q:room=1048576:=rfl;have R:¬ ((n:Int)+1<0):=by omega
         have S:¬ ((9223372036854775807:Int)<(n:Int)+1):=by omega
         have U:((n:Int)+1).toNat=n+1:=by omega
         have W:¬ ((n:Int)+1=0):=by omega
         have X:(variablesAt ⟨y.b,y.o+d.off,none⟩ B (n+1)).run P w=.ok true w:=by have hl:=qA7 (P:=P) H (vs.size / P.cellsOf B) (y.o+d.off) (n+1) (by grind);simp[variablesAt,World.shape?,L,hl]
         have u:∀ q,Builtin.unsafeString_ ⟨t::ts⟩ ty #[.pointer (some ⟨y.b,y.o+d.off,none⟩),q]=(asInt q >>= _):=λq=>rfl;simp[execOp,resolve,invoke,builtin,A,i,u,asInt,asIntOf,f,R,S,U,W,elemOf,run_underlying G,X,O]
        grind
      grind
     grind
  grind
 . cases e
theorem qBV {t}(h:isU8 P t=true):P.underlying t=some (.int .u8):=by
 unfold isU8 at h
 grind
theorem qy2 (l)(f):E.byteCells l f=f (l.map λb=>Value.int .u8 (.ofNat b.toNat)):=by
 unfold E.byteCells
 induction l generalizing f with
 |nil=>rfl
 |cons b l c=>simp_all
theorem qyj (h:Hp P μ m w){s t e}(l:P.underlying s=some .string)(n:P.underlying t=some (.slice e))(p:P.underlying e=some (.int .u8)){v V r}(c:sbR e v m=.ret r m')(f:R μ v V):
  ∃ k d w',(convert s t V).run P w=.ok k w'/\R d r k/\Hp P d m' w'/\Gn μ m w d m' w':=by
 unfold sbR at c;rw[qvE]at c;split at c
 case h_2=>cases c
 rename_i b;have:=f.str;subst this;rw[qy2]at c;simp only[lenF_eq,bi_eq]at c;split at c
 case isFalse=>cases c
 obtain⟨u,rfl,rfl⟩:=qvs c;have g:b.size<=grownCap w b.size 0 e:=grownCap_ge w b.size 0 e;have y:(bytes b).length=b.size:=by simp[bytes]
 have z:(Lib.bytesCells w e b).size=grownCap w b.size 0 e:=by simp only[Lib.bytesCells,Array.size_append,Array.size_map,Array.size_replicate];simp_all
 obtain⟨A,B⟩:=h.new (w':=Lib.bytesWorld w e b) u (o:=.cells 2 e ((bytes b).map λb=>.int .u8 (.ofNat b.toNat))) (x:=⟨w.heap.size,0,(Lib.bytesCells w e b).size⟩) rfl (Lib.bytesWorld_size w e b) (λj C=>Lib.bytesWorld_at_old w e b j C)
  ⟨_,_,_,Mu.set_same μ _ _,Lib.bytesWorld_at_new w e b,.inr (.inr ⟨rfl,Nat.le_refl _⟩),rfl,by grind,(λv f=>by
   obtain⟨b,_,rfl⟩:=List.mem_map.1 f;rfl),λj v e=>by
   rw[List.getElem?_map]at e;cases i:(bytes b)[j]? with
   |none=>grind
   |some q=>
    rw[i]at e;simp only[Option.map_some,Option.some.injEq]at e;subst e;refine⟨_,?_,.mkI _ _⟩;have E:j<b.data.size:=by have:=(List.getElem?_eq_some_iff.1 i).1;simp_all
    have G:b.data[j]? = some q:=by simpa [bytes]using i
    show(Lib.bytesCells w e b)[0+j]? = _;rw[Nat.zero_add];simp only[Lib.bytesCells]
    grind⟩ ⟨by unfold Lib.bytesWorld World.freeze;split<;>rfl,by unfold Lib.bytesWorld World.freeze;split<;>rfl⟩ (λ_=>rfl)
 refine⟨_,_,_,Lib.run_convert_string_bytes w s t e b l n p,?_,A,B⟩;have:((bytes b).map λb:UInt8=>(Value.int .u8 (.ofNat b.toNat))).length=b.size:=by grind
 rw[this];refine .sl m.next 0 b.size 1 ⟨w.heap.size,0,(Lib.bytesCells w e b).size⟩ (grownCap w b.size 0 e) (Mu.set_same μ _ _) g ?_
 grind
end
end E
end Go.Proofs.YtnnhdcidgfjfpaaGreatDoor
namespace Go.Proofs.YtnnhdcidgfjfpaaGreatDoor
namespace E
section
variable {P:Program} {μ:Mu} {dp nt:Nat} {F:T Value} {a:Act} {w w':World} {m m':M}
theorem qgi (h:Hp P μ m w)(d:RF μ dp nt F a.tmps)(f:Gl P μ){op v}(e:(loud P dp op).f F m=.ret v m')(dst ty pos after)(guard):
  Ran P μ m w (execOp a.eval ⟨dst,op,ty,pos,after,guard⟩) v m':=by
 have g:=e;unfold loud at e;split at e
 . exact qeI h g ..
 . exact qhH h d f g ..
 . exact qas h d f g ..
 . exact qcE h g ..
 . exact qeW h d f g ..
 .
  rename_i t x k y;split at e
  . rename_i kt et U;obtain⟨Q,l,j⟩:=zt d f x;obtain⟨R,o,r2⟩:=zt d f k;obtain⟨u3,W,X⟩:=zt d f y;simp only[l,o,W]at e;obtain⟨w',run,rfl,p,q⟩:=qzh h d f U e j r2 X;exact Does.ran (n:=.skip) (V:=Go.undef) (by simp[execOp,run]) (.inr ⟨rfl,rfl⟩) .undef p q
  . cases e
 . exact qz3 h d f g ..
 .
  rename_i s t x;split at e
  . rename_i I Y Z;rw[bi_eq]at e;split at e
    . rename_i h8;obtain⟨u,r,hr⟩:=zt d f x;simp only[r]at e;obtain⟨V,J,w',run,K,p,q⟩:=qyj h Y Z (qBV h8) e hr;exact Does.ran (n:=.value V) (by simp[execOp,run]) (.inl rfl) K p q
    . cases e
  . cases e
 . exact qA9 h d f g ..
 .
  rename_i s x t t1;split at e
  .
   rename_i I i;obtain⟨r,A⟩:=qyH i;rw[bi_eq]at e;split at e
   . cases e
   . rename_i B;simp only[quZ,qu6,qx1,Bool.not_eq_true',Bool.not_eq_true,Bool.not_eq_false',Bool.and_eq_true,Bool.or_eq_false_iff,Bool.not_eq_false,ne_eq]at B;obtain⟨G,L,N,C⟩:=B;obtain⟨z0,L⟩:=Option.isSome_iff_exists.1 L;have C:szT P I≠0:=λh0=>by simp_all
     obtain⟨Q,l,j⟩:=zt d f s;obtain⟨R,o,r2⟩:=zt d f x;simp only[l,o]at e;obtain⟨V,J,w',run,K,p,q⟩:=qdu (P:=P) (ty:=ty) h r G L C N e j r2;exact Does.ran (n:=.value V) (by simp[execOp,resolve,invoke,builtin,run]) (.inl rfl) K p q
  . cases e
 .
  rename_i x y t t1;split at e
  .
   rename_i I i;obtain⟨r,A⟩:=qyH i;rw[bi_eq]at e;split at e
   . cases e
   rename_i G;rw[quZ]at G;have G:srcT P t1=true:=by grind
   obtain⟨Q,l,j⟩:=zt d f x;obtain⟨R,o,r2⟩:=zt d f y;simp only[l,o,qvH]at e;have key:∀ {b:Option Addr} {n c:Nat},a.eval x=.slice b n c->a.eval y=.slice none 0 0->Ran P μ m w (execOp a.eval ⟨dst,.call { callee:=.builtin .copy,args:=⟨[x,y]⟩,argTypes:=⟨[t,t1]⟩ },ty,pos,after,guard⟩) (.int .i64 (.ofNat 0)) m:=by
    intro b n c H S;have E:Nat.min 0 n=0:=Nat.zero_min n;have O:=run_sizeOf (P:=P) (qu0 A) w;refine Does.ran (n:=.value (.int .i64 0)) (V:=.int .i64 0) ?_ (.inl rfl) (.mkI _ _) h (.refl _ _ _);have run:(Builtin.copy_ ⟨[t,t1]⟩ ty #[a.eval x,a.eval y]).run P w=.ok (.int .i64 0) w:=by rw[H,S];cases b<;>simp[Builtin.copy_,run_underlying r,Builtin.lenOf,Builtin.firstCells,O,E,storeCells,goInt]<;>rfl
    simp[execOp,resolve,invoke,builtin,run]
   split at e
   .
    obtain⟨_,_,S⟩:=r2.nilsl;split at e
    . obtain⟨_,_,H⟩:=j.nilsl
      grind
    . obtain⟨_,⟨_,_,a',H⟩|⟨z,cap,_,_,_,H⟩⟩:=j.slI<;>(grind)
    grind
   . cases e
   grind
  . cases e
 . exact qBl h d f g ..
 . cases e
end
end E
end Go.Proofs.YtnnhdcidgfjfpaaGreatDoor
namespace Go.Proofs.YtnnhdcidgfjfpaaGreatDoor
namespace E
section
variable {P:Program} {μ:Mu} {dp nt:Nat} {F:T Value} {a:Act} {w w':World} {m m':M}
theorem RF.put (h:RF μ dp nt F a.tmps){v V}(k:R μ v V)(d){β}(c:T Value->β):∃ f,(putD dp nt d).f v F c=c f/\RF μ dp nt f (a.put d V).tmps:=by
 cases d with
 |none=>exact⟨F,rfl,h⟩
 |some d=>
  by_cases hd:d<nt
  .
   have e:=Nat.lt_of_lt_of_le hd h.le;refine⟨T.put dp d v F,by simp[putD,Nat.blt_eq,hd],?_⟩;refine⟨by simp[Act.put,h.size],h.le,λt g=>?_⟩;show R μ _ ((a.tmps.setIfInBounds d V).getD t Go.undef);by_cases b:t=d
   . subst b;rw[T.look_put_same];have:(a.tmps.setIfInBounds t V).getD t Go.undef=V:=by simp[Array.getD_eq_getD_getElem?,h.size,hd]
     grind
   . rw[T.look_put_other _ _ _ _ _ _ g e b];have:(a.tmps.setIfInBounds d V).getD t Go.undef=a.tmps.getD t Go.undef:=by simp[Array.getD_eq_getD_getElem?,Array.getElem?_setIfInBounds,Ne.symm b]
     rw[this];exact h.at_ t g
  .
   refine⟨F,by simp[putD,Nat.blt_eq,hd],?_⟩;have:(a.put (some d) V).tmps=a.tmps:=by
    show a.tmps.setIfInBounds d V=a.tmps;apply Array.ext
    . simp
    . intro i l n;have:=h.size;rw[Array.getElem_setIfInBounds];have o:i<a.tmps.size:=by omega
      rw[if_neg (show ¬ d=i from λj=>hd (j▸(by omega:i<nt)))]
   grind
theorem put_defers (a:Act)(d:Option Nat)(V):(a.put d V).defers=a.defers:=by cases d<;>rfl
inductive Ex (μ:Mu):X->Exit->Prop
 |norm:Ex μ .norm .normal
 |ret:Ex μ .ret .ret
 |exit (id):Ex μ (.exit id) (.exit id)
 |pan (v V) (h:R μ v V):Ex μ (.pan v) (.panic [{ v:=V,recovered:=false }])
structure St (D:List Deferred) (P:Program) (dp nt:Nat) (μ0:Mu) (m0:M) (w0:World) (F:T Value) (m:M) (a:Act) (w:World) (μ:Mu):Prop where
 hp:Hp P μ m w
 gn:Gn μ0 m0 w0 μ m w
 gl:Gl P μ
 rf:RF μ dp nt F a.tmps
 df:a.defers=D
def Stands (D:List Deferred)(P:Program)(dp nt:Nat)(μ0:Mu)(m0:M)(w0:World)(x:X)(F:T Value)(m:M)(e:Exit)(a:Act)(w:World):Prop:=∃ μ,Ex μ x e/\St D P dp nt μ0 m0 w0 F m a w μ
def Fin (P:Program)(μ:Mu)(m:M)(w:World):CO->Ending->World->Prop
 |.ret v m',.returned V,w'=>∃ b,R b v V/\Hp P b m' w'/\Gn μ m w b m' w'
 |.pan v m',.panicked c,w'=>∃ V b,c=[{ v:=V,recovered:=false }]/\R b v V/\Hp P b m' w'/\Gn μ m w b m' w'
 |_,_,_=>False
def FW (ro:Option Nat):Fence:={ Fence.wide with round:=ro }
theorem FW.room {ro}{p:Prop}(h:(FW ro).depth.isSome=true):p:=by simp[FW,Fence.wide]at h
theorem qBv {ro P f args w R}(h:Calls P f args w R):CallsIn (FW ro) (0-1) P f args w R:=(callsIn_wide.2 h:CallsIn Fence.wide (0-1) P f args w R)
theorem qEb {ro P l f tmps b c w R}(h:RoundIn Fence.wide 0 P l f tmps b c w R):RoundIn (FW ro) (0-1) P l f tmps b c w R:=h
def TgOk (P:Program)(t:Tg)(m:M)(r:CO)(μ:Mu)(w:World)(L:List Value):Prop:=match t with
 |.fn f=>(∃ c,P.funcs[f]? = some c/\c.body.isSome=true/\(c.name == "runtime.NumGoroutine")=false/\Calls P f ⟨L⟩ w (Fin P μ m w r)) \/
  (∃ v V w' b m',(callFunc f ⟨L⟩).run P w=.ok (.value V) w'/\R b v V/\r=.ret v m'/\Hp P b m' w'/\Gn μ m w b m' w'/\∀ c,P.funcs[f]? = some c->c.body=none)
 |.yd j=>∀ x,μ j=some x->∃ f tmps as d,(Instr.yield x.b ⟨L⟩).run P w=.ok (.round x.b f tmps as d) w/\RoundIn Fence.wide 0 P x.b f tmps as d w (Fin P μ m w r)
def qN (P:Program)(rec:Rec):Prop:=∀ (t:Tg) (l:List Value) (m:M) (r:CO),rec t l m=r->(∀ k,r≠.no k)->∀ (μ:Mu) (w:World) (L:List Value),Hp P μ m w->Gl P μ->RL μ l L->TgOk P t m r μ w L
theorem Yh {P}{f:Nat}{b}(h:P.funcs[f]? = some b)(e:b.body.isSome=true)(d:(b.name == "runtime.NumGoroutine")=false)(args)(w):
  (callFunc f args).run P w=.ok (.enter f args) w:=by
 have c:b.body.isNone=false:=by cases g:b.body<;>simp_all
 simp only[callFunc,program,bind,Sem.bind,Sem.run,h,d,c,Bool.false_eq_true,if_false];rfl
theorem qyp {D ro rec}(E:qN P rec){μ0 m0 w0 o k x F'}(e:(oper P dp nt o).f rec k F m=.go x F' m')(h:St D P dp nt μ0 m0 w0 F m a w μ){next Q}(H:∀ U p a1 w1 d,St D P dp nt μ0 m0 w0 U p a1 w1 d->k U p=.go x F' m'->next a1 w1)(X:∀ e a' w',x≠.norm->Stands D P dp nt μ0 m0 w0 x F' m' e a' w'->Q e a' w'):o.wpIn (FW ro) 0 P a w next Q:=by
 have Y:∀ c,o.op≠.defer c:=by intro c hc;simp[oper,hc,isQ,isR,loud,noC,qvP]at e
 unfold oper at e;refine⟨λ_ _=>trivial,?_⟩;rw[Oper.semAt_eq _ _ _ Y];have done:∀ {v V:Value} {d:Mu} {p:M} {w1:World},R d v V->Hp P d p w1->Gn μ m w d p w1->((putD dp nt o.dst).f v F λF=>k F p)=.go x F' m'->next (a.put o.dst V) w1:=by intro v V d p w1 s z i e;obtain⟨U,h1,h2⟩:=(h.rf.mono i.ext).put s o.dst λF=>k F p;rw[h1]at e;exact H U p _ w1 d ⟨z,h.gn.trans i,h.gl.mono i.ext,h2,by rw[put_defers];exact h.df⟩ e
 rw[bi_eq]at e;split at e
 .
  simp only[qxY]at e;split at e
  . rename_i v s;obtain⟨V,run,J⟩:=qaS (w:=w) h.hp.root h.rf h.gl h.hp.obj s o.dst o.type o.pos o.after o.guard;have:(execOp a.eval o).run P w=.ok (.value V) w:=run;rw[this];exact done J h.hp (.refl _ _ _) e
  grind
 rw[bi_eq]at e;split at e
 .
  simp only[qvP]at e;obtain⟨dst,op,ty,pos,after,guard⟩:=o;simp only at e done;cases op with
  |call c=>
   generalize q:(recR P dp (Op.call c)).f rec F m=r at e;have I:∀ k,r≠.no k:=by grind
   unfold recR qwS at q;obtain⟨callee,b,G⟩:=c;cases callee with
   |value g=>
    obtain⟨u,Z,J⟩:=zt h.rf h.gl g;obtain⟨as,K,L⟩:=qwf (P:=P) h.rf h.gl b.toList;simp only[Z,qyM]at q;split at q
    case h_2=>
     simp only[qzY]at q;split at q
     case h_2=>grind
     rename_i j l1 l2 hne;obtain⟨rfl,rfl,y,hy,N⟩:=J.ydI;simp only[K]at q;have hL:RL μ as (b.map a.eval).toList:=by simp_all
     have run:(execOp a.eval ⟨dst,.call ⟨.value g,b,G⟩,ty,pos,after,guard⟩).run P w=(Instr.yield y.b (b.map a.eval)).run P w:=by simp only[execOp,resolve,N,Deferred.ofValue,invoke,pure_bind];simp
     rw[run];obtain⟨f,ts,as_,bo,A,B⟩:=E (.yd j) _ m r q I μ w _ h.hp h.gl hL y hy;replace A:(Instr.yield y.b (b.map a.eval)).run P w=.ok (.round y.b f ts as_ bo) w:=A;rw[A,Oper.uponIn_round];refine⟨λh=>FW.room h,qEb (B.mono λO w' C=>?_)⟩;cases r with
     |no k=>grind
     |ret v p=>
      cases O with
      |returned V=>
       obtain⟨d,s,z,i⟩:=C
       grind
      |_=>exact C.elim
     |pan v p=>
      cases O with
      |panicked ps=>obtain⟨V,d,rfl,s,z,i⟩:=C;cases e;exact X _ _ _ (by simp) ⟨d,.pan _ _ s,z,h.gn.trans i,h.gl.mono i.ext,h.rf.mono i.ext,h.df⟩
      |_=>exact C.elim
    rename_i f l1 l2;simp only[K,appF_eq]at q;obtain⟨W,b2,N,hr1,hr2⟩:=J.fnI;have hL:RL μ (l1.toList++(as++l2.toList)) ((W++b.map a.eval++b2).toList):=by simp only[Array.toList_append,Array.toList_map,List.append_assoc];exact hr1.append (L.append hr2)
    have run:(execOp a.eval ⟨dst,.call ⟨.value g,b,G⟩,ty,pos,after,guard⟩).run P w=(callFunc f (W++b.map a.eval++b2)).run P w:=by simp only[execOp,resolve,N,Deferred.ofValue,invoke,pure_bind]
    rw[run];rcases E (.fn f) _ m r q I μ w _ h.hp h.gl hL with⟨fn,A,f2,f3,l⟩|⟨v,V,w2,μ2,m2,A,f2,rfl,hp2,hg2,_⟩
    .
     rw[Yh A f2 f3,Oper.uponIn_enter];replace l:Calls P f (W++b.map a.eval++b2) w (Fin P μ m w r):=l;refine⟨λh=>FW.room h,qBv (Calls.mono l λO w' C=>?_)⟩;cases r with
     |no k=>grind
     |ret v p=>
      cases O with
      |returned V=>
       obtain⟨d,s,z,i⟩:=C
       grind
      |_=>exact C.elim
     |pan v p=>
      cases O with
      |panicked ps=>obtain⟨V,d,rfl,s,z,i⟩:=C;cases e;exact X _ _ _ (by simp) ⟨d,.pan _ _ s,z,h.gn.trans i,h.gl.mono i.ext,h.rf.mono i.ext,h.df⟩
      |_=>exact C.elim
    . replace A:(callFunc f (W++b.map a.eval++b2)).run P w=.ok (.value V) w2:=A;rw[A];exact done f2 hp2 hg2 e
   |_=>grind
  |panic x0=>
   generalize q:(recR P dp (Op.panic x0)).f rec F m=r at e;have I:∀ k,r≠.no k:=by grind
   unfold recR at q;obtain⟨u,Z,J⟩:=zt h.rf h.gl x0;simp only[Z,qzW]at q;split at q
   case h_1=>grind
   case h_3=>grind
   rename_i t v;subst q;cases e;obtain⟨V,N,hr'⟩:=J.ifI;have run:(execOp a.eval ⟨dst,.panic x0,ty,pos,after,guard⟩).run P w=.halt (.panic (.iface t V)) w:=by simp only[execOp,Instr.panic,N];rfl
   rw[run];exact X _ _ _ (by simp) ⟨μ,.pan _ _ (.iface t v V hr'),h⟩
  |_=>cases e
 .
  simp only[qvP]at e;split at e
  . rename_i v p hl;obtain⟨n,V,d,w1,run,hn,s,z,i⟩:=qgi h.hp h.rf h.gl hl o.dst o.type o.pos o.after o.guard;have S:(execOp a.eval o).run P w=.ok n w1:=run;rw[S];rcases hn with rfl|⟨rfl,rfl⟩
    . exact done s z i e
    . exact done s z i e
  . cases e
  grind
end
end E
end Go.Proofs.YtnnhdcidgfjfpaaGreatDoor
namespace Go.Proofs.YtnnhdcidgfjfpaaGreatDoor
namespace E
section
variable {D:List Deferred} {ro:Option Nat} {P:Program} {dp nt:Nat} {μ0:Mu} {m0:M} {w0:World} {rec:Rec}
theorem qyd {μ F m a w}(h:St D P dp nt μ0 m0 w0 F m a w μ)(d){β}(c:T Value->β):∃ b,(putD dp nt d).f undef F c=c b/\St D P dp nt μ0 m0 w0 b m (a.put d Go.undef) w μ:=by obtain⟨b,e,f⟩:=h.rf.put (v:=undef) (V:=Go.undef) .undef d c;exact⟨b,e,h.hp,h.gn,h.gl,f,by rw[put_defers];exact h.df⟩
theorem qzV {β}(c v)(a b z:β):onGd c v a b z=match v with|.bool t=>(if t=c then a else b)|.tuple _=>b|_=>z:=by unfold onGd;rw[qvV,qAI];cases v<;>first|rfl|(rename_i t;cases t<;>cases c<;>rfl)
theorem qwF {ops g μ F m a w}(h:St D P dp nt μ0 m0 w0 F m a w μ):∃ v,(∀ c:Value->Out,(guardOf P dp ops.toList g).f F c=c v) /\
  ∀ o:Oper,o.guard=some g->(∀ b,v=.bool b->Region.wanted o (yielded ops a.tmps)=(b==g.2))/\(∀ l,v=.tuple l->Region.wanted o (yielded ops a.tmps)=false):=by
 obtain⟨j,e⟩:=g;unfold guardOf;cases hd:(ops.toList[j]?).bind (·.dst)with
 |none=>refine⟨unk,λc=>by grind,λo _=>⟨λb i=>(by cases i),λl k=>(by cases k)⟩⟩
 |some d=>
  obtain⟨v,x,n⟩:=zt h.rf h.gl (.tmp d);refine⟨v,λc=>by grind,λo s=>?_⟩;have p:(ops[j]?).bind (·.dst)=some d:=by grind
  have q:a.eval (.tmp d)=a.tmps.getD d Go.undef:=rfl;rw[q]at n;have t:yielded ops a.tmps j=(match a.tmps[d]? with|some (.bool b)=>some b|_=>none):=by
   simp only[yielded,p,Option.bind_some]
   grind
  refine⟨λb i=>?_,λl k=>?_⟩
  .
   subst i;have f:=n.bool;have r:a.tmps[d]? = some (.bool b):=by
    rw[Array.getD_eq_getD_getElem?]at f;cases u:a.tmps[d]? with
    |none=>rw[u]at f;cases f
    |some V=>grind
   simp only[Region.wanted,s,t,r];cases b<;>cases e<;>rfl
  .
   subst k;obtain⟨y,f,_⟩:=n.tupI;have r:yielded ops a.tmps j=none:=by
    rw[t];rw[Array.getD_eq_getD_getElem?]at f
    grind
   simp only[Region.wanted,s,r];cases e<;>rfl
theorem qv3 (b:qN P rec){ops Q}:∀ (rest:List Oper) (i:Nat) (F:T Value) (m:M) (a:Act) (w:World) (μ:Mu) (x:X) (F':T Value) (m':M),(∀ (k:Nat) o,rest[k]? = some o->ops[i+k]? = some o) ->
  St D P dp nt μ0 m0 w0 F m a w μ->(opers P dp nt ops.toList rest).f rec F m=.go x F' m'->(∀ e f w',Stands D P dp nt μ0 m0 w0 x F' m' e f w'->Q e f w')->wpOpsIn (FW ro) 0 P ops Q (List.range' i rest.length) a w
 |[],i,F,m,a,w,μ,x,F',m',_,h,e,c=>by cases e;exact c _ _ _ ⟨μ,.norm,h⟩
 |o::rest,i,F,m,a,w,μ,x,F',m',s,h,e,c=>by
  have y:ops[i]? = some o:=by have:=s 0 o rfl;omega
  have d:∀ (k:Nat) o,rest[k]? = some o->ops[i+1+k]? = some o:=λk o h=>by have:=s (k+1) o (by grind);grind
  show wpOpsIn (FW ro) 0 P ops Q (i::List.range' (i+1) rest.length) a w;simp only[wpOpsIn,y];have run:∀ e:(oper P dp nt o).f rec (λF m=>(opers P dp nt ops.toList rest).f rec F m) F m=.go x F' m',o.wpIn (FW ro) 0 P a w (wpOpsIn (FW ro) 0 P ops Q (List.range' (i+1) rest.length)) Q:=λe=>qyp b e h (λj z A w1 n p B=>qv3 b rest (i+1) j z A w1 n x F' m' d p B c) (λe f w' _=>c e f w');have skip:∀ e:((putD dp nt o.dst).f undef F λF=>(opers P dp nt ops.toList rest).f rec F m)=.go x F' m',wpOpsIn (FW ro) 0 P ops Q (List.range' (i+1) rest.length) (a.put o.dst Go.undef) w:=λe=>by obtain⟨j,p,C⟩:=qyd h o.dst λF=>(opers P dp nt ops.toList rest).f rec F m;rw[p]at e;exact qv3 b rest (i+1) j m _ w μ x F' m' d C e c
  unfold opers at e;unfold one1 at e;split at e
  . rename_i q;have u:Region.wanted o (yielded ops a.tmps)=true:=by simp only[Region.wanted,q]
    grind
  .
   rename_i g q;obtain⟨v,E,u⟩:=qwF (ops:=ops) (g:=g) h;obtain⟨r,G⟩:=u o q;simp only[E,qzV]at e;split at e
   . rename_i t;have:=r t rfl;split at e
     . grind
     . rename_i H;rw[if_neg (by grind)];exact⟨λ_ _=>trivial,skip e⟩
   . rename_i l;rw[if_neg (by grind)];exact⟨λ_ _=>trivial,skip e⟩
   grind
end
end E
end Go.Proofs.YtnnhdcidgfjfpaaGreatDoor
