/-
  The interpreter is sound: operations that leave memory as it is; memory that is turned. No claim stands here.
-/
import Derived.Test.YtnnhdcidgfjfpaaGreatDoorEAq
import Derived.Lib.Builder
import Derived.Lib.UnsafeStr
import Derived.Deep.AppendSrc
import Derived.Room.Entries
set_option linter.all false
namespace Go.Proofs.YtnnhdcidgfjfpaaGreatDoor
namespace E
section
variable {P:Program} {μ:Mu} {dp nt:Nat} {F:T Value} {a:Act} {w:World} {m:M}
theorem qC0 (A:RF μ dp nt F a.tmps)(B:Gl P μ){t x l v}(e:(ixQ P t x l dp).f F m=.val v):Does P μ w (Instr.indexAt t (a.eval x) (a.eval l)) v:=by
 obtain⟨u,C,D⟩:=zt A B x;obtain⟨j,E,f⟩:=zt A B l;unfold ixQ at e;split at e
 .
  rename_i n g o;simp only[bi_eq,quZ]at e;split at e
  . cases e
  rename_i b;have b:okT P g=true:=by grind
  simp only[C,E,qu9]at e;split at e
  .
   rename_i p;obtain⟨_,y,q,h⟩:=D.ptrI;obtain⟨k,i,c,r⟩:=qwP e;replace e:=r;subst c;have s:=f.int;simp only[bi_eq,qAZ,natF_eq]at e;split at e
   . rename_i d;have d:i<n:=by simp_all
     cases e;refine⟨.pointer (some ⟨y.b,y.o+(p.off+i*szT P g),none⟩),?_,.ptr _ _ y q⟩;have:(0:Int)<=(i:Int)/\(i:Int)<(n:Int):=⟨by omega,by omega⟩
     simp[Instr.indexAt,s,asIntOf,run_underlying o,h,Instr.sureAddr,this,run_sizeOf (qu0 b),addr_add,Nat.add_assoc];omega
   grind
  grind
 .
  rename_i g o;simp only[bi_eq,quZ]at e;split at e
  . cases e
  rename_i b;have b:okT P g=true:=by grind
  simp only[C,E,qvH]at e;split at e
  . cases e
  .
   rename_i p n z;obtain⟨k,i,c,r⟩:=qwP e;replace e:=r;subst c;have s:=f.int;simp only[bi_eq,qAZ,natF_eq]at e;split at e
   .
    rename_i d;have d:i<n:=by simp_all
    cases e;obtain⟨G,⟨rfl,_,H,h⟩|⟨y,cap,q,I,J,h⟩⟩:=D.slI
    . omega
    . refine⟨.pointer (some ⟨y.b,y.o+(p.off+i*szT P g),none⟩),?_,.ptr _ _ y q⟩;have:(0:Int)<=(i:Int)/\(i:Int)<(n:Int):=⟨by omega,by omega⟩
      simp[Instr.indexAt,s,asIntOf,run_underlying o,h,this,run_sizeOf (qu0 b),addr_add,Nat.add_assoc];omega
   grind
  grind
 . cases e
theorem qzS (C:RF μ dp nt F a.tmps)(D:Gl P μ){t x h v}(e:(qze P t x h dp).f F m=.val v):Does P μ w (Instr.index t (a.eval x) (a.eval h)) v:=by
 obtain⟨u,E,G⟩:=zt C D x;obtain⟨j,H,g⟩:=zt C D h;unfold qze at e;split at e
 .
  rename_i n o p;simp only[E,H,qwX]at e;split at e
  .
   rename_i l;obtain⟨I,q,f,J⟩:=G.aggI;obtain⟨k,i,d,y⟩:=qwP e;replace e:=y;subst d;have z:=g.int;simp only[bi_eq,natF_eq]at e;split at e
   .
    rename_i c;have c:i<n:=by simp_all
    obtain⟨V,A,K⟩:=qgk (w:=w) e f J;have B:okT P o=true:=by
     unfold qz0 at e;simp only[bi_eq,quZ]at e;split at e
     . cases e
     grind
    refine⟨V,?_,K⟩;have:(0:Int)<=(i:Int)/\(i:Int)<(n:Int):=⟨by omega,by omega⟩
    have A:(part o I (i*szT P o)).run P w=.ok V w:=A;simp[Instr.index,z,asIntOf,run_underlying p,q,this,run_sizeOf (qu0 B),A];omega
   grind
  grind
 .
  rename_i p;simp only[E,H,qvE]at e;split at e
  .
   rename_i s;have q:=G.str;obtain⟨k,i,d,y⟩:=qwP e;replace e:=y;subst d;have z:=g.int;unfold qFE at e;simp only[dropL_eq,qzG,natF_eq,bytes]at e;split at e
   . cases e
   . rename_i b r L;cases e;refine⟨_,?_,.mkI _ _⟩;have N:s[i]? = some b:=by have f:=congrArg (·[0]?) L;simp only[List.getElem?_drop,Nat.add_zero,List.getElem?_cons_zero,Array.getElem?_toList]at f;have c:i<s.data.size:=(Array.getElem?_eq_some_iff.1 f).1;have:s[i]? = some (s[i]'c):=getElem?_pos s i c;rw[this];rw[Array.getElem?_eq_getElem c]at f;exact f
     simp[Instr.index,z,asIntOf,run_underlying p,q,N]
  grind
 . cases e
def keyD (d:TypeDesc)(k:Value):Prop:=match d,k with
 |.int j,.int k _=>j=k
 |.string,.string _=>True
 |.bool,.bool _=>True
 |_,_=>False
theorem qAz {t k}(h:(qdG P t).f k=true):∃ d,P.underlying t=some d/\keyD d k/\sc k=true:=by
 unfold qdG at h;split at h
 .
  rename_i j b;simp only[qvt]at h;split at h
  . exact⟨_,b,(qxm (Nat.eq_of_beq_eq_true h)).symm,rfl⟩
  grind
 .
  rename_i b;simp only[qvE]at h;split at h
  . exact⟨_,b,trivial,rfl⟩
  grind
 .
  rename_i b;simp only[qvV]at h;split at h
  . exact⟨_,b,trivial,rfl⟩
  grind
 grind
theorem run_checkKey {t d k}(c:P.underlying t=some d)(hd:keyD d k)(b)(w):(Instr.checkKey b 10000 t k).run P w=.ok () w:=by
 have:∀ n,(Instr.checkKey b (n+1) t k).run P w=.ok () w:=by intro n;simp only[Instr.checkKey,Sem.run_bind,run_underlying c,Result.andThen_ok];unfold keyD at hd;split at hd<;>first|rfl|grind
 grind
theorem qw2 {d k v}(hd:keyD d k){b}(e:qbk k v=some b):Instr.sameNow d k v=some b:=by
 unfold qbk at e;split at e
 .
  rename_i j p f q;simp only[bi_eq]at e;split at e
  . rename_i c;have:=qxm (Nat.eq_of_beq_eq_true c);subst this;cases e;cases d<;>simp[keyD]at hd;simp[Instr.sameNow,qAv]
  grind
 . cases e;cases d<;>simp[keyD]at hd;rename_i p q;simp only[Instr.sameNow,qzb,bytes,Option.some.injEq];rw[show(p==q)=(p.data==q.data)from rfl,Bool.eq_iff_iff];simp_all
 . cases e;cases d<;>simp[keyD]at hd;rfl
 grind
theorem qA6 {k v}(e:qbk k v=some true):v=k:=by
 unfold qbk at e;split at e
 .
  simp only[bi_eq]at e;split at e
  . rename_i b;have:=qxm (Nat.eq_of_beq_eq_true b);subst this;rw[qAv]at e
    grind
  grind
 . rename_i p q;simp only[qzb,bytes,Option.some.injEq,beq_iff_eq]at e;rw[ByteArray.ext (Array.ext' e)]
 . grind
 grind
theorem RE.cons_inv {e d b}(h:RE μ (e::d) b):∃ c r,b=c::r/\c.key=e.key/\qvA e.key=true/\c.born=e.born/\R μ e.val c.val/\RE μ d r:=by
 cases b with
 |nil=>exact absurd h.1 (by simp)
 |cons c r=>obtain⟨f,g,i,k⟩:=h.2 0 e c rfl rfl;exact⟨c,r,rfl,f,g,i,k,by simpa using h.1,λj x y l n=>h.2 (j+1) x y (by grind) (by grind)⟩
theorem RE.cons {e c d b}(f:c.key=e.key)(g:qvA e.key=true)(i:c.born=e.born)(k:R μ e.val c.val)(h:RE μ d b):RE μ (e::d) (c::b):=by
 refine⟨by simp[h.1],λj x y l n=>?_⟩;cases j with
 |zero=>grind
 |succ j=>exact h.2 j x y (by grind) (by grind)
theorem RE.nil_inv {b}(h:RE μ [] b):b=[]:=List.length_eq_zero_iff.1 h.1.symm
theorem qyl {d k}(hd:keyD d k):∀ (g b:List MapEntry) (i:Nat) {c:Option Value->QV} {no:QV} {v:Value},(∀ v,no≠.val v)->qDM k g c no=.val v->RE μ g b ->
  ∃ r:Option Value,c r=.val v/\((r=none/\Instr.findNow d k b i=some none)\/∃ u V n,r=some u/\Instr.findNow d k b i=some (some (n,V))/\R μ u V)
 |[],b,i,c,no,v,f,e,h=>⟨none,e,.inl ⟨rfl,by rw[h.nil_inv];rfl⟩⟩
 |x::g,b,i,c,no,v,f,e,h=>by
  obtain⟨x',r,rfl,l,y,z,o,p⟩:=h.cons_inv;unfold qDM at e;rw[rL_cons]at e;split at e
  . rename_i j;refine⟨some x.val,e,.inr ⟨x.val,x'.val,i,rfl,?_,o⟩⟩;simp only[Instr.findNow,l,qw2 hd j]
  . rename_i j;obtain⟨q,s,t⟩:=qyl hd g r (i+1) f (c:=c) (no:=no) (by exact e) p;refine⟨q,s,?_⟩;simpa only[Instr.findNow,l,qw2 hd j]using t
  grind
theorem qC7 {v}(h:sc v=true):qvA v=true:=by
 unfold qvA;split
 . cases h
 omega
theorem qyK {t b c}(h:mapT P t=some (b,c)):P.underlying t=some (.map b c):=by
 unfold mapT at h
 grind
theorem qgs (N:HO μ w m){t ok x k X K v}(e:(qDT P t ok).f m x k=.val v)(D:R μ x X)(O:R μ k K):Does P μ w (Instr.lookup t X K ok) v:=by
 unfold qDT at e;split at e
 . cases e
 rename_i q E Q;have A:=qyK Q;simp only[bi_eq]at e;have g:∀ {v},(match zV P E with|some z=>if ok=true then QV.val (.tuple #[z,.bool false])else .val z|none=>.no 19)=.val v->∃ z,zV P E=some z/\v=(if ok=true then .tuple #[z,.bool false]else z) /\
   R μ v v:=by
  intro v e;split at e
  . rename_i z h;obtain⟨G,_⟩:=qBm h;split at e
    . rename_i j;cases e;exact⟨z,h,by grind,.mkTup (.cons (qvv G) (.cons (.mkB _) .nil))⟩
    . rename_i j;cases e;exact⟨v,h,by grind,qvv G⟩
  grind
 by_cases o:(qdG P q).f k=true
 case neg=>grind
 rw[if_pos o]at e;obtain⟨d,hd,c,B⟩:=qAz o;have:=O.scI B;subst this;rw[qv2]at e;split at e
 . have:=D.nilmap;subst this;obtain⟨z,h,rfl,p⟩:=g e;obtain⟨_,_,_,l⟩:=qBm h;have f:(Instr.findKey q K []).run P w=.ok none w:=by simp[Instr.findKey,run_underlying hd,Instr.findNow]
   refine⟨_,?_,p⟩;simp[Instr.lookup,run_underlying A,run_checkKey hd c,f,l]
 .
  rename_i i;obtain⟨y,H,rfl⟩:=D.mapI;simp only[M.get_eq,qvu]at e;split at e
  .
   rename_i S clock C;have I:=N i _ H;rw[C]at I;obtain⟨Y,b,J,L,U⟩:=I;rw[H]at J;cases J;obtain⟨r,s,W⟩:=qyl c S b.toList 0 (by grind) e U;rcases W with⟨rfl,f⟩|⟨u,V,n,rfl,f,p⟩
   . obtain⟨z,h,rfl,p⟩:=g s;obtain⟨_,_,_,l⟩:=qBm h;have f:(Instr.findKey q K b.toList).run P w=.ok none w:=by simp[Instr.findKey,run_underlying hd,f]
     refine⟨_,?_,p⟩;simp[Instr.lookup,run_underlying A,getObj,Sem.run,L,run_checkKey hd c,f,l]
   .
    have f:(Instr.findKey q K b.toList).run P w=.ok (some (n,V)) w:=by simp[Instr.findKey,run_underlying hd,f]
    refine⟨if ok=true then .tuple #[V,.bool true]else V,?_,?_⟩
    . simp[Instr.lookup,run_underlying A,getObj,Sem.run,L,run_checkKey hd c,f]
    . simp only at s;split at s
      . rename_i j;cases s;rw[if_pos j];exact .mkTup (.cons p (.cons (.mkB _) .nil))
      grind
  grind
 grind
end
end E
end Go.Proofs.YtnnhdcidgfjfpaaGreatDoor
namespace Go.Proofs.YtnnhdcidgfjfpaaGreatDoor
namespace E
section
variable {P:Program} {μ:Mu} {dp nt:Nat} {F:T Value} {a:Act} {w:World} {m:M}
theorem qBX (h:RF μ dp nt F a.tmps)(i:Gl P μ)(j:HO μ w m){t x rest ty v}(e:(lenQ P t x dp).f F m=.val v):
  Does P μ w (Builtin.len_ ⟨t::rest⟩ ty #[a.eval x]) v:=by
 obtain⟨u,g,f⟩:=zt h i x;have d:(⟨t::rest⟩:Array TypeId)[0]? = some t:=rfl;unfold lenQ at e;split at e
 .
  rename_i b;simp only[g,qvE]at e;split at e
  . rename_i s;simp only[lenF_eq]at e;cases e;refine⟨_,?_,.mkI _ _⟩;simp[Builtin.len_,d,run_underlying b,f.str,goInt,bytes]
  grind
 .
  rename_i b;simp only[g,qvH]at e;split at e
  . obtain⟨rfl,rfl,c⟩:=f.nilsl;cases e;refine⟨_,?_,.mkI _ _⟩;simp[Builtin.len_,d,run_underlying b,c,goInt]
  . cases e;obtain⟨_,⟨rfl,_,k,c⟩|⟨y,cap,l,n,o,c⟩⟩:=f.slI
    . refine⟨_,?_,.mkI _ _⟩;simp[Builtin.len_,d,run_underlying b,c,goInt]
    . refine⟨_,?_,.mkI _ _⟩;simp[Builtin.len_,d,run_underlying b,c,goInt]
  grind
 . cases e
theorem qxG:∀ (l L:List Value) {c:List UInt8->QV} {v:Value},qBu l c=.val v->RL μ l L->∃ d:List UInt8,c d=.val v/\L=d.map λb=>Value.int .u8 b.toNat
 |[],L,c,v,e,h=>⟨[],e,by rw[h.nil_inv];rfl⟩
 |x::l,L,c,v,e,h=>by
  obtain⟨V,g,rfl,i,j⟩:=h.cons_inv;unfold qBu at e;rw[rL_cons,qvt]at e;split at e
  .
   rename_i k n;rw[bi_eq]at e;split at e
   .
    rename_i o;have:k=.u8:=qxm (Nat.eq_of_beq_eq_true o);subst this;cases n with
    |negSucc n=>cases e
    |ofNat n=>
     rw[cI_nat,natF_eq,bi_eq]at e;split at e
     . rename_i f;have f:n<256:=by simp_all
       obtain⟨d,p,b2⟩:=qxG l g (c:=λr=>c (.ofNat n::r)) e j;refine⟨.ofNat n::d,p,?_⟩;rw[List.map_cons,<- b2,i.int];congr 2;simp only[UInt8.toNat_ofNat']
       grind
     grind
   grind
  grind
theorem qyr:∀ (c:List UInt8) (s:ByteArray),((c.map λb=>((b.toNat:Nat):Int)).foldl (λr n=>r.push (UInt8.ofNat n.toNat)) s).data.toList=s.data.toList++c
 |[],s=>by simp
 |b::c,s=>by simp only[List.map_cons,List.foldl_cons];rw[qyr c];simp
theorem qBY {e}(c:szT P e≠0){b}(d:1<=b):liesAt P P.depth e b 0 e 1=true:=by
 have f:P.cellsOf e≠0:=by
  unfold szT at c;unfold Program.cellsOf
  grind
 have hd:P.depth=(2*(P.types.size+Made.depth)+1)+1:=rfl;rw[hd];simp only[liesAt,Bool.or_eq_true];left;rw[hd];simp[rowAt,f,d,sameLayout]
theorem qy3 (e):P.cellsOf e=szT P e:=by unfold szT Program.cellsOf;cases P.info? e<;>rfl
theorem qCg {t}(h:qxp P t=true):szT P t≠0:=by
 unfold qxp at h;split at h
 .
  split at h
  . split at h
    . rw[qu6,quZ,Bool.and_eq_true]at h;intro b;simp_all
    grind
  grind
 grind
theorem qge (N:Rt P μ m)(Z:RF μ dp nt F a.tmps)(hG:Gl P μ)(O:HO μ w m){s t x v}(e:(qCS P s t x dp).f F m=.val v):Does P μ w (convert s t (a.eval x)) v:=by
 obtain⟨u,I,B⟩:=zt Z hG x;have W:(match flat u with|true=>qz1 P (convert s t u)|false=>.no 34)=QV.val v->Does P μ w (convert s t (a.eval x)) v:=by
  intro e;split at e
  . rename_i hf;have:=B.flatI hf;obtain⟨r1,r2⟩:=qxA e w;rw[this];exact⟨v,r1,.sc v r2⟩
  grind
 unfold qCS at e;split at e
 .
  rename_i j k l o;simp only[I,qvt]at e;split at e
  . rename_i k' n;rw[qAW]at e;cases e;refine⟨_,?_,.mkI _ _⟩;simp[convert,run_underlying l,run_underlying o,B.int,Conv.intToInt]
  grind
 .
  rename_i l o;simp only[I,qvE]at e;split at e
  . cases e;refine⟨_,?_,.mkS _⟩;simp[convert,run_underlying l,run_underlying o,B.str]
  grind
 .
  rename_i f l o;simp only[bi_eq,quZ]at e;by_cases C:isU8 P f=true
  case neg=>simp[C]at e;cases e
  have J:P.underlying f=some (.int .u8):=by
   unfold isU8 at C
   grind
  simp only[C,Bool.not_true,Bool.false_eq_true,if_false,I,qvH]at e;split at e
  . obtain⟨rfl,rfl,g⟩:=B.nilsl;cases e;refine⟨.string .empty,?_,.mkS _⟩;rw[g,run_convert_bytes_string w s t f none 0 0 l J o];simp[Conv.bytesToString]
  .
   rename_i h n z;simp only[M.cells_eq]at e;split at e
   .
    rename_i ro D c H;simp only[takeF_eq,dropL_eq]at e;split at e
    .
     rename_i Q;have K:∀ (q:Addr) (cap:Nat) (us:List Value),a.eval x=.slice (some q) n cap->us.length=n->RL μ ((c.drop h.off).take n) us->(∀ (j:Nat) (u:Value),us[j]? = some u->w.cell? (q.add j)=some u)->Does P μ w (convert s t (a.eval x)) v:=by intro q cap us g R S X;obtain⟨bs,b1,b2⟩:=qxG _ _ e S;cases b1;refine⟨_,?_,.mkS _⟩;have hl:=run_loadCells_list (P:=P) (w:=w) q us X;rw[R]at hl;rw[g,run_convert_bytes_string w s t f (some q) n cap l J o];rw[run_bytesToString w q n cap (bs.map λb=>((b.toNat:Nat):Int)) (by simp_all)];congr 2;apply ByteArray.ext;apply Array.ext';rw[qyr];simp
     obtain⟨_,⟨rfl,_,a',g⟩|⟨y,cap,p,Y,hs',g⟩⟩:=B.slI
     . exact K a' 0 [] g rfl (by simp;exact .nil) (by simp)
     .
      have r:=O h.block _ p;rw[H]at r;simp only[List.length_drop]at Q;by_cases hk:h.off<=c.length
      . obtain⟨us,u1,u2,u3,_⟩:=qfQ (k:=h.off) (n:=n) r p (by omega)
        grind
      . have:n=0:=by omega
        subst this;exact K _ cap [] g rfl (by simp;exact .nil) (by simp)
    grind
   grind
  grind
 . cases e
 . cases e
 .
  rename_i f l o;simp only[bi_eq]at e;split at e
  . cases e
  .
   rename_i E;have E:szT P f≠0:=by simp_all
   simp only[I,qu9]at e;split at e
   .
    rename_i h;obtain⟨_,y,p,g⟩:=B.ptrI;simp only[M.cells_eq]at e;split at e
    .
     rename_i ro D c H;simp only[lenF_eq,bi_eq]at e;split at e
     . rename_i d;have d:h.off<c.length:=by simp_all
       cases e;have r:=O h.block _ p;rw[H]at r;obtain⟨y',vs,fr,L,U,_,o4,o5,_⟩:=r;rw[p]at L;cases L;obtain⟨i,A⟩:∃ i,P.info? f=some i:=by
        cases A:P.info? f with
        |none=>exact absurd (by simp[szT,A]) E
        |some i=>grind
       refine⟨_,?_,by omega⟩;rw[g];exact Lib.run_to_unsafe w _ l o A (by simpa [szT,A]using E) (e:=D) (cells:=vs.size) (by simp[World.shape?,U]) (by grind)
     grind
    grind
   grind
 .
  rename_i f l o;simp only[bi_eq,quZ]at e;split at e
  . cases e
  .
   rename_i G;have G:qxp P f=true:=by grind
   have E:=qCg G;simp only[I,qu9]at e;split at e
   .
    rename_i h;obtain⟨_,y,p,g⟩:=B.ptrI;simp only[M.cells_eq]at e;split at e
    .
     rename_i ro D c H;simp only[lenF_eq,bi_eq]at e;split at e
     . rename_i d;rw[qu6,qu6,Bool.and_eq_true,Bool.and_eq_true]at d;have R:D=f:=Nat.eq_of_beq_eq_true d.1;have S:h.off=0:=Nat.eq_of_beq_eq_true d.2.1;have X:szT P f<=c.length:=Nat.le_of_ble_eq_true d.2.2;subst R;cases e;have r:=O h.block _ p;rw[H]at r;obtain⟨y',vs,fr,L,U,_,o4,o5,_⟩:=r;rw[p]at L;cases L;have V:=N h.block y p (by rw[H];exact G);obtain⟨i,A⟩:∃ i,P.info? D=some i:=by
        cases A:P.info? D with
        |none=>exact absurd (by simp[szT,A]) E
        |some i=>grind
       refine⟨_,?_,by omega⟩;rw[g,V,S];refine Lib.run_from_unsafe w _ l o A (e:=D) (cells:=vs.size) (by simp[World.shape?,U]) ?_;rw[qy3];exact qBY E ((Nat.le_div_iff_mul_le (Nat.pos_of_ne_zero E)).2 (by omega))
     grind
    grind
   grind
 grind
end
end E
end Go.Proofs.YtnnhdcidgfjfpaaGreatDoor
namespace Go.Proofs.YtnnhdcidgfjfpaaGreatDoor
namespace E
section
variable {P:Program} {μ:Mu} {dp nt:Nat} {F:T Value} {a:Act} {w:World} {m:M}
theorem qaS (hRt:Rt P μ m)(j:RF μ dp nt F a.tmps)(A:Gl P μ)(hO:HO μ w m){op v}(e:(quiet P dp op).f F m=.val v)(dst ty pos after)(guard):
  ∃ V,(execOp a.eval ⟨dst,op,ty,pos,after,guard⟩).run P w=.ok (.value V) w/\R μ v V:=by
 unfold quiet at e;split at e
 . -- move
   rename_i x;obtain⟨u,D,B⟩:=zt j A x;simp only[D]at e;cases e;exact⟨_,rfl,B⟩
 . -- assign
   rename_i x;obtain⟨u,D,B⟩:=zt j A x;simp only[D]at e;cases e;exact⟨_,rfl,B⟩
 .
  -- pick
  rename_i c x y;obtain⟨u,D,B⟩:=zt j A c;obtain⟨p,I,C⟩:=zt j A x;obtain⟨q,U,G⟩:=zt j A y;simp only[D,I,U,qvV]at e;split at e
  . rename_i t;have g:=B.bool;simp only[bi_eq]at e;cases t with
    |true=>cases e;exact⟨_,by simp[execOp,g,asBool],C⟩
    |false=>cases e;exact⟨_,by simp[execOp,g,asBool],G⟩
  grind
 . -- build
   rename_i t ps;exact(qet j A e).next
 .
  -- load
  rename_i t x;obtain⟨u,D,B⟩:=zt j A x;simp only[D,qu9]at e;split at e
  . rename_i ad;obtain⟨_,y,W,g⟩:=B.ptrI;have:=qAB (P:=P) (w:=w) e (hO _ _ W) W;have O:Does P μ w (Instr.loadAt t (a.eval x)) v:=by rw[g];simpa [Does,Instr.loadAt,Instr.sureAddr]using this
    exact O.next
  grind
 .
  -- nilCheck
  rename_i x;obtain⟨u,D,B⟩:=zt j A x;simp only[D,qu9]at e;split at e
  . obtain⟨_,y,W,g⟩:=B.ptrI;cases e;exact⟨_,by simp[execOp,g];rfl,by grind⟩
  .
   simp only[qyM]at e;split at e
   . obtain⟨p,q,g,_⟩:=B.fnI;cases e;exact⟨_,by simp[execOp,g];rfl,by simp_all⟩
   .
    simp only[qzY]at e;split at e
    . obtain⟨rfl,rfl,q,_,g⟩:=B.ydI;cases e;exact⟨_,by simp[execOp,g];rfl,by grind⟩
    . simp only[qzW]at e;split at e
      . cases e
      . obtain⟨q,g,_⟩:=B.ifI;cases e;exact⟨_,by simp[execOp,g];rfl,by grind⟩
      grind
 . -- binOp
   rename_i op t x y t';obtain⟨p,I,C⟩:=zt j A x;obtain⟨q,U,G⟩:=zt j A y;simp only[I,U]at e;exact(qBp e C G (λc hc=>by rw[hc];rfl) (λc hc=>by rw[hc];rfl)).next
 .
  -- unOp
  rename_i op t x;obtain⟨u,D,B⟩:=zt j A x;split at e
  . simp only[D,qvV]at e;split at e
    . rw[qB8,quZ]at e;cases e;exact⟨_,by simp[execOp,B.bool,Op.unary],.mkB _⟩
    grind
  . simp only[D]at e;split at e
    . rename_i hf;have g:=B.flatI hf;obtain⟨r1,r2⟩:=qxA e w;exact Does.next ⟨v,by grind,.sc v r2⟩
    grind
 . -- convert
   rename_i s t x;exact(qge hRt j A hO e).next
 .
  -- J
  rename_i t x;obtain⟨u,D,B⟩:=zt j A x;split at e
  . cases e
  . rename_i d K hd;simp only[D]at e;cases e;refine⟨.iface t (a.eval x),?_,.iface _ _ _ B⟩;cases d<;>simp[execOp,Instr.makeInterface,run_underlying hd]
    grind
  . cases e
 .
  -- makeFunc
  rename_i f p q;obtain⟨r1,X,O⟩:=qwf j A p.toList;obtain⟨r2,h3,h4⟩:=qwf j A q.toList;simp only[X,h3]at e;cases e;refine⟨.func (.func f) (p.map a.eval) (q.map a.eval),rfl,?_⟩;have e1:p.map a.eval=⟨p.toList.map a.eval⟩:=by grind
  have e2:q.map a.eval=⟨q.toList.map a.eval⟩:=by grind
  rw[e1,e2];exact .func _ _ _ _ _ O.1 O.2 h4.1 h4.2
 . -- slice
   rename_i t x lo hi;exact(qem j A hO e).next
 .
  -- Y
  rename_i t x f;obtain⟨u,D,B⟩:=zt j A x;split at e
  .
   rename_i o ft E;simp only[bi_eq]at e;split at e
   . cases e
   .
    rename_i L;have L:szT P ft≠0:=by simp_all
    have Z:∃ i,P.info? ft=some i:=by
     unfold szT at L
     grind
    simp only[D,qu9]at e;split at e
    .
     rename_i ad;obtain⟨_,y,W,g⟩:=B.ptrI;simp only[qAZ,natF_eq]at e;cases e;unfold qxw at E;split at E
     . rename_i fs hu';split at E
       . rename_i fl hfl;cases E;refine⟨.pointer (some ⟨y.b,y.o+(ad.off+fl.offset),none⟩),?_,.ptr _ _ y W⟩;simp[execOp,Instr.fieldAt,run_underlying hu',hfl,g,Instr.sureAddr,fieldPlace,run_sizeOf Z,L,addr_add,Nat.add_assoc]
       grind
     grind
    grind
  . cases e
 .
  -- field
  rename_i t x f;obtain⟨u,D,B⟩:=zt j A x;split at e
  .
   rename_i o ft E;simp only[D,qwX]at e;split at e
   .
    rename_i l;obtain⟨l',g,X,O⟩:=B.aggI;unfold qxw at E;split at E
    . rename_i fs hu';split at E
      . rename_i fl hfl;cases E;obtain⟨V,p1,p2⟩:=qgk (w:=w) e X O;have p1:(part fl.type l' fl.offset).run P w=.ok V w:=p1;exact⟨V,by simp[execOp,Instr.field,run_underlying hu',hfl,g,asAgg,p1],p2⟩
      grind
    grind
   grind
  . cases e
 . -- indexAddr
   rename_i t x ix;exact(qC0 j A e).next
 . -- index
   rename_i t x ix;exact(qzS j A e).next
 . -- lookup
   rename_i t x k ok;obtain⟨p,I,C⟩:=zt j A x;obtain⟨q,U,G⟩:=zt j A k;simp only[I,U]at e;exact(qgs hO e C G).next
 .
  -- Q
  rename_i x xt t ok;obtain⟨u,D,B⟩:=zt j A x;split at e
  . cases e
  .
   rename_i d K hd;have S:∀ {v},(match zV P t with|some z=>(if ok=true then .val (.tuple #[z,.bool false])else .no 57)|none=>.no 57)=QV.val v->ok=true/\∃ z,v=.tuple #[z,.bool false]/\R μ v v/\(∀ w,(zeroValue t).run P w=.ok z w):=by
    intro v e;split at e
    . rename_i z L;obtain⟨f1,_,_,f4⟩:=qBm L;cases ok with
      |true=>cases e;exact⟨rfl,z,rfl,.mkTup (.cons (qvv f1) (.cons (.mkB _) .nil)),f4⟩
      |false=>cases e
    grind
   simp only[D,qzW,bi_eq]at e;split at e
   . obtain⟨rfl,z,rfl,hR,L⟩:=S e;refine⟨_,?_,hR⟩;cases d<;>first
      |(exact(K _ rfl).elim)
      |simp[execOp,Instr.typeAssert,run_underlying hd,B.nilIface,L]
   .
    rename_i t' u';obtain⟨V',g,hR⟩:=B.ifI;split at e
    .
     rename_i H;have H:t'=t:=Nat.eq_of_beq_eq_true H;subst H;split at e
     . rename_i N;cases e;subst N;refine⟨.tuple #[V',.bool true],?_,.mkTup (.cons hR (.cons (.mkB _) .nil))⟩;cases d<;>first
        |(exact(K _ rfl).elim)
        |simp[execOp,Instr.typeAssert,run_underlying hd,g]
     . rename_i N;cases e;have N:ok=false:=by grind
       subst N;refine⟨V',?_,hR⟩;cases d<;>first
        |(exact(K _ rfl).elim)
        |simp[execOp,Instr.typeAssert,run_underlying hd,g]
    . rename_i H;have H:t'≠t:=λh=>H (by simp_all);obtain⟨rfl,z,rfl,hR',L⟩:=S e;refine⟨_,?_,hR'⟩;cases d<;>first
       |(exact(K _ rfl).elim)
       |simp[execOp,Instr.typeAssert,run_underlying hd,g,H,L]
   grind
  . cases e
 .
  -- extract
  rename_i x i;obtain⟨u,D,B⟩:=zt j A x;simp only[D,qAI]at e;split at e
  .
   rename_i l;obtain⟨l',g,X⟩:=B.tupI;simp only[dropL_eq,qzG]at e;split at e
   . cases e
   .
    rename_i y r hd;cases e;have hx:l.toList[i]? = some v:=by
     have:=congrArg (·[0]?) hd
     grind
    obtain⟨V,hV',hR⟩:=X.get hx;have hV':l'[i]? = some V:=by grind
    exact⟨V,by simp[execOp,Instr.extract,g,hV'],hR⟩
  grind
 . -- len
   rename_i x t rest;have:=qBX (w:=w) (rest:=rest) (ty:=ty) j A hO e;obtain⟨V,X,O⟩:=this;refine⟨V,?_,O⟩;simp[execOp,resolve,invoke,builtin,X]
 .
  -- cap
  rename_i x t rest;split at e
  .
   rename_i el ht;obtain⟨p,I,C⟩:=zt j A x;simp only[I,qvH]at e;split at e
   . obtain⟨rfl,rfl,g⟩:=C.nilsl;cases e;refine⟨.int .i64 0,?_,.mkI _ _⟩;simp[execOp,resolve,invoke,builtin,g,Builtin.cap_,run_underlying ht,goInt]
   . cases e
   grind
  . cases e
 .
  -- what a slice's row is
  rename_i x at_;obtain⟨p,I,C⟩:=zt j A x;simp only[I,qvH,bi_eq]at e;split at e
  . obtain⟨rfl,rfl,g⟩:=C.nilsl;cases e;refine⟨_,?_,.sc _ rfl⟩;simp[execOp,resolve,invoke,builtin,g,Lib.run_unsafeSliceData_nil]
  .
   rename_i ad n z;split at e
   . cases e
   .
    rename_i hn;have hn:n≠0:=by simp_all
    cases e;obtain⟨hsp,⟨rfl,_,a',g⟩|⟨y,cap,W,hcap,hs',g⟩⟩:=C.slI
    . omega
    . refine⟨.pointer (some ⟨y.b,y.o+ad.off,none⟩),?_,?_⟩
      . simp[execOp,resolve,invoke,builtin,g,Lib.run_unsafeSliceData_row (P:=P) w at_ ty ⟨y.b,y.o+ad.off,none⟩ n cap (by omega)]
      . obtain⟨b,o,s⟩:=ad;cases hsp;exact .ptr b o y W
  grind
 .
  -- max
  rename_i x y at_;obtain⟨p,I,C⟩:=zt j A x;obtain⟨q,U,G⟩:=zt j A y;simp only[I,U,qvt,bi_eq,qBZ]at e;split at e
  .
   split at e
   .
    rename_i k m' _ k' n';refine⟨.int k (if m'<n' then n' else m'),?_,?_⟩
    . simp[execOp,resolve,invoke,builtin,Builtin.max_,C.int,G.int,Builtin.max2]
    . split at e
      . rename_i h;cases e;rw[if_pos (by grind)];exact .mkI _ _
      . rename_i h;cases e;rw[if_neg (by grind)];exact .mkI _ _
   grind
  grind
 . cases e
end
end E
end Go.Proofs.YtnnhdcidgfjfpaaGreatDoor
namespace Go.Proofs.YtnnhdcidgfjfpaaGreatDoor
namespace E
def lv:O->Bool
 |.dead=>false
 |_=>true
def wr:O->Bool
 |.dead=>false
 |_=>true
theorem qFJ {o}(h:wr o=true):lv o=true:=by cases o<;>first|rfl|cases h
structure Hp (P:Program) (μ:Mu) (m:M) (w:World):Prop where
 obj:HO μ w m
 fresh:∀ i,m.next<=i->μ i=none
 room:m.next<=hdN
 root:Rt P μ m
 lt:∀ i x,μ i=some x->x.b<w.heap.size
 inj:∀ i j x y,i≠j->lv (m.at i)=true->lv (m.at j)=true->μ i=some x->μ j=some y->x.b≠y.b
structure Gn (μ:Mu) (m:M) (w:World) (μ':Mu) (m':M) (w':World):Prop where
 ext:Ext μ μ'
 next:m.next<=m'.next
 size:w.heap.size<=w'.heap.size
 rest:∀ b,b<w.heap.size->(∀ i x,wr (m.at i)=true->μ i=some x->x.b≠b)->w'.heap[b]? = w.heap[b]?
 own:∀ i x,wr (m'.at i)=true->μ' i=some x->(∃ j y,wr (m.at j)=true/\μ j=some y/\y.b=x.b)\/w.heap.size<=x.b
 out:w'.os=w.os/\w'.output=w.output
 old:∀ i,i<m.next->μ' i=μ i
theorem Gn.refl (μ m)(w):Gn μ m w μ m w:=⟨.refl μ,Nat.le_refl _,Nat.le_refl _,λ_ _ _=>rfl,λi x h e=>.inl ⟨i,x,h,e,rfl⟩,⟨rfl,rfl⟩,λ_ _=>rfl⟩
theorem Gn.trans {μ ν ξ m n k w u v}(h:Gn μ m w ν n u)(g:Gn ν n u ξ k v):Gn μ m w ξ k v where
 ext:=h.ext.trans g.ext
 next:=Nat.le_trans h.next g.next
 size:=Nat.le_trans h.size g.size
 rest b f q:=by
  rw[g.rest b (Nat.lt_of_lt_of_le f h.size) λi x d e r=>?_,h.rest b f q];rcases h.own i x d e with⟨j,y,l,o,s⟩|c
  . grind
  . omega
 own i x d e:=by
  rcases g.own i x d e with⟨j,y,l,o,s⟩|c
  . rcases h.own j y l o with⟨t,z,k1,A,B⟩|c
    . grind
    omega
  . exact .inr (Nat.le_trans h.size c)
 out:=⟨g.out.1.trans h.out.1,g.out.2.trans h.out.2⟩
 old i p:=(g.old i (Nat.lt_of_lt_of_le p h.next)).trans (h.old i p)
theorem RE.mono {μ f}(k:Ext μ f){i g}(h:RE μ i g):RE f i g:=⟨h.1,λj e l n o=>let ⟨a,b,c,d⟩:=h.2 j e l n o;⟨a,b,c,d.mono k⟩⟩
theorem OR.mono {μ n w w' i o}(d:Ext μ n)(E:∀ x,μ i=some x->w'.heap[x.b]? = w.heap[x.b]?)(h:OR μ w i o):OR n w' i o:=by
 cases o with
 |dead=>trivial
 |cells ro t c=>obtain⟨x,vs,fr,f,k,g,l,q,z,A⟩:=h;exact⟨x,vs,fr,d _ _ f,by grind,g,l,q,z,λj v e=>let ⟨u,a,b⟩:=A j v e;⟨u,a,b.mono d⟩⟩
 |map G clock=>obtain⟨x,p,f,k,g⟩:=h;exact⟨x,p,d _ _ f,by grind,g.mono d⟩
 |siter s pos=>obtain⟨x,S,f,k,g,l⟩:=h;exact⟨x,S,d _ _ f,k,by grind,l⟩
 |miter j B seen D=>obtain⟨x,y,f,k,g,l⟩:=h;exact⟨x,y,d _ _ f,k,d _ _ g,by grind⟩
 |loop F dp nt H as I D C=>obtain⟨x,r,f,k,g,l,q,z,A⟩:=h;exact⟨x,r,d _ _ f,by grind,g,l,q,z.mono d,A⟩
section
variable {P:Program} {μ:Mu} {dp nt:Nat} {F:T Value} {a:Act} {w w':World} {m m':M}
theorem Hp.idlt (h:Hp P μ m w){i x}(e:μ i=some x):i<m.next:=by
 rcases Nat.lt_or_ge i m.next with h1|h1
 . exact h1
 . rw[h.fresh i h1]at e;cases e
theorem Hp.idroom (h:Hp P μ m w){i x}(e:μ i=some x):i<4 ^ hd:=Nat.lt_trans (Nat.lt_of_lt_of_le (h.idlt e) h.room) qwG
theorem Hp.upd (h:Hp P μ m w){c j o x}(O:c j=some x)(d:∀ q,q≠j->c q=μ q)(n:Ext μ c)(W:j<m'.next)(u:m.next<=m'.next)(G:m'.next<=max m.next (j+1))(g:m'.next<=hdN)(k:∀ q,q<4 ^ hd->q≠j->m'.at q=m.at q\/m'.at q=.dead)(H:m'.at j=o)(free:∀ q y,q≠j->lv (m'.at q)=true->μ q=some y->y.b≠x.b)(I:(∃ i y,wr (m.at i)=true/\μ i=some y/\y.b=x.b)\/w.heap.size<=x.b)(heap:∀ b,b≠x.b->b<w.heap.size->w'.heap[b]? = w.heap[b]?)(size:w.heap.size<=w'.heap.size)(Q:x.b<w'.heap.size)(X:OR c w' j o)(v:w'.os=w.os/\w'.output=w.output)(A:qyi P o=true->x.o=0)(R:j<m.next->c j=μ j):
  Hp P c m' w'/\Gn μ m w c m' w':=by
 have l:∀ q,m'.next<=q->c q=none:=λq f=>by rw[d q (by omega)];exact h.fresh q (by omega)
 have idroom:∀ q y,c q=some y->q<4 ^ hd:=λq y e=>by
  rcases Nat.lt_or_ge q m'.next with h1|h1
  . exact Nat.lt_trans (Nat.lt_of_lt_of_le h1 g) qwG
  grind
 have B:Rt P c m':=λq y e t=>by
  by_cases f:q=j
  . grind
  . rcases k q (idroom q y e) f with h1|h1
    . rw[h1]at t;rw[d q f]at e;exact h.root q y e t
    . rw[h1]at t;cases t
 refine⟨⟨λq y e=>?_,l,g,B,λq y e=>?_,λp q y z C J f D E=>?_⟩,⟨n,u,size,λb Y Z=>?_,λq y K e=>?_,v,λq f=>?_⟩⟩
 .
  by_cases f:q=j
  . grind
  .
   rw[d q f]at e;rcases k q (h.idroom e) f with h1|h1
   .
    rw[h1];cases L:lv (m.at q)with
    |false=>
     have:m.at q=.dead:=by cases S:m.at q<;>first|rfl|(rw[S]at L;cases L)
     rw[this];trivial
    |true=>refine(h.obj q y e).mono n λz N=>?_;rw[e]at N;cases N;exact heap y.b (free q y f (by grind) e) (h.lt q y e)
   . rw[h1];trivial
 .
  by_cases f:q=j
  . grind
  . rw[d q f]at e;exact Nat.lt_of_lt_of_le (h.lt q y e) size
 .
  by_cases r:p=j
  . grind
  .
   by_cases s:q=j
   . grind
   .
    have U:lv (m.at p)=true:=by
     rcases k p (idroom p y D) r with h1|h1
     . grind
     . rw[h1]at J;cases J
    have V:lv (m.at q)=true:=by
     rcases k q (idroom q z E) s with h1|h1
     . grind
     . rw[h1]at f;cases f
    rw[d p r]at D;rw[d q s]at E;exact h.inj p q y z C U V D E
 . grind
 .
  by_cases f:q=j
  . grind
  . rcases k q (idroom q y e) f with h1|h1
    . grind
    . rw[h1]at K;cases K
 grind
def Mu.set (μ:Mu)(j:Nat)(x:Lc):Mu:=λq=>if q=j then some x else μ q
theorem Mu.set_same (μ:Mu)(j)(x):(μ.set j x) j=some x:=by simp[Mu.set]
theorem Mu.set_other (μ:Mu){j q}(x)(h:q≠j):(μ.set j x) q=μ q:=by simp[Mu.set,h]
theorem Mu.set_ext {μ j}(x)(h:μ j=none):Ext μ (μ.set j x):=λq y e=>by
 by_cases b:q=j
 . grind
 . rw[Mu.set_other μ x b];exact e
theorem Hp.new (h:Hp P μ m w)(i:m.next<hdN){o x}(p:x.b=w.heap.size)(k:w'.heap.size=w.heap.size+1)(heap:∀ b,b<w.heap.size->w'.heap[b]? = w.heap[b]?)(l:OR (μ.set m.next x) w' m.next o)(f:w'.os=w.os/\w'.output=w.output)(c:qyi P o=true->x.o=0):Hp P (μ.set m.next x) (m.push o) w'/\Gn μ m w (μ.set m.next x) (m.push o) w':=by
 refine h.upd (j:=m.next) (o:=o) (Mu.set_same μ _ x) (λq g=>Mu.set_other μ x g) (Mu.set_ext x (h.fresh _ (Nat.le_refl _))) (by simp) (by simp) (by simp) (by simp;omega)
  (λq g d=>.inl (M.at_push_other m q o (Nat.lt_trans i qwG) g d)) (M.at_push_same m o) (λq y d _ e=>?_) (.inr (by omega)) (λb _ n=>heap b n) (by omega) (by omega) l f c (λh=>absurd h (Nat.lt_irrefl _))
 have:=h.lt q y e;omega
theorem Hp.put (h:Hp P μ m w){i x}(d:μ i=some x)(k:wr (m.at i)=true){o}(p:w'.heap.size=w.heap.size)(heap:∀ b,b≠x.b->w'.heap[b]? = w.heap[b]?)(r:OR μ w' i o)(g:w'.os=w.os/\w'.output=w.output)(f:qyi P o=true->qyi P (m.at i)=true):Hp P μ (m.setA i o) w'/\Gn μ m w μ (m.setA i o) w':=by
 have l:=h.idroom d;refine h.upd (j:=i) (o:=o) d (λ_ _=>rfl) (.refl μ) (by simp;exact h.idlt d) (by simp) (by simp;omega) (by simp;exact h.room)
  (λq s c=>.inl (M.at_setA_other m i q o l s c)) (M.at_setA_same m i o) (λq y c n e=>?_) (.inl ⟨i,x,k,d,rfl⟩) (λb t _=>heap b t) (by omega) (by have:=h.lt i x d;omega) r g (λu=>h.root i x d (f u)) (λ_=>rfl)
 rw[M.at_setA_other m i q o l (h.idroom e) c]at n;exact h.inj q i y x c n (qFJ k) e d
theorem Hp.take (h:Hp P μ m w)(t:m.next<hdN){i x x'}(f:μ i=some x)(r:wr (m.at i)=true)(s:x'.b=x.b){o}(u:w'.heap.size=w.heap.size)(heap:∀ b,b≠x.b->w'.heap[b]? = w.heap[b]?)(v:OR (μ.set m.next x') w' m.next o)(l:w'.os=w.os/\w'.output=w.output)(n:qyi P o=false):
  Hp P (μ.set m.next x') ((m.setA i .dead).push o) w'/\Gn μ m w (μ.set m.next x') ((m.setA i .dead).push o) w':=by
 have z:=h.idroom f;have A:=h.idlt f;have p:m.next<4 ^ hd:=Nat.lt_trans t qwG;have at_:∀ q,q<4 ^ hd->q≠m.next->((m.setA i .dead).push o).at q=if q=i then .dead else m.at q:=by
  intro q g d;rw[M.at_push_other (m.setA i .dead) q o p g d];by_cases c:q=i
  . subst c;rw[if_pos rfl,M.at_setA_same]
  . rw[if_neg c,M.at_setA_other m i q _ z g c]
 refine h.upd (j:=m.next) (o:=o) (Mu.set_same μ _ x') (λq g=>Mu.set_other μ x' g) (Mu.set_ext x' (h.fresh _ (Nat.le_refl _))) (by simp) (by simp) (by simp) (by simp;omega)
  (λq g d=>?_) (M.at_push_same _ o) (λq y d k e=>?_) (.inl ⟨i,x,r,f,s.symm⟩) (λb B _=>heap b (by omega)) (by omega) (by have:=h.lt i x f;omega) v l (λC=>by grind) (λh=>absurd h (Nat.lt_irrefl _))
 . grind
 .
  rw[at_ q (h.idroom e) d]at k;split at k
  . cases k
  . rename_i c;rw[s];exact h.inj q i y x c k (qFJ r) e f
theorem Hp.drew (h:Hp P μ m w):Hp P μ m w.drew:=⟨λi x e=>(h.obj i x e).mono (.refl μ) λ_ _=>rfl,h.fresh,h.room,h.root,h.lt,h.inj⟩
end
end E
end Go.Proofs.YtnnhdcidgfjfpaaGreatDoor
namespace Go.Proofs.YtnnhdcidgfjfpaaGreatDoor
namespace E
section
variable {P:Program} {μ:Mu} {dp nt:Nat} {F:T Value} {a:Act} {w w':World} {m m':M}
def Ran (P:Program)(μ:Mu)(m:M)(w:World)(s:Sem Next)(v:Value)(m':M):Prop:=∃ n V b w',s.run P w=.ok n w'/\(n=.value V\/(n=.skip/\V=Go.undef))/\R b v V/\Hp P b m' w'/\Gn μ m w b m' w'
theorem heap_alloc (w:World)(o)(b):(w.alloc o).heap[b]? = if b=w.heap.size then some o else w.heap[b]?:=by
 unfold World.alloc
 grind
theorem size_alloc (w:World)(o):(w.alloc o).heap.size=w.heap.size+1:=by simp_all
theorem qvs {o f v}(e:newC o f m=.ret v m'):m.next<hdN/\v=f m.next/\m'=m.push o:=by
 unfold newC at e;rw[M.new_eq]at e
 grind
theorem Hp.newCells (h:Hp P μ m w)(f:m.next<hdN){t l vs}(o:l.length<=vs.size)(g:ones l)(i:∀ (j:Nat) (v:Value),l[j]? = some v->∃ u,vs[j]? = some u/\R μ v u){w0:World}(d:w0.heap=w.heap)(c:w0.os=w.os/\w0.output=w.output){fr ro}(k:Fr ro fr l.length vs.size):
  Hp P (μ.set m.next ⟨w.heap.size,0,vs.size⟩) (m.push (.cells ro t l)) (w0.alloc (.cells vs t fr))/\Gn μ m w (μ.set m.next ⟨w.heap.size,0,vs.size⟩) (m.push (.cells ro t l)) (w0.alloc (.cells vs t fr)):=by
 refine h.new f rfl (by simp_all) (λb p=>?_) ?_ c (λ_=>rfl)
 . rw[heap_alloc,d,if_neg (by omega)]
 . refine⟨⟨w.heap.size,0,vs.size⟩,vs,fr,Mu.set_same μ _ _,by rw[heap_alloc,d,if_pos rfl],by grind,rfl,by grind,g,λj v e=>?_⟩;obtain⟨u,q,n⟩:=i j v e;exact⟨u,by grind,n.mono (Mu.set_ext _ (h.fresh _ (Nat.le_refl _)))⟩
theorem RL.pre {l L}(h:RL μ l L.toList)(more:Array Value):∀ (j:Nat) (v:Value),l[j]? = some v->∃ u,(L++more)[j]? = some u/\R μ v u:=by
 intro j v e;obtain⟨V,b,c⟩:=h.get e
 grind
theorem RL.cell {l}{L:Array Value}(h:RL μ l L.toList):∀ (j:Nat) (v:Value),l[j]? = some v->∃ u,L[j]? = some u/\R μ v u:=by
 have:=h.pre #[]
 grind
theorem RL.size {l}{L:Array Value}(h:RL μ l L.toList):l.length=L.size:=by have:=h.1;omega
theorem qeI (h:Hp P μ m w){t v}(e:(loud P dp (.alloc t)).f F m=.ret v m')(dst ty pos after)(guard):
  Ran P μ m w (execOp a.eval ⟨dst,.alloc t,ty,pos,after,guard⟩) v m':=by
 unfold loud at e;simp only at e;split at e
 .
  rename_i z d;obtain⟨b,k,_,c,f,z4⟩:=qzB d;simp only[appF_eq,List.append_nil]at e;obtain⟨g,rfl,rfl⟩:=qvs e;obtain⟨i,j⟩:=h.newCells (t:=t) (l:=z) (vs:=c.cells) (fr:=(0,0)) (w0:=w) g (by grind) (qw3 b) (RL.cell (by rw[f];exact qwp b)) rfl ⟨rfl,rfl⟩ (.inl rfl);refine⟨.value (.pointer (some ⟨w.heap.size,0,none⟩)),_,_,_,?_,.inl rfl,?_,i,j⟩
  . simp[execOp,Instr.alloc,z4,newVar,newRow]
  . exact .ptr m.next 0 ⟨w.heap.size,0,c.cells.size⟩ (Mu.set_same μ _ _)
 . cases e
theorem qhH (h:Hp P μ m w)(d:RF μ dp nt F a.tmps)(f:Gl P μ){t x v}(e:(loud P dp (.box t x)).f F m=.ret v m')(dst ty pos after)(guard):
  Ran P μ m w (execOp a.eval ⟨dst,.box t x,ty,pos,after,guard⟩) v m':=by
 unfold loud at e;obtain⟨u,g,i⟩:=zt d f x;simp only[g,cellsF_eq]at e;split at e
 .
  rename_i b;obtain⟨c,j⟩:=i.cells b;obtain⟨k,rfl,rfl⟩:=qvs e;obtain⟨n,o⟩:=h.newCells (t:=t) (l:=u.cells.toList) (vs:=(a.eval x).cells) (fr:=(0,0)) (w0:=w) k (by rw[c.size];omega) j c.cell rfl ⟨rfl,rfl⟩ (.inl rfl);refine⟨.value (.pointer (some ⟨w.heap.size,0,none⟩)),_,_,_,?_,.inl rfl,?_,n,o⟩
  . simp[execOp,Instr.box,newVar,newRow]
  . exact .ptr m.next 0 ⟨w.heap.size,0,(a.eval x).cells.size⟩ (Mu.set_same μ _ _)
 grind
theorem qw8 (z n)(c):zeros z n c=c (List.replicate n z).flatten:=by
 unfold zeros
 induction n generalizing c with
 |zero=>rfl
 |succ n b=>rw[rN_succ,b];simp[List.replicate_succ]
theorem qf9 (b:Array Value)(n k)(c:b.size=n)(f:0<n):
  ((Array.range (k*n)).map (λi=>b[i % b.size]!)).toList=(List.replicate k b.toList).flatten:=by
 rw[Array.toList_map,Array.toList_range,c]
 induction k with
 |zero=>simp
 |succ k e=>
  rw[Nat.succ_mul,Nat.add_comm,List.range_add,List.map_append,List.replicate_succ,List.flatten_cons,<- e,List.map_map];congr 1
  . apply List.ext_getElem?;intro i;simp only[List.getElem?_map,Array.getElem?_toList];by_cases d:i<n
    . simp[d,Nat.mod_eq_of_lt d,c]
    grind
  . apply List.map_congr_left;simp_all
theorem qxx {z}(b:z.all sc=true)(n):RL μ (List.replicate n z).flatten (List.replicate n z).flatten/\ones (List.replicate n z).flatten:=by
 have:(List.replicate n z).flatten.all sc=true:=by grind
 exact⟨qwp this,qw3 this⟩
theorem qas (h:Hp P μ m w)(G:RF μ dp nt F a.tmps)(H:Gl P μ){t n g v}(e:(loud P dp (.buildSlice t n g)).f F m=.ret v m')(dst ty pos after)(guard):
  Ran P μ m w (execOp a.eval ⟨dst,.buildSlice t n g,ty,pos,after,guard⟩) v m':=by
 unfold loud at e;simp only at e;split at e
 .
  rename_i c f;have j:P.underlying t=some (.slice c)/\okT P c=true:=by
   unfold qza at f;split at f
   . rename_i W j;simp only[bi_eq]at f
     grind
   grind
  unfold bslQ at e;split at e
  . cases e
  rename_i z I;obtain⟨J,X,_,s,K,z4⟩:=qzB I;simp only[bi_eq,quZ]at e;split at e
  . cases e
  rename_i d;have d:n*szT P c<=1048576:=by simpa [room]using d
  simp only[qw8]at e;split at e
  .
   rename_i Y A;obtain⟨L,N⟩:=qxx (μ:=μ) J n;obtain⟨B,u,O,D,Q,R,Z⟩:=qwo G H g.toList _ _ A L N;cases R;simp only[qwX,natF_eq]at e;obtain⟨S,rfl,rfl⟩:=qvs e;have E:B.length=n*szT P c:=by simp_all
   have k:RL μ B (⟨u⟩:Array Value).toList:=D;obtain⟨U,V⟩:=h.newCells (t:=c) (l:=B) (vs:=⟨u⟩) (fr:=(0,0)) (w0:=w) S (by rw[k.size];omega) Q k.cell rfl ⟨rfl,rfl⟩ (.inl rfl);refine⟨.value (.slice (some ⟨w.heap.size,0,none⟩) n n),_,_,_,?_,.inl rfl,?_,U,V⟩
   .
    have o:¬ (n*szT P c>2 ^ 24):=by omega
    have p:Instr.fill (λi=>some (i*szT P c,szT P c)) ⟨(List.replicate n z).flatten⟩ (g.toList.map λx=>(x.1,a.eval x.2))=some ⟨u⟩:=O;have q:(g.map λx=>(x.1,a.eval x.2)).toList=g.toList.map λx=>(x.1,a.eval x.2):=Array.toList_map;by_cases y:n*szT P c=0
    . have b:(Array.range (n*szT P c)).map (λi=>(#[]:Array Value)[i % (#[]:Array Value).size]!)=⟨(List.replicate n z).flatten⟩:=by grind
      simp only[execOp,Instr.buildSlice,Sem.run_bind,run_underlying j.1,Result.andThen_ok,run_sizeOf (qu0 j.2),o,if_false,y,if_true,Sem.run_pure,pure_bind];rw[y]at b;rw[b,q,p];simp[newRow]
    . have b:(Array.range (n*szT P c)).map (λi=>s.cells[i % s.cells.size]!)=⟨(List.replicate n z).flatten⟩:=by
       apply Array.ext';have C:s.cells.size=szT P c:=by grind
       have r:0<szT P c:=Nat.pos_of_ne_zero λh=>y (by grind);rw[qf9 s.cells (szT P c) n C r,K]
      simp only[execOp,Instr.buildSlice,Sem.run_bind,run_underlying j.1,Result.andThen_ok,run_sizeOf (qu0 j.2),o,if_false,y,z4,Sem.run_pure];rw[b,q,p];simp[newRow]
   . refine .sl m.next 0 n (szT P c) ⟨w.heap.size,0,u.length⟩ n (Mu.set_same μ _ _) (Nat.le_refl _) ?_;have:=D.1
     grind
  grind
 . cases e
end
end E
end Go.Proofs.YtnnhdcidgfjfpaaGreatDoor
namespace Go.Proofs.YtnnhdcidgfjfpaaGreatDoor
namespace E
section
variable {P:Program} {μ:Mu} {dp nt:Nat} {F:T Value} {a:Act} {w w':World} {m m':M}
theorem qyH {t b}(h:qza P t=some b):P.underlying t=some (.slice b)/\okT P b=true:=by
 unfold qza at h;split at h
 . rename_i c d;simp only[bi_eq]at h
   grind
 grind
theorem heap_setCell {w:World}{b i vs T fr}(h:w.heap[b]? = some (.cells vs T fr))(u)(c):
  (w.setCell ⟨b,i,none⟩ u).heap[c]? = if c=b then some (.cells (vs.setIfInBounds i u) T fr)else w.heap[c]?:=by
 unfold World.setCell
 grind
theorem size_setCell (w:World)(x)(u):(w.setCell x u).heap.size=w.heap.size:=by simp_all
theorem size_setCells (b):∀ (c:List Value) (o:Nat) (w:World),(w.setCells b o c).heap.size=w.heap.size
 |[],_,_=>rfl
 |v::c,o,w=>by rw[World.setCells,size_setCells b c,size_setCell]
theorem qwk (b):∀ (c:List Value) (o:Nat) (w:World),(w.setCells b o c).os=w.os/\(w.setCells b o c).output=w.output
 |[],_,w=>⟨rfl,rfl⟩
 |v::c,o,w=>by rw[World.setCells];exact qwk b c (o+1) _
theorem XK {b T fr}:∀ (c:List Value) (o:Nat) (w:World) (vs:Array Value),w.heap[b]? = some (.cells vs T fr)->o+c.length<=vs.size ->
  ∃ d,(w.setCells b o c).heap[b]? = some (.cells d T fr)/\d.size=vs.size/\(∀ j,(j<o\/o+c.length<=j)->d[j]? = vs[j]?)/\(∀ j,j<c.length->d[o+j]? = c[j]?) /\
   ∀ e,e≠b->(w.setCells b o c).heap[e]? = w.heap[e]?
 |[],o,w,vs,h,_=>⟨vs,h,rfl,λ_ _=>rfl,λj f=>by grind,λ_ _=>rfl⟩
 |v::c,o,w,vs,h,l=>by
  simp only[List.length_cons]at l;have g:=heap_setCell h v (i:=o);obtain⟨d,n,q,r,s,p⟩:=XK c (o+1) (w.setCell ⟨b,o,none⟩ v) (vs.setIfInBounds o v) (by rw[g,if_pos rfl]) (by grind);refine⟨d,n,by grind,λj f=>?_,λj f=>?_,λe k=>?_⟩
  . grind
  . grind
  . rw[World.setCells,p e k,g,if_neg k]
theorem one_cell' {v}(h:one? v=true):v.oneCell'=true:=by cases v<;>first|rfl|cases h
theorem Hp.write (h:Hp P μ m w){i ro}(f:ro≠1){t c}(n:m.at i=.cells ro t c){x}(l:μ i=some x){k b d}(g:RL μ b d)(q:ones b)(r:k+b.length<=c.length):
  (storeCells ⟨x.b,x.o+k,none⟩ d 0).run P w=.ok () (w.setCells x.b (x.o+k) d) /\
  Hp P μ (m.setA i (.cells ro t (lay k b c))) (w.setCells x.b (x.o+k) d)/\Gn μ m w μ (m.setA i (.cells ro t (lay k b c))) (w.setCells x.b (x.o+k) d):=by
 have s:=h.obj i x l;rw[n]at s;obtain⟨x',vs,fr,u,o,y,G,B,C,H⟩:=s;rw[l]at u;cases u;have z:=g.1;obtain⟨p,D,b2,b3,b4,b5⟩:=XK d (x.o+k) w vs o (by omega);refine⟨?_,?_⟩
 .
  have:=run_storeCells_cells (P:=P) x.b (x.o+k) d 0 w (λj A=>by
   have:x.o+k+j<vs.size:=by omega
   simp[World.cell?,o,this]) (λj A=>by
   have:=y.free (k:=x.o+k+j) (.inl f) (by omega);simp only[World.frozen?,o,Nat.add_zero]
   grind) (λv E=>one_cell' (g.ones q v E))
  omega
 .
  refine h.put (x:=x) l (by rw[n];rfl) (size_setCells _ _ _ _) b5 ?_ (qwk _ _ _ _) (λg=>by rw[n];exact g);refine⟨x,p,fr,l,D,y.mv (.inr f),by omega,by rw[qBW r];exact B,q.lay C k,λj v e=>?_⟩;rw[qDS r]at e;split at e
  . rename_i A;obtain⟨V,I,J⟩:=g.get e
    grind
  grind
theorem Does.ran {s v n V b}(h:s.run P w=.ok n w')(c:n=.value V\/(n=.skip/\V=Go.undef))(d:R b v V)(e:Hp P b m' w')(f:Gn μ m w b m' w'):Ran P μ m w s v m':=⟨n,V,b,w',h,c,d,e,f⟩
theorem qeW (h:Hp P μ m w)(r:RF μ dp nt F a.tmps)(s:Gl P μ){t x y v}(e:(loud P dp (.store t x y)).f F m=.ret v m')(dst ty pos after)(guard):
  Ran P μ m w (execOp a.eval ⟨dst,.store t x y,ty,pos,after,guard⟩) v m':=by
 unfold loud at e;obtain⟨p,u,j⟩:=zt r s x;obtain⟨q,A,l⟩:=zt r s y;simp only[bi_eq,quZ]at e;by_cases b:okT P t=true
 case neg=>simp[b]at e;cases e
 simp only[b,Bool.not_true,Bool.false_eq_true,if_false,u,A]at e;unfold qwd at e;simp only[qu9,M.cells_eq,bi_eq,cellsF_eq,lenF_eq,layF_eq,M.put_eq]at e;split at e
 .
  rename_i B;obtain⟨_,z,C,D⟩:=j.ptrI;split at e
  .
   rename_i ro K c E;split at e
   . cases e
   .
    rename_i g;have g:ro≠1:=by simp_all
    split at e
    .
     rename_i o;obtain⟨c1,G⟩:=l.cells o;split at e
     . rename_i i;have i:q.cells.toList.length=szT P t:=Nat.eq_of_beq_eq_true i;split at e
       . rename_i H;cases e;obtain⟨I,r2,J⟩:=h.write (P:=P) g E C (k:=B.off) c1 G H;have d:(a.eval y).cells.size=szT P t:=by rw[<- c1.size];omega
         have f:=qu0 b;refine Does.ran (n:=.skip) (V:=Go.undef) ?_ (.inr ⟨rfl,rfl⟩) .undef r2 J;simp[execOp,Instr.storeAt,Instr.sureAddr,D,storeVar,run_sizeOf f,d,I]
       grind
     grind
    grind
  grind
 grind
theorem qcE (h:Hp P μ m w){t v}(e:(loud P dp (.makeMap t none)).f F m=.ret v m')(dst ty pos after)(guard):
  Ran P μ m w (execOp a.eval ⟨dst,.makeMap t none,ty,pos,after,guard⟩) v m':=by
 unfold loud at e;simp only at e;obtain⟨d,rfl,rfl⟩:=qvs e;have c:=Mu.set_same μ m.next ⟨w.heap.size,0,0⟩;obtain⟨f,g⟩:=h.new (w':=w.alloc (.map #[] 0)) d (o:=.map [] 0) (x:=⟨w.heap.size,0,0⟩) rfl (size_alloc _ _) (λb j=>by rw[heap_alloc,if_neg (by omega)])
  ⟨_,#[],c,by rw[heap_alloc,if_pos rfl],rfl,by simp⟩ ⟨rfl,rfl⟩ (λi=>by cases i)
 refine Does.ran (n:=.value (.map (some w.heap.size))) (V:=.map (some w.heap.size)) ?_ (.inl rfl) (.map _ _ c) f g;simp[execOp,Instr.makeMap]
theorem qzp {d k K V v}(hd:keyD d k)(E:K=k)(l:qvA k=true)(t:R μ v V){clock}:∀ (o f:List MapEntry) (i:Nat) {β:Type} {c:List MapEntry->Bool->β} {no:β} {r:β},no≠r->putE k v clock o c no=r->RE μ o f ->
  ∃ g b,c g b=r/\((b=true/\Instr.findNow d k f i=some none/\RE μ g (f++[⟨k,V,clock⟩])) \/
   ∃ n u,b=false/\Instr.findNow d k f i=some (some (i+n,u))/\(f[n]?).map (·.key)=some k/\RE μ g (f.modify n λe=>{ e with key:=k,val:=V }))
 |[],f,i,β,c,no,r,p,e,h=>by have:=h.nil_inv;subst this;exact⟨_,true,e,.inl ⟨rfl,rfl,.cons rfl l rfl t ⟨rfl,by simp⟩⟩⟩
 |x::o,f,i,β,c,no,r,p,e,h=>by
  obtain⟨x',q,rfl,s,A,y,B,C⟩:=h.cons_inv;unfold putE at e;rw[rL_cons]at e;split at e
  .
   rename_i j;have G:=qA6 j;refine⟨_,false,e,.inr ⟨0,x'.val,rfl,?_,?_,?_⟩⟩
   . simp only[Instr.findNow,s,qw2 hd j,Nat.add_zero]
   . grind
   . simp only[List.modify_zero_cons];exact .cons rfl l y t C
  .
   rename_i j;obtain⟨g,b,H,b2⟩:=qzp hd E l t o q (i+1) (c:=λo b=>c (x::o) b) (no:=no) p e C;refine⟨x::g,b,H,?_⟩;rcases b2 with⟨rfl,z,D⟩|⟨n,u,rfl,z,D,I⟩
   . refine .inl ⟨rfl,?_,.cons s A y B D⟩;simpa only[Instr.findNow,s,qw2 hd j]using z
   . refine .inr ⟨n+1,u,rfl,?_,by grind,?_⟩
     . rw[show i+(n+1)=i+1+n by omega];simpa only[Instr.findNow,s,qw2 hd j]using z
     . rw[List.modify_succ_cons];exact .cons s A y B I
  grind
theorem qCn {d k}(hd:keyD d k):Instr.sameBits 10000 k k=true:=by
 unfold keyD at hd;split at hd
 . simp[Instr.sameBits]
 . rename_i s;simp only[Instr.sameBits];show(s.data==s.data)=true;simp
 . simp[Instr.sameBits]
 grind
theorem qzh (h:Hp P μ m w)(hF:RF μ dp nt F a.tmps)(hG:Gl P μ){t q Q}(S:mapT P t=some (q,Q)){x k y X K Y v}(e:mapR P q x k y m=.ret v m')(U:R μ x X)(V:R μ k K)(W:R μ y Y):
  ∃ w',(Instr.mapUpdate t X K Y).run P w=.ok () w'/\v=undef/\Hp P μ m' w'/\Gn μ m w μ m' w':=by
 have H:=qyK S;unfold mapR at e;simp only[bi_eq]at e;by_cases r:(qdG P q).f k=true
 case neg=>grind
 rw[if_pos r]at e;obtain⟨d,hd,j,s⟩:=qAz r;have:=V.scI s;subst this;rw[qv2]at e;split at e
 . cases e
 .
  rename_i i;obtain⟨z,A,rfl⟩:=U.mapI;simp only[M.get_eq,qvu]at e;split at e
  .
   rename_i Z clock B;have I:=h.obj i z A;rw[B]at I;obtain⟨z',f,J,L,o3⟩:=I;rw[A]at J;cases J;obtain⟨l,b,N,b2⟩:=qzp j rfl (qC7 s) W (clock:=clock) Z f.toList 0 (by grind) e o3;simp only[natF_eq,M.put_eq]at N;cases N;have hb:z.b<w.heap.size:=h.lt i z A;have step:∀ (g:Array MapEntry) (c:Nat),(b=true->c=clock+1)->(b=false->c=clock)->RE μ l g.toList ->
     (Instr.mapUpdate t (.map (some z.b)) K Y).run P w=.ok () { w with heap:=w.heap.setIfInBounds z.b (.map g c) } ->
     ∃ w',(Instr.mapUpdate t (.map (some z.b)) K Y).run P w=.ok () w'/\undef=undef/\Hp P μ (m.setA i (.map l (if b=true then clock.succ else clock))) w'/\Gn μ m w μ (m.setA i (.map l (if b=true then clock.succ else clock))) w':=by
    intro g c c1 c2 D run;have hc:c=(if b=true then clock.succ else clock):=by cases b<;>simp[c1,c2]
    subst hc;obtain⟨p1,p2⟩:=h.put (w':={ w with heap:=w.heap.setIfInBounds z.b (.map g (if b=true then clock.succ else clock)) }) (x:=z) A (by rw[B];rfl) (o:=.map l (if b=true then clock.succ else clock)) (by simp)
     (λb' hb'=>by grind) ⟨z,g,A,by grind,D⟩ ⟨rfl,rfl⟩ (λhr=>by cases hr)
    grind
   rcases b2 with⟨rfl,O,f2⟩|⟨n,u,rfl,O,f2,f3⟩
   . refine step (f.push ⟨K,Y,clock⟩) (clock+1) (λ_=>rfl) (λh=>by cases h) (by grind) ?_;have E:(Instr.findKey q K f.toList).run P w=.ok none w:=by simp[Instr.findKey,run_underlying hd,O]
     simp[Instr.mapUpdate,run_underlying H,getObj,setObj,Sem.run,L,run_checkKey hd j,E]
   .
    refine step (f.modify n λe=>{ e with key:=K,val:=Y }) clock (λh=>by cases h) (λ_=>rfl) (by grind) ?_;have E:(Instr.findKey q K f.toList).run P w=.ok (some (n,u)) w:=by
     have G:Instr.findNow d K f.toList 0=some (some (n,u)):=by grind
     simp[Instr.findKey,run_underlying hd,G]
    have C:((f[n]?).map (·.key)).getD K=K:=by grind
    have p:(Instr.keyThatStays K K).run P w=.ok K w:=by simp[Instr.keyThatStays,qCn j]
    simp only[Instr.mapUpdate,Sem.run_bind,run_underlying H,Result.andThen_ok];simp[getObj,setObj,Sem.run,L,run_checkKey hd j,E,C,p]
  grind
 grind
end
end E
end Go.Proofs.YtnnhdcidgfjfpaaGreatDoor
