/-
  A plan's twin is the same data. No claim stands here.
-/
import Derived.Test.YtnnhdcidgfjfpaaGreatDoorV28q
set_option linter.all false
namespace Go.Proofs.YtnnhdcidgfjfpaaGreatDoor
namespace Ab
theorem apNb {b:Rs}{a c d e f g i:Cell}(h:b.length<=big):apOk 72 7 b [[a,c,d,e,f,g,i]]=true:=by unfold big at h;simp[apOk,lim];omega
theorem apKk {b:Rs}(h:AllK b)(a:b.length<=big):apOk 8 1 [] b=true:=by
 have c:b.head?.all (·.length==1)=true:=by
  cases b with
  |nil=>rfl
  |cons r l=>obtain⟨_,rfl⟩:=h _ (au ..);rfl
 unfold big at a;unfold apOk;rw[c];simp[lim];exact⟨by omega,by omega⟩
theorem qAp {α:Type}{l:List α}{i:Nat}{x:α}(h:l[i]? = some x):l.take (i+1)=l.take i++[x]:=by rw[List.take_add_one,h];rfl
theorem qFH (m:Nat):∀ (us:List Nx),ncnts us<m->(∀ t∈us,t.Ok)->us.length<=big->En (λ(r:Rs)=>r=nrows us) λk=>itS Zo k (.e (nrows us)):=by
 induction m with
 |zero=>intro _ h;omega
 |succ m o=>
  intro us h p c;have f:=c;unfold big at f;have loop:∀ (q:Nat) (d:Int),0<=d->us.length-d.toNat=q->d<=us.length->En (λ(r:Rs)=>r=nrows us) λk=>itS Zo k (.h0 (nrows us) (nrows (us.take d.toNat)) (us.length:Int) d):=by
   intro q
   induction q with
   |zero=>intro d g s u;refine .go ?_;simp only[nt,Zo];refine .br (λc=>by simp only[aW]at c;omega) λ_=>.ret ?_;rw[List.take_of_length_le (by omega)]
   |succ q v=>
    intro d g s u;refine .go ?_;simp only[nt,Zo];refine .br (λj=>?_) λj=>by simp only[decide_eq_false_iff_not]at j;omega
    refine .ixR g (by rw[qvj];omega) λrow b=>?_;rw[qvU]at b;obtain⟨t,l,rfl⟩:=aG.1 b;have n:=aM l;have w:=qwW n;obtain⟨i,a⟩:=p t n;rename_i x k1 y z A B xs;simp only[Nx.cnt]at w;simp only[qCD];refine .bind (o xs (by omega) i a) λr b=>?_;subst b;rw[qvT];refine .gd (apNb (by rw[qvj,List.length_take];unfold big;omega)) ?_;rw[w1 g (by omega)];have e:nrows (us.take d.toNat)++[[ic x,ic k1,.imm (nrows xs),ic y,.val (.int .u64 z),ic A,ic B]]=nrows (us.take (d+1).toNat):=by rw[show(d+1).toNat=d.toNat+1 by omega,qAp l,qxW];rfl
    rw[e];exact v _ (by omega) (by omega) (by omega)
  refine .go ?_;simp only[nt,Zo,qvj];exact loop _ 0 (Int.le_refl 0) rfl (by omega)
theorem tw43 {us:List Nx}(h:NOk us):En (λ(r:Rs)=>r=nrows us) λk=>g43 k (nrows us):=qFH (ncnts us+1) us (by omega) h.1 h.2
theorem qBR (a:List PTy):qG (a.map prow)=a.map prow:=by
 induction a with
 |nil=>rfl
 |cons p l b=>rw[List.map_cons,qG,b];rfl
theorem qBQ (a:List BTy):qG (a.map brow)=a.map brow:=by
 induction a with
 |nil=>rfl
 |cons p l b=>rw[List.map_cons,qG,b];rfl
theorem qFG {a:Int}{b:Rs}{cs:List BTy}(n:AllK b)(A:b.length<=big)(C:∀ c∈cs,BOk c)(o:cs.length<=big):En (λ(r:R19)=>r=(a,b,cs.map brow)) λk=>g19 k a b (cs.map brow):=by
 have i:=o;unfold big at i;have j:∀ (z:Int) (q:Nat) (c:Int),0<=c->cs.length-c.toNat=q->c<=cs.length->En (λ(r:R19)=>r=(a,b,cs.map brow)) λk=>itS qw5 k (.h0 (cs.map brow) (cs.length:Int) c a b ((cs.take c.toNat).map brow) z):=by
  intro z q
  induction q with
  |zero=>intro c s D E;refine .go ?_;simp only[nt,qw5];refine .br (λt=>by simp only[aW]at t;omega) λ_=>.ret ?_;rw[List.take_of_length_le (by omega),n.imm,qBQ]
  |succ q F=>
   intro c s D E;refine .go ?_;simp only[nt,qw5];refine .br (λf=>?_) λf=>by simp only[decide_eq_false_iff_not]at f;omega
   refine .ixR s (by rw[List.length_map];omega) λrow m=>?_;rw[aH]at m;obtain⟨x,f,rfl⟩:=aG.1 m;obtain⟨u,v⟩:=C x (aM f);have w:=v;unfold big at w;simp only[qCz,List.length_map];have g:∀ (q:Nat) (d:Int),0<=d->x.2.2.length-d.toNat=q->d<=x.2.2.length->En (λ(r:R19)=>r=(a,b,cs.map brow)) λk=>itS qw5 k (.h1 ((x.2.2.take d.toNat).map prow) (cs.map brow) (cs.length:Int) c (x.2.2.map prow) (x.2.2.length:Int) d x.1 x.2.1 (x.2.2.map prow) a b ((cs.take c.toNat).map brow) z):=by
    intro q
    induction q with
    |zero=>
     intro d y G H;refine .go ?_;simp only[nt,qw5];refine .br (λt=>by simp only[aW]at t;omega) λ_=>?_;refine .gd (apBr (by rw[List.length_map,List.length_take];unfold big;omega)) ?_;rw[w1 s (by omega),List.take_of_length_le (l:=x.2.2) (by omega),qBR];have e:(cs.take c.toNat).map brow++[[ic x.1,ic x.2.1,.imm (x.2.2.map prow)]]=(cs.take (c+1).toNat).map brow:=by rw[show(c+1).toNat=c.toNat+1 by omega,qAp f,List.map_append];rfl
     rw[e];exact F _ (by omega) (by omega) (by omega)
    |succ q I=>
     intro d y G H;refine .go ?_;simp only[nt,qw5];refine .br (λf=>?_) λf=>by simp only[decide_eq_false_iff_not]at f;omega
     refine .ixR y (by rw[List.length_map];omega) λrow m=>?_;rw[aH]at m;obtain⟨p,B,rfl⟩:=aG.1 m;obtain⟨J,K⟩:=u p (aM B);simp only[qCF];refine .bind (tw43 J) λN L=>.bind (tw43 K) λO M=>?_;subst L M;rw[qvT,qvT];refine .gd (apPa (by rw[List.length_map,List.length_take];unfold big;omega)) ?_;rw[w1 y (by omega)];have e:(x.2.2.take d.toNat).map prow++[[ic p.1,ic p.2.1,.imm (nrows p.2.2.1),.imm (nrows p.2.2.2)]]=(x.2.2.take (d+1).toNat).map prow:=by rw[show(d+1).toNat=d.toNat+1 by omega,qAp B,List.map_append];rfl
     rw[e];exact I _ (by omega) (by omega) (by omega)
   exact g _ 0 (Int.le_refl 0) rfl (by omega)
 refine .go ?_;simp only[nt,qw5,List.length_map];refine .br (λh=>?_) λ_=>?_
 . refine .gd (apKk n A) ?_;obtain rfl:b=[]:=by simpa using h
   exact j 0 _ 0 (Int.le_refl 0) rfl (by omega)
 . refine .gd (apKk n A) ?_;rw[List.nil_append];exact j 0 _ 0 (Int.le_refl 0) rfl (by omega)
end Ab
end Go.Proofs.YtnnhdcidgfjfpaaGreatDoor
