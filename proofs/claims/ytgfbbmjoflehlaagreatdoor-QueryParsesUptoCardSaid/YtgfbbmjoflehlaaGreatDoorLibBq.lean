/-
  The interpreter of the model's code over values, and its soundness: part 2 of 5. No claim stands here.
-/
import Derived.Test.YtgfbbmjoflehlaaGreatDoorLibAq
set_option linter.all false
namespace Go.Proofs.YtgfbbmjoflehlaaGreatDoor
namespace Ab
section
variable [Glob]
def Hangs (o:Oper):Prop:=∀ ρ ρ':Operand->Value,(∀ x∈o.op.operands.toList,ρ x=ρ' x)->execOp ρ o=execOp ρ' o
theorem zF {cx G w F}{a:Act}{o v}(h:RelF G w F a.tmps)(ho:Hangs o)(e:yg cx F o=some v):
  ∃ V,(execOp a.eval o).run cx.P w=.ok (.value V) w/\RelV G w v V:=by
 unfold yg at e;split at e
 .
  rename_i hall;have hρ:∀ x∈o.op.operands.toList,((F.ev x).con).getD Go.undef=a.eval x:=by
   intro x hx;have:=(List.all_eq_true.1 hall) x hx;cases hc:(F.ev x).con with
   |none=>grind
   |some V=>rw[yc (qx h x) hc];rfl
  rw[ho _ a.eval hρ]at e;cases hp:qo cx.P (execOp a.eval o)with
  |none=>grind
  |some n=>cases n<;>simp only[hp,aa,reduceCtorEq]at e;subst e;exact⟨_,qcD hp w,xI G w _⟩
 grind
theorem qbq {d op t x y u ty pos after g}:
  Hangs ⟨d,.binOp op t x y u,ty,pos,after,g⟩:=by
 intro ρ ρ' h;simp only[Op.operands]at h;simp only[execOp,h x (by simp),h y (by simp)]
theorem qb8 {d op t x ty pos after g}:
  Hangs ⟨d,.unOp op t x,ty,pos,after,g⟩:=by
 intro ρ ρ' h;simp only[Op.operands]at h;simp only[execOp,h x (by simp)]
theorem XO {d s t x ty pos after g}:
  Hangs ⟨d,.convert s t x,ty,pos,after,g⟩:=by
 intro ρ ρ' h;simp only[Op.operands]at h;simp only[execOp,h x (by simp)]
theorem xH {d t x ty pos after g}:
  Hangs ⟨d,.makeInterface t x,ty,pos,after,g⟩:=by
 intro ρ ρ' h;simp only[Op.operands]at h;simp only[execOp,h x (by simp)]
theorem qaW {d t x i ty pos after g}:
  Hangs ⟨d,.index t x i,ty,pos,after,g⟩:=by
 intro ρ ρ' h;simp only[Op.operands]at h;simp only[execOp,h x (by simp),h i (by simp)]
theorem qoY {d b args ts ty pos after g}:
  Hangs ⟨d,.call ⟨.builtin b,args,ts⟩,ty,pos,after,g⟩:=by
 intro ρ ρ' h;simp only[Op.operands,Call.operands]at h;have:args.map ρ=args.map ρ':=by grind
 simp only[execOp,resolve,this]
theorem qeU {d t x lo hi ty pos after g}:
  Hangs ⟨d,.slice t x lo hi none,ty,pos,after,g⟩:=by
 intro ρ ρ' h;simp only[Op.operands]at h;have h1:lo.map ρ=lo.map ρ':=by cases lo<;>simp;grind
 have h2:hi.map ρ=hi.map ρ':=by cases hi<;>simp;grind
 simp only[execOp,h x (by simp),h1,h2,Option.map_none]
theorem xD {G w v V}(h:RelV G w v V){n}(e:asInt v=some n):∃ k,V=.int k n:=by
 unfold asInt at e;cases hc:v.con with
 |none=>grind
 |some V'=>cases V'<;>simp only[hc,aa,reduceCtorEq]at e;rename_i k m;subst e;exact⟨k,yc h hc⟩
theorem XV {G w c c' V n}(h:∀ p,Sh G w p c V)(e:ZE n c=some c'):
  ∃ a,V=.pointer (some a)/\Seen c'/\∀ p,Sh G w p c' (.pointer (some (a.add n))):=by
 cases c<;>simp only[ZE,aa,reduceCtorEq]at e
 . rename_i q;subst e;obtain⟨a,y,b,c,rfl⟩:=h ⟨⟨.res,[]⟩,0,0⟩;refine⟨_,rfl,⟨by grind,by grind⟩,fun p=>⟨a,y,b,c,?_⟩⟩;rw[zb,Nat.add_assoc]
 . rename_i row o;subst e;obtain⟨b,base,vs,T,fr,e1,rfl,e3,e4⟩:=h ⟨⟨.res,[]⟩,0,0⟩;refine⟨_,rfl,⟨by grind,by grind⟩,fun p=>⟨b,base,vs,T,fr,e1,?_,e3,e4⟩⟩;rw[zb,Nat.add_assoc]
theorem qbJ {G w g l us v}(e:mkAV g l=some v)(hl:us.length=l.length)(h:∀ (j:Nat) c,l[j]? = some c->∃ u,us[j]? = some u/\(c=.dead\/(Seen c/\∀ p,Sh G w p c u))):
  (g=true/\RelV G w v (.agg us.toArray))\/(g=false/\∃ u,us=[u]/\RelV G w v u):=by
 unfold mkAV at e;cases g with
 |true=>simp only[if_true,aa]at e;subst e;exact .inl ⟨rfl,RelV.ag (by omega) fun o c ho=>by grind⟩
 |false=>
  right;simp only[aT,if_false]at e;split at e
  . rename_i x;simp only[aa]at e;subst e
    match us,hl with
    |[u],_=>obtain⟨u',hu,hx⟩:=h 0 x rfl;cases hu;exact⟨rfl,u,rfl,RelV.c hx⟩
  grind
theorem qgs {G w F ts}(h:RelF G w F ts){c V}(hc:∀ p,Sh G w p c V){rows}(e:F.look c=some rows):
  ∃ a cap,V=.slice a rows.length cap:=by
 cases c<;>simp only[Fr.look,aa,reduceCtorEq]at e
 . subst e;exact⟨none,0,hc ⟨⟨.res,[]⟩,0,0⟩⟩
 .
  subst e;have:=hc ⟨⟨.res,[]⟩,0,0⟩;cases this with
  |immE a cap=>grind
  |imm rows b off cap sz vs T fr us _ _ _ _ _ _=>grind
 .
  rename_i p;cases hg:F.get p with
  |none=>grind
  |some c0=>
   cases c0<;>simp only[hg,aa,reduceCtorEq]at e;subst e;rcases(yD h hc hg (fun hn=>hn.1 _ _ rfl)).1 with⟨_,e2,rfl⟩|⟨x,e1,e2,rfl,e4⟩
   . grind
   exact⟨some ⟨x.b,0,none⟩,x.cap,by simp[Hd.val,e2,e4]⟩
theorem qgk {P G w t n g}(hn:qQ P t=some n)(hg:zW P t=some g){l:List Cell}{vs}(hl:vs.size=l.length)(h:∀ (o:Nat) c,l[o]? = some c->∃ u,vs[o]? = some u/\(c=.dead\/(Seen c/\∀ p,Sh G w p c u))){off}(hle:off+n<=l.length){v}(e:mkAV g ((l.drop off).take n)=some v):
  ∃ V,(part t vs off).run P w=.ok V w/\RelV G w v V:=by
 have hlen:((vs.toList.drop off).take n).length=((l.drop off).take n).length:=by grind
 have hcells:∀ (j:Nat) c,((l.drop off).take n)[j]? = some c->∃ u,((vs.toList.drop off).take n)[j]? = some u/\(c=.dead\/(Seen c/\∀ p,Sh G w p c u)):=by grind
 have hrun:=vK hg w;rcases qbJ e hlen hcells with⟨rfl,hr⟩|⟨rfl,u,hu,hr⟩
 .
  refine⟨.agg (vs.extract off (off+n)),?_,?_⟩
  . simp only[part,aK,hrun,ay,if_true,qK hn,aU]
  . have:(vs.extract off (off+n))=((vs.toList.drop off).take n).toArray:=by grind
    grind
 .
  refine⟨u,?_,hr⟩;have h0:vs[off]? = some u:=by
   have:((vs.toList.drop off).take n)[0]? = some u:=by grind
   grind
  simp only[part,aK,hrun,ay,aT,if_false,h0,aU]
end
section
variable [Glob]
theorem Zf {P f}(h:yM P f=true):zW P f.type=some false:=by
 unfold yM at h;unfold zW
 grind
theorem ZL {P t xs off x}(hg:zW P t=some false)(hx:xs[off]? = some x)(w):(part t xs off).run P w=.ok x w:=by simp only[part,aK,vK hg,ay,aT,if_false,hx,aU]
theorem zA {P t}(h:qL P t=true):P.underlying t=some (.struct (P.fieldsOf t))/\P.stoodInHeld t=false/\P.eqGuardType P.depth t=false /\
  ∀ f∈(P.fieldsOf t).toList,yM P f=true:=by
 unfold qL at h;unfold Program.fieldsOf
 grind
theorem qeg {P xs ys}(d)(w):∀ (fs:List Field) (r:Bool),(∀ f∈fs,yM P f=true)->qaK P xs ys fs=some r ->
  (Op.eqFields (d+1) xs ys fs).run P w=.ok r w:=by
 intro fs
 induction fs with
 |nil=>intro r _ e;simp only[qaK,aa]at e;subst e;rfl
 |cons f fs ih=>
  intro r hf e;have h1:=hf f (by simp);have hne:f.name ≠ "_":=by
   unfold yM at h1
   grind
  simp only[qaK]at e;cases hx:xs[f.offset]? with
  |none=>grind
  |some x=>
   cases hy:ys[f.offset]? with
   |none=>grind
   |some y=>
    cases hr:qaK P xs ys fs with
    |none=>grind
    |some r'=>
     simp only[hx,hy,hr]at e;have ihr:=ih r' (fun g hg=>hf g (aB _ hg)) hr;have key:∃ b,(Op.equalIn (d+1) f.type x y).run P w=.ok b w/\r=(b&&r'):=by
      cases hu:P.underlying f.type with
      |none=>grind
      |some dd=>
       cases hs:sEq x y with
       |none=>cases dd<;>simp[hu,hs]at e
       |some b=>
        cases dd<;>simp only[hu,hs,reduceCtorEq]at e
        . -- bool
          cases x<;>simp only[reduceCtorEq,aa]at e;cases y<;>simp[sEq]at hs;exact⟨b,by rw[run_equalIn_bool' w d f.type _ _ hu,<- hs],e.symm⟩
        . -- int
          cases x<;>simp only[reduceCtorEq]at e;split at e
          . rename_i hk;simp only[aa]at e;cases y<;>simp[sEq]at hs;obtain⟨rfl,hs⟩:=hs;exact⟨b,by rw[run_equalIn_int w d f.type _ _ _ _ hu,<- hs],e.symm⟩
          grind
        . -- string
          cases x<;>simp only[reduceCtorEq,aa]at e;cases y<;>simp[sEq]at hs;exact⟨b,by rw[run_equalIn_string w d f.type _ _ hu,<- hs],e.symm⟩
     obtain⟨b,hb,rfl⟩:=key;simp only[Op.eqFields,hne,ne_eq,not_false_eq_true,if_true,aK,ZL (Zf h1) hx,ZL (Zf h1) hy,ay,hb,Sem.run_ite,aU]
     grind
theorem yF {P t xs ys r}(hf:qL P t=true)(e:qaK P xs ys (P.fieldsOf t).toList=some r)(d)(w):
  (Op.equalIn (d+2) t (.agg xs) (.agg ys)).run P w=.ok r w:=by
 obtain⟨h1,h2,h3,h4⟩:=zA hf;rw[run_equalIn_struct w (d+1) t xs ys h1 h2];exact qeg d w _ r h4 e
end
section
variable [Glob]
theorem qcx {α β f}:∀ {l:List α} {r:List β},mapO f l=some r->r.length=l.length/\∀ (i:Nat) x,l[i]? = some x->∃ y,r[i]? = some y/\f x=some y
 |[],r,h=>by simp only[mapO,aa]at h;subst h;exact⟨rfl,by simp⟩
 |a::l,r,h=>by
  simp only[mapO]at h;split at h
  . rename_i y ys h1 h2;simp only[aa]at h;subst h;obtain⟨k1,k2⟩:=qcx h2;refine⟨by simp[k1],fun i x hx=>?_⟩;cases i with
    |zero=>simp only[aI,aa]at hx;subst hx;exact⟨y,rfl,h1⟩
    |succ i=>exact k2 i x (by simpa using hx)
  . cases h
theorem qbZ {row n}(h:qi3 row=some n):row=[.val (.int .u8 n)]:=by
 unfold qi3 at h
 grind
theorem bytes_at {G w F ts}(h:RelF G w F ts){c V}(hc:∀ p,Sh G w p c V){rows}(e:F.look c=some rows){xs}(hx:mapO qi3 rows=some xs):
  ∃ a cap,V=.slice a rows.length cap/\(rows=[]\/∃ b off,a=some ⟨b,off,none⟩/\∀ (i:Nat) n,xs[i]? = some n->w.cell? ⟨b,off+i,none⟩=some (.int .u8 n)):=by
 obtain⟨hl,hg⟩:=qcx hx;have row1:∀ row∈rows,∃ n,row=[.val (.int .u8 n)]:=fun row hr=>by obtain⟨i,hi⟩:=List.getElem?_of_mem hr;obtain⟨n,_,hn⟩:=hg i row hi;exact⟨n,qbZ hn⟩
 have at_:∀ (i:Nat) n,xs[i]? = some n->rows[i]? = some [.val (.int .u8 n)]:=fun i n hn=>by
  have hi:i<rows.length:=by grind
  have hr:rows[i]? = some (rows[i]):=ax hi;obtain⟨y,hy,hb⟩:=hg i _ hr;rw[hn]at hy;cases hy;rw[hr,qbZ hb]
 cases c<;>simp only[Fr.look,aa,reduceCtorEq]at e
 . subst e;exact⟨none,0,hc ⟨⟨.res,[]⟩,0,0⟩,.inl rfl⟩
 .
  rename_i r0;subst e;have:=hc ⟨⟨.res,[]⟩,0,0⟩;cases this with
  |immE a cap=>grind
  |imm _ b off cap sz vs T fr us hb hi hcap hsz hv hr=>
   refine⟨_,cap,rfl,?_⟩;by_cases h0:r0=[]
   . grind
   .
    refine .inr ⟨b,off,rfl,fun i n hn=>?_⟩;have hrow:=at_ i n hn;have h1:sz=1:=by rw[<- hsz _ (aM hrow)];rfl
    have hcell:cellAt r0 i 0=some (.val (.int .u8 n)):=by simp[cellAt,hrow]
    have h2:=hv i 0 _ hcell;have h3:=hr i 0 _ hcell;rw[h1,Nat.mul_one,Nat.add_zero]at h2;have h4:us i 0=.int .u8 n:=by generalize us i 0=z at h3;cases h3;rfl
    rw[h4]at h2;unfold World.cell?
    grind
 .
  rename_i p;cases hgt:F.get p with
  |none=>grind
  |some c0=>
   cases c0<;>simp only[hgt,aa,reduceCtorEq]at e;subst e;rename_i zz rs;rcases(yD h hc hgt (fun hn=>hn.1 _ _ rfl)).1 with⟨_,e2,rfl⟩|⟨x,e1,e2,rfl,e4,e5⟩
   . grind
   .
    refine⟨some ⟨x.b,0,none⟩,x.cap,by simp[Hd.val,e2,e4],?_⟩;by_cases h0:rs=[]
    . grind
    . refine .inr ⟨x.b,0,rfl,fun i n hn=>?_⟩;have hra:F.rowsAt p.toKey=some rs:=by have:=qoN hgt [];rw[Pl.under_nil]at this;rw[this];rfl
      obtain⟨y,vs,T,q1,q2,q3,q4,q5,q6,q7,q8,q9⟩:=(h.cont _ _ hra (.inl (by simp[Pl.toKey]))).of_hd e1;rw[e1]at q1;cases q1;have hrow:=at_ i n hn;have h1:x.sz=1:=by rw[<- q5 _ (aM hrow)];rfl
      have hcell:cellAt rs i 0=some (.val (.int .u8 n)):=by simp[cellAt,hrow]
      obtain⟨u,hu,hs⟩:=q9 i 0 _ hcell;rw[h1,Nat.mul_one,Nat.add_zero]at hu;have h4:u=.int .u8 n:=hs.1;rw[h4]at hu;unfold World.cell?
      grind
theorem qcF {cx G w F}{a:Act}{d s t x ty pos after g v}(h:RelF G w F a.tmps)(e:XU cx F ⟨d,.convert s t x,ty,pos,after,g⟩ s t x=some v):∃ V,(execOp a.eval ⟨d,.convert s t x,ty,pos,after,g⟩).run cx.P w=.ok (.value V) w/\RelV G w v V:=by
 unfold XU at e;split at e
 .
  rename_i el c hs ht hcell;split at e
  .
   rename_i rows he hl;simp only[aG]at e;obtain⟨xs,hx,rfl⟩:=e;have hd:c≠.dead:=by rintro rfl;simp[Fr.look]at hl
   have hsh:=((Zh (qx h x) hcell).resolve_left hd).2;obtain⟨ad,cap,hV,hor⟩:=bytes_at h hsh hl hx;obtain⟨hlen,_⟩:=qcx hx;refine⟨.string (qhy xs),?_,RelV.c (.inr ⟨⟨by grind,by grind⟩,fun p=>⟨rfl,rfl⟩⟩)⟩;have key:(convert s t (a.eval x)).run cx.P w=.ok (.string (qhy xs)) w:=by
    rw[hV];rcases hor with h0|⟨b,off,rfl,hc⟩
    . have hx0:xs=[]:=List.eq_nil_of_length_eq_zero (by grind);subst hx0;cases ad with
      |none=>rw[run_convert_bytes_nil w s el hs he _ _ t ht];rfl
      |some ad=>rw[run_convert_bytes_string w s t el _ _ _ hs he ht,h0];rw[show([]:List (List Cell)).length=0 from rfl,run_bytesToString w ad 0 cap [] (by rfl)];rfl
    . exact run_convert_bytes_arg w s el hs he b off _ cap xs hlen (fun i hi=>by grind) t ht
   simp only[execOp,aK,key,ay,aU]
  grind
 . exact zF h XO e
end
section
variable [Glob]
theorem qp {G w F}{a:Act}(h:RelF G w F a.tmps){x c}(e:(F.ev x).cell=some c)(hd:c≠.dead):Seen c/\∀ p,Sh G w p c (a.eval x):=(Zh (qx h x) e).resolve_left hd
theorem qlv {G w F ts}(h:RelF G w F ts){p zz rows V}(hs:∀ q,Sh G w q (.ref p) V)(hg:F.get p=some (.own zz rows)){n}(hn:n<rows.length):
  ∃ x cap,V=.slice (some x) rows.length cap/\∃ y,G.γ p.toKey=some y/\y.sz=zz/\x=⟨y.b,0,none⟩/\∀ q,Sh G w q (.ptr ⟨p.toKey,n,0⟩) (.pointer (some ⟨y.b,n*y.sz,none⟩)):=by
 rcases(yD h hs hg (fun hn=>hn.1 _ _ rfl)).1 with⟨_,e2,_⟩|⟨x,e1,e2,rfl,e4,e5⟩
 . grind
 have ok:=(hs ⟨⟨.res,[]⟩,0,0⟩).1;exact⟨⟨x.b,0,none⟩,x.cap,by simp[Hd.val,e2,e4],x,e1,e5,rfl,fun q=>⟨ok,x,e1,e2,by simp⟩⟩
theorem RelV.agg_inv {G w l V}(h:RelV G w ⟨.agg,[l]⟩ V):
  ∃ vs,V=.agg vs/\vs.size=l.length/\∀ (o:Nat) c,l[o]? = some c->∃ u,vs[o]? = some u/\(c=.dead\/(Seen c/\∀ p,Sh G w p c u)):=by
 obtain⟨⟨vs,rfl,hsz⟩,hc⟩:=h;refine⟨vs,rfl,hsz,fun o c ho=>?_⟩;obtain⟨u,hu,hx⟩:=hc 0 o c (by simp[cellAt,ho]);exact⟨u,by simpa [qX]using hu,hx⟩
theorem RelV.tup_inv {G w fl rows V}(h:RelV G w ⟨.tup fl,rows⟩ V){i:Nat}{g l}(hg:fl[i]? = some g)(hl:rows[i]? = some l):
  ∃ Vs U,V=.tuple Vs/\Vs[i]? = some U/\∀ v,mkAV g l=some v->RelV G w v U:=by
 obtain⟨⟨Vs,rfl,e1,e2,e3⟩,hc⟩:=h;obtain⟨U,hU,hsh⟩:=e3 i g l.length hg (by grind);refine⟨Vs,U,rfl,hU,fun v hv=>?_⟩;have cells:∀ (o:Nat) c,l[o]? = some c->∃ u,qX (.tup fl) (.tuple Vs) i o=some u/\(c=.dead\/(Seen c/\∀ p,Sh G w p c u)):=fun o c ho=>hc i o c (by simp[cellAt,hl,ho]);cases g with
 |true=>obtain⟨vs,rfl,hsz⟩:=hsh;simp only[mkAV,if_true,aa]at hv;subst hv;refine RelV.ag (by omega) fun o c ho=>?_;obtain⟨u,hu,hx⟩:=cells o c ho;exact⟨u,by simpa [qX,hg,hU]using hu,hx⟩
 |false=>
  simp only[mkAV,aT,if_false]at hv;split at hv
  . rename_i x;simp only[aa]at hv;subst hv;obtain⟨u,hu,hx⟩:=cells 0 x rfl;simp only[qX,hg,hU,if_true,aa]at hu;subst hu;exact RelV.c hx
  grind
theorem RelI.seen {im w G}(hG:G.im=im){c v}(h:RelI im w c v):c=.dead\/(Seen c/\∀ p,Sh G w p c v):=by
 subst hG;cases h with
 |val v h=>exact .inr ⟨⟨by grind,by grind⟩,fun q=>⟨rfl,h⟩⟩
 |nil=>exact .inr ⟨⟨by grind,by grind⟩,fun q=>rfl⟩
 |immE a cap=>exact .inr ⟨⟨by grind,by grind⟩,fun q=>.immE a cap⟩
 |imm rows b' off cap sz vs' T' fr' us hb' hi' hcap hsz hv hr=>exact .inr ⟨⟨by grind,by grind⟩,fun q=>.imm rows b' off cap sz vs' T' fr' us hb' hi' hcap hsz hv hr⟩
 |dead v h=>grind
theorem ZB.len {im w}:∀ {es:List (Value×List Cell)} {ents:List MapEntry},ZB im w es ents->es.length=ents.length
 |[],[],_=>rfl
 |_::_,_::_,⟨_,_,h⟩=>by simp[h.len]
 |[],_::_,h=>h.elim
 |_::_,[],h=>h.elim
def qbb (G:Gh)(w:World)(g:Bool)(l:List Cell)(V:Value):Prop:=
 if g=true then ∃ vs,V=.agg vs/\vs.size=l.length/\∀ (o:Nat) c,l[o]? = some c->∃ u,vs[o]? = some u/\(c=.dead\/(Seen c/\∀ p,Sh G w p c u))
 else ∃ c,l=[c]/\(c=.dead\/(Seen c/\∀ p,Sh G w p c V))
theorem qbb.mk {G w g l V}(h:qbb G w g l V){v}(e:mkAV g l=some v):RelV G w v V:=by
 cases g with
 |true=>obtain⟨vs,rfl,hsz,hc⟩:=h;simp only[mkAV,if_true,aa]at e;subst e;exact RelV.ag hsz hc
 |false=>obtain⟨c,rfl,hc⟩:=h;simp only[mkAV,aT,if_false,aa]at e;subst e;exact RelV.c hc
theorem qbb.tup {G w g l V}(h:qbb G w g l V)(b):RelV G w ⟨.tup [g,false],[l,[.val (.bool b)]]⟩ (.tuple #[V,.bool b]):=by
 have hb:∀ p,Sh G w p (.val (.bool b)) (.bool b):=fun p=>⟨rfl,rfl⟩
 refine⟨⟨_,rfl,rfl,rfl,fun i g' n hg hn=>?_⟩,fun r o c hc=>?_⟩
 .
  match i with
  |0=>
   simp only[aI,aa,List.map_cons]at hg hn;subst hg;subst hn;refine⟨V,rfl,?_⟩;cases g with
   |true=>obtain⟨vs,rfl,hsz,_⟩:=h;grind
   |false=>obtain⟨c,rfl,_⟩:=h;rfl
  |1=>simp at hg hn;subst hg;subst hn;simp_all
  |i+2=>grind
 .
  obtain⟨row,h1,h2⟩:=qc.1 hc
  match r with
  |0=>
   simp at h1;subst h1;cases g with
   |true=>obtain⟨vs,rfl,hsz,hcell⟩:=h;obtain⟨u,hu,hx⟩:=hcell o c h2;exact⟨u,by simp[qX,hu],hx⟩
   |false=>
    obtain⟨c0,rfl,hx⟩:=h;cases o with
    |zero=>simp at h2;subst h2;exact⟨V,by simp[qX],hx⟩
    |succ o=>grind
  |1=>
   simp at h1;subst h1;cases o with
   |zero=>simp at h2;subst h2;exact⟨.bool b,by simp[qX],.inr ⟨⟨by grind,by grind⟩,hb⟩⟩
   |succ o=>grind
  |r+2=>grind
theorem RelV.res {G w v V}(h:RelV G w v V){g}(ht:Qs v.tag g=true){l}(e:v.cells=some l):qbb G w g l V:=by
 obtain⟨hs,hc⟩:=h;unfold AV.cells at e;split at e
 . rename_i x htag hr;rw[htag]at ht;simp only[Qs,Bool.not_eq_true']at ht;subst ht;cases e;obtain⟨u,hu,hx⟩:=hc 0 0 x (by rw[hr];rfl);rw[htag]at hu;simp only[qX,aa]at hu;subst hu;exact⟨x,rfl,hx⟩
 . rename_i l' htag hr;rw[htag]at ht;simp only[Qs]at ht;subst ht;cases e;rw[htag,hr]at hs;obtain⟨vs,rfl,hsz⟩:=hs;refine⟨vs,rfl,hsz,fun o c ho=>?_⟩;obtain⟨u,hu,hx⟩:=hc 0 o c (by rw[hr];simp[cellAt,ho]);rw[htag]at hu;exact⟨u,by simpa [qX]using hu,hx⟩
 grind
theorem ZQ.res {G w l v}(h:ZQ G.im w l v){g}(hg:g=(l.length != 1)):qbb G w g l v:=by
 obtain⟨h1,h2,h3⟩:=h;by_cases hl:l.length=1
 .
  rw[aD hl]at h1;have:g=false:=by grind
  subst this
  match l,hl with
  |[c],_=>obtain⟨u,hu,hr⟩:=h3 0 c rfl;rw[qo1 h1]at hu;cases hu;exact⟨c,rfl,hr.seen rfl⟩
 . rw[aF hl]at h1;have:g=true:=by grind
   subst this;obtain⟨cs,rfl⟩:=h1;exact⟨cs,rfl,by simpa [Value.cells]using h2,fun o c ho=>let ⟨u,hu,hr⟩:=h3 o c ho;⟨u,by simpa [Value.cells]using hu,hr.seen rfl⟩⟩
theorem qht {G w v v' V}(h:RelV G w v V)(e:qkM v=some v'):RelV G w v' (.tuple #[V,.bool true]):=by
 obtain⟨tag,rows⟩:=v;unfold qkM at e;have bl:∀ p,Sh G w p (.val (.bool true)) (.bool true):=fun p=>⟨rfl,rfl⟩
 split at e
 .
  rename_i h1 h2;change tag=_ at h1;change rows=_ at h2;subst h1;subst h2;simp only[aa]at e;subst e;rename_i c;refine⟨⟨#[V,.bool true],rfl,rfl,rfl,fun i g n e1 e2=>?_⟩,fun r o c' hc=>?_⟩
  .
   match i,e1,e2 with
   |0,e1,e2=>simp at e1 e2;subst e1;subst e2;simp_all
   |1,e1,e2=>simp at e1 e2;subst e1;subst e2;simp_all
   |i+2,e1,e2=>grind
  .
   match r,o,hc with
   |0,0,hc=>simp[cellAt]at hc;subst hc;obtain⟨u,hu,hs⟩:=h.2 0 0 c rfl;simp only[qX,aa]at hu;subst hu;exact⟨V,rfl,hs⟩
   |1,0,hc=>simp[cellAt]at hc;subst hc;exact⟨_,rfl,.inr ⟨⟨by grind,by grind⟩,bl⟩⟩
   |0,o+1,hc=>simp[cellAt]at hc
   |1,o+1,hc=>simp[cellAt]at hc
   |r+2,o,hc=>simp[cellAt]at hc
 .
  rename_i h1 h2;change tag=_ at h1;change rows=_ at h2;subst h1;subst h2;simp only[aa]at e;subst e;rename_i l;obtain⟨vs,rfl,hn⟩:=h.1;refine⟨⟨#[.agg vs,.bool true],rfl,rfl,rfl,fun i g n e1 e2=>?_⟩,fun r o c' hc=>?_⟩
  .
   match i,e1,e2 with
   |0,e1,e2=>simp_all
   |1,e1,e2=>simp at e1 e2;subst e1;subst e2;simp_all
   |i+2,e1,e2=>grind
  .
   match r,o,hc with
   |0,o,hc=>obtain⟨u,hu,hs⟩:=h.2 0 o c' hc;exact⟨u,hu,hs⟩
   |1,0,hc=>simp[cellAt]at hc;subst hc;exact⟨_,rfl,.inr ⟨⟨by grind,by grind⟩,bl⟩⟩
   |1,o+1,hc=>simp[cellAt]at hc
   |r+2,o,hc=>simp[cellAt]at hc
 grind
theorem qdR {cx G w F}{a:Act}{x xt t ok v dst ty pos after guard}(h:RelF G w F a.tmps)(e:qbz cx F x t ok=some v):
  ∃ V,(execOp a.eval ⟨dst,.typeAssert x xt t ok,ty,pos,after,guard⟩).run cx.P w=.ok (.value V) w/\RelV G w v V:=by
 unfold qbz at e;split at e
 .
  rename_i t' V0 u hx hu;have hx':=yc (qx h x) hx;have run:∀ ok,(∀ m,u≠.interface m)->t'=t->(Instr.typeAssert (.iface t' V0) xt t ok).run cx.P w=.ok (if ok then .tuple #[V0,.bool true]else V0) w:=by intro ok hi ht;subst ht;unfold Instr.typeAssert;simp only[aK,run_underlying hu,ay];cases u<;>first|simp_all|simp_all
  split at e
  . cases e
  .
   rename_i hi;split at e
   . rename_i ht;have hr:=run ok (fun m hm=>hi m hm) ht;cases ok with
     |true=>simp only[if_true]at e hr;refine⟨.tuple #[V0,.bool true],?_,qht (xI G w V0) e⟩;simp only[execOp,hx',aK,hr,ay];rfl
     |false=>simp only[aT,if_false,aa]at e hr;subst e;refine⟨V0,?_,xI G w V0⟩;simp only[execOp,hx',aK,hr,ay];rfl
   grind
 grind
theorem qaS {cx G w F}{a:Act}{o v}(h:RelF G w F a.tmps)(e:quiet cx F o=some v):
  ∃ V,(execOp a.eval o).run cx.P w=.ok (.value V) w/\RelV G w v V:=by
 obtain⟨dst,op,ty,pos,after,guard⟩:=o;unfold quiet at e;split at e
 . -- move
   rename_i x he;simp only at he;subst he;simp only[aa]at e;subst e;exact⟨a.eval x,rfl,qx h x⟩
 .
  -- pick
  rename_i c x y he;simp only at he;subst he;split at e
  .
   rename_i t hc;simp only[aa]at e;subst e;have hb:=yc (qx h c) hc;refine⟨if t then a.eval x else a.eval y,?_,?_⟩
   . simp only[execOp,hb];cases t<;>rfl
   . cases t
     . exact qx h y
     . exact qx h x
  . cases e
 .
  -- binOp
  rename_i bop t x y u he;simp only at he;subst he;split at e
  . rename_i xs ys hx hy;split at e
    . rename_i hf;simp only[aG]at e;obtain⟨b,eb,rfl⟩:=e;have hu:=(zA hf).1;rw[hu]at eb;have h1:=yc (qx h x) hx;have h2:=yc (qx h y) hy;refine⟨.bool b,?_,RelV.c (.inr ⟨⟨by intros;simp,by intros;simp⟩,fun p=>⟨rfl,rfl⟩⟩)⟩;simp only[execOp,h1,h2,aK,run_eqGuard_agg w _ t x y xs ys (zA hf).2.2.1,ay,run_eql_struct,yF hf eb 9998 w,aU]
    . cases e
  . rename_i xs ys hx hy;split at e
    . rename_i hf;simp only[aG]at e;obtain⟨b,eb,rfl⟩:=e;have hu:=(zA hf).1;rw[hu]at eb;have h1:=yc (qx h x) hx;have h2:=yc (qx h y) hy;refine⟨.bool (!b),?_,RelV.c (.inr ⟨⟨by intros;simp,by intros;simp⟩,fun p=>⟨rfl,rfl⟩⟩)⟩;simp only[execOp,h1,h2,aK,run_eqGuard_agg w _ t x y xs ys (zA hf).2.2.1,ay,run_neq_struct,yF hf eb 9998 w,aU]
    . cases e
  . exact zF h qbq e
 . rename_i he;simp only at he;subst he;exact zF h qb8 e
 . rename_i he;simp only at he;subst he;exact qcF h e
 . rename_i he;simp only at he;subst he;exact zF h xH e
 . rename_i he;simp only at he;subst he;exact qdR h e
 .
  -- load
  rename_i t x he;simp only at he;subst he;split at e
  .
   rename_i c n g hc hn hg;cases hl:F.loadL n c with
   |none=>simp[hl]at e
   |some l=>
    simp only[hl,ae]at e;have hd:c≠.dead:=by rintro rfl;simp[Fr.loadL]at hl
    obtain⟨_,hs⟩:=qp h hc hd;obtain⟨ad,us,hV,hlen,hll,hcell,hrel⟩:=qa6 h hs hl;have hagg:=vK hg w;rcases qbJ e (by rw[hlen,hll]) hrel with⟨rfl,hr⟩|⟨rfl,u,hu,hr⟩
    . refine⟨.agg us.toArray,?_,hr⟩;have hlc:=run_loadCells_list (P:=cx.P) w ad us hcell;rw[hlen]at hlc;simp only[execOp,Instr.loadAt,Instr.sureAddr,hV,pure_bind,aK,loadVar,hagg,ay,if_true,qK hn,hlc,aU]
    . refine⟨u,?_,hr⟩;have h0:=hcell 0 u (by rw[hu];rfl);have:ad.add 0=ad:=by simp[Addr.add]
      rw[this]at h0;simp only[execOp,Instr.loadAt,Instr.sureAddr,hV,pure_bind,aK,loadVar,hagg,ay,aT,if_false,run_load,h0,aU]
  . cases e
 .
  -- nilCheck
  rename_i x he;simp only at he;subst he;split at e
  . rename_i p hc;simp only[aa]at e;subst e;obtain⟨hseen,hs⟩:=qp h hc (by simp);obtain⟨_,y,_,_,hv⟩:=hs ⟨⟨.res,[]⟩,0,0⟩;exact⟨a.eval x,by simp only[execOp,hv];rfl,RelV.c (.inr ⟨hseen,hs⟩)⟩
  . rename_i row o hc;simp only[aa]at e;subst e;obtain⟨hseen,hs⟩:=qp h hc (by simp);obtain⟨b,base,vs,T,fr,_,hv,_,_⟩:=hs ⟨⟨.res,[]⟩,0,0⟩;exact⟨a.eval x,by simp only[execOp,hv];rfl,RelV.c (.inr ⟨hseen,hs⟩)⟩
  . cases e
 .
  -- fieldAddr
  rename_i s x f he;simp only at he;subst he;split at e
  .
   rename_i fields c hu hc;split at e
   .
    rename_i fd hf;split at e
    . rename_i m hsz;simp only[aG]at e;obtain⟨c',e1,rfl⟩:=e;have hd:c≠.dead:=by rintro rfl;simp[ZE]at e1
      obtain⟨_,hs⟩:=qp h hc hd;obtain⟨ad,hV,hseen,hs'⟩:=XV hs e1;refine⟨_,?_,RelV.c (.inr ⟨hseen,hs'⟩)⟩;simp only[execOp,Instr.fieldAt,Instr.sureAddr,hV,aK,run_underlying hu,ay,hf,aU,fieldPlace,qK hsz,Nat.add_one_ne_zero,if_false]
    . cases e
   . cases e
  . cases e
 .
  -- indexAddr
  rename_i t x i he;simp only at he;subst he;split at e
  .
   -- an immutable slice
   rename_i elem rows n hu hc hi;split at e
   .
    rename_i row sz hrow hsz;split at e
    .
     rename_i hcond;simp only[aa]at e;subst e;simp only[aC,aX,beq_iff_eq]at hcond;obtain⟨h0,hrl⟩:=hcond;obtain⟨_,hs⟩:=qp h hc (by simp);obtain⟨k,hk⟩:=xD (qx h i) hi;have hlt:n.toNat<rows.length:=(az.1 hrow).1;have hV:=hs ⟨⟨.res,[]⟩,0,0⟩;generalize hVx:a.eval x=V at hV;cases hV with
     |immE ad cap=>simp at hlt
     |imm _ b off cap sz' vs T fr us hb him _ hsz' hv hr=>
      have hin:0<=n/\n<(rows.length:Int):=⟨h0,by omega⟩
      have hszeq:sz'=sz:=by rw[<- hsz' row (aM hrow),hrl]
      subst hszeq;refine⟨.pointer (some ⟨b,off+n.toNat*sz',none⟩),?_,RelV.c (.inr ⟨⟨by intros;simp,by intros;simp⟩,fun q=>⟨b,off+n.toNat*sz',vs,T,fr,him,by simp,hb,fun j c hj=>?_⟩⟩)⟩
      . simp only[execOp,Instr.indexAt,hk,asIntOf,pure_bind,aK,run_underlying hu,ay,hVx,aU,hin,and_self,if_true,qK hsz,zb,true_and]
      . have hcell:cellAt rows n.toNat j=some c:=by simp[cellAt,hrow,hj]
        exact⟨us n.toNat j,hv _ _ _ hcell,hr _ _ _ hcell⟩
    . cases e
   . cases e
  .
   -- an owned slice
   rename_i elem p n hu hc hi;split at e
   .
    rename_i zz rows sz hg hsz;split at e
    . rename_i hcond;simp only[aa]at e;subst e;simp only[aC,aX,beq_iff_eq]at hcond;obtain⟨⟨h0,hlt0⟩,rfl⟩:=hcond;obtain⟨_,hs⟩:=qp h hc (by simp);obtain⟨k,hk⟩:=xD (qx h i) hi;have hlt:n.toNat<rows.length:=by omega
      obtain⟨ad,cap,hV,y,hy,hz,rfl,hp⟩:=qlv h hs hg hlt;have hin:0<=n/\n<(rows.length:Int):=⟨h0,hlt0⟩
      rw[hz]at hp;refine⟨_,?_,RelV.c (.inr ⟨⟨by intros;simp,by intros;simp⟩,hp⟩)⟩;simp only[execOp,Instr.indexAt,hk,asIntOf,pure_bind,aK,run_underlying hu,ay,hV,aU,hin,and_self,if_true,qK hsz,zb,Nat.zero_add,true_and]
    . cases e
   . cases e
  .
   -- an array's address
   rename_i len elem c n hu hc hi;split at e
   .
    rename_i sz hsz;split at e
    . rename_i hin;simp only[aG]at e;obtain⟨c',e1,rfl⟩:=e;have hd:c≠.dead:=by rintro rfl;simp[ZE]at e1
      obtain⟨_,hs⟩:=qp h hc hd;obtain⟨k,hk⟩:=xD (qx h i) hi;obtain⟨ad,hV,hseen,hs'⟩:=XV hs e1;refine⟨_,?_,RelV.c (.inr ⟨hseen,hs'⟩)⟩;simp only[execOp,Instr.indexAt,Instr.sureAddr,hk,asIntOf,pure_bind,aK,run_underlying hu,ay,hV,aU,hin,and_self,if_true,qK hsz,true_and]
    . cases e
   . cases e
  . cases e
 . rename_i he;simp only at he;subst he;exact zF h qaW e
 .
  -- field
  rename_i s x f he;simp only at he;subst he;split at e
  .
   rename_i fields l hu hx;split at e
   .
    rename_i fd hf;split at e
    . rename_i n g hn hg;split at e
      . rename_i hle;have hr:=qx h x;rw[hx]at hr;obtain⟨vs,hV,hsz,hc⟩:=hr.agg_inv;obtain⟨V,hrun,hrel⟩:=qgk hn hg hsz hc hle e;refine⟨V,?_,hrel⟩;simp only[execOp,Instr.field,aK,run_underlying hu,ay,hf,hV,asAgg,pure_bind,hrun,aU]
      . cases e
    . cases e
   . cases e
  . cases e
 .
  -- extract
  rename_i x i he;simp only at he;subst he;split at e
  . rename_i fl rows hx;split at e
    . rename_i g l hg hl;have hr:=qx h x;rw[hx]at hr;obtain⟨Vs,U,hV,hU,hrel⟩:=hr.tup_inv hg hl;refine⟨U,?_,hrel v e⟩;simp only[execOp,Instr.extract,hV,hU,aK,aU,ay]
    . cases e
  . cases e
 .
  -- len
  rename_i args argTypes he;simp only at he;subst he;split at e
  .
   rename_i x t hx ht;split at e
   . rename_i elem c hu hc;simp only[aG]at e;obtain⟨rows,hl,rfl⟩:=e;have hd:c≠.dead:=by rintro rfl;simp[Fr.look]at hl
     obtain⟨_,hs⟩:=qp h hc hd;obtain⟨ad,cap,hV⟩:=qgs h hs hl;refine⟨.int .i64 rows.length,?_,RelV.c (.inr ⟨⟨by intros;simp,by intros;simp⟩,fun q=>⟨rfl,rfl⟩⟩)⟩;have hm:(args.map a.eval)[0]? = some (.slice ad rows.length cap):=by simp[hx,hV]
     simp only[execOp,resolve,pure_bind,invoke,builtin,aK,Builtin.len_,ht,hm,run_underlying hu,ay,aU,goInt]
   . exact zF h qoY e
  . cases e
 . rename_i he;simp only at he;subst he;exact zF h qoY e
 . rename_i he;simp only at he;subst he;exact zF h qoY e
 .
  -- makeFunc
  rename_i f first caps he
  simp only at he;subst he;dsimp only at e;split at e
  .
   rename_i hgood;simp only[aa]at e;subst e;have go:∀ (l:List Operand),(l.map fun x=>(F.ev x).cell).all (fun c=>match c with|some (.ptr p)=>p.key.path.isEmpty|some (.val _)=>true|_=>false)=true ->
     qY G ((l.map fun x=>(F.ev x).cell).map (·.getD .dead)) (l.map a.eval):=by
    intro l
    induction l with
    |nil=>intro _;trivial
    |cons x l ih=>
     intro hl;simp only[List.map_cons,List.all_cons,aC]at hl;refine⟨?_,ih hl.2⟩;cases hc:(F.ev x).cell with
     |none=>simp[hc]at hl
     |some c=>
      cases c with
      |val u=>obtain⟨_,hs⟩:=qp h hc (by simp);show RelX G ((F.ev x).cell.getD .dead) (a.eval x);rw[hc];exact hs ⟨⟨.res,[]⟩,0,0⟩
      |ptr q=>simp only[hc]at hl;obtain⟨_,hs⟩:=qp h hc (by simp);obtain⟨a1,y,a2,a3⟩:=hs ⟨⟨.res,[]⟩,0,0⟩;show RelX G ((F.ev x).cell.getD .dead) (a.eval x);rw[hc];exact⟨a1,by simpa [List.isEmpty_iff]using hl.1,y,a2,a3⟩
      |_=>simp[hc]at hl
   simp only[aC]at hgood;refine⟨.func (.func f) (first.map a.eval) (caps.map a.eval),?_,RelV.c (.inr ⟨⟨by intros;simp,by intros;simp⟩,fun q=>⟨_,_,rfl,?_,?_⟩⟩)⟩
   . simp only[execOp,Instr.makeFunc,aK,aU,ay]
   . rw[Array.toList_map];exact go first.toList hgood.1
   . rw[Array.toList_map];exact go caps.toList hgood.2
  . cases e
 . cases e
end
section
variable [Glob]
theorem RelV.noOwn {G w v V}(h:RelV G w v V):(v.rows.any (·.any qy))=false:=by
 rw[List.any_eq_false];intro row hrow;simp only[Bool.not_eq_true,List.any_eq_false];intro c hc;obtain⟨r,hr⟩:=List.getElem?_of_mem hrow;obtain⟨o,ho⟩:=List.getElem?_of_mem hc;obtain⟨u,_,hx⟩:=h.2 r o c (qc.2 ⟨row,hr,ho⟩);rcases hx with rfl|⟨hx,_⟩
 . rfl
 . exact zV.1 hx
theorem putV {G w F ts}(h:RelF G w F ts){d v V}(hv:RelV G w v V):
  RelF G w (F.putS (some d) v) (ts.setIfInBounds d V):=by
 unfold Fr.putS;simp only[hv.noOwn,aT,if_false];refine h.put_flat ⟨hv.1,fun r o c e=>?_⟩ (fun r o c zz rs e hco=>?_)
 . obtain⟨u,hu,hx⟩:=hv.2 r o c e
   grind
 . have:=qea hv.noOwn e;rw[hco]at this;simp[qy]at this
theorem putO {G w F}{a:Act}(h:RelF G w F a.tmps){d v V}(hv:RelV G w v V):
  RelF G w (F.putS d v) (a.put d V).tmps:=by
 cases d with
 |none=>exact h
 |some d=>exact putV h hv
theorem putL {G w F ts}(h:RelF G w F ts){d xs l us}(hh:zL G w F xs l us)(hd:Dis xs){v V}(hv:(v=.ag l/\V=.agg us.toArray)\/(∃ c,v=.c c/\l=[c]/\us=[V])):
  ∃ G',RelF G' w (F.putS (some d) v) (ts.setIfInBounds d V)/\Gain G w G' w:=by
 have hlen:=hh.len;have hrows:v.rows=[l]:=by rcases hv with⟨rfl,_⟩|⟨c,rfl,rfl,_⟩<;>rfl
 refine qgw h (fun r o=>if r=0 then xs[o]? else none) ?_ (fun r o c e=>?_) (fun r o r' o' s e e'=>?_)
 .
  rcases hv with⟨rfl,rfl⟩|⟨c,rfl,rfl,rfl⟩
  . exact⟨us.toArray,rfl,by grind⟩
  . trivial
 .
  rw[hrows]at e;obtain⟨rfl,ho⟩:=zI e;obtain⟨x,u,hx,hu,hc⟩:=hh.get ho;refine⟨u,?_,.inr ⟨x,by grind,hc⟩⟩;rcases hv with⟨rfl,rfl⟩|⟨c',rfl,rfl,rfl⟩
  . simpa [qX,AV.ag]using hu
  . cases o with
    |zero=>simpa [qX,AV.c]using hu
    |succ o=>grind
 .
  have key:∀ r o s,zg v.rows (fun r o=>if r=0 then xs[o]? else none) r o=some (some s)->r=0/\xs[o]? = some (some s):=by
   intro r o s e;unfold zg at e
   grind
  obtain⟨rfl,h1⟩:=key _ _ _ e;obtain⟨rfl,h2⟩:=key _ _ _ e';exact⟨rfl,hd _ _ _ h1 h2⟩
theorem RelV.ls {G w v V}(h:RelV G w v V){l}(e:v.cells=some l):
  ((v.tag=.agg/\v=.ag l/\∃ vs,V=.agg vs)\/(v.tag=.one/\∃ c,v=.c c/\l=[c]))/\(∀ c∈l,c≠.dead)->vz G w l V.cells.toList:=by
 rintro ⟨hk,hnd⟩
 rcases hk with⟨_,rfl,vs,rfl⟩|⟨_,c,rfl,rfl⟩
 . obtain⟨vs',e1,e2,e3⟩:=h.agg_inv;cases e1;exact vz.of_get (by simpa [Value.cells]using e2) (fun o c ho=>by obtain⟨u,hu,hx⟩:=e3 o c ho;exact⟨u,by simpa [Value.cells]using hu,hx⟩)
 .
  obtain⟨u,hu,hx⟩:=h.2 0 0 c rfl;simp only[AV.c,qX,aa]at hu;subst hu;rcases hx with rfl|⟨h1,h2⟩
  . grind
  . rw[qo1 (h2 ⟨⟨.res,[]⟩,0,0⟩).one];exact⟨.inr ⟨h1,h2⟩,trivial⟩
theorem Xb {cx G w F F' ts}(h:RelF G w F ts){v v' V}(hv:RelV G w v V)(e:Qb cx F v=some (v',F')):
  ∃ im' xs l us,RelF { G with im:=im' } w F' ts/\Gain G w { G with im:=im' } w/\zL { G with im:=im' } w F' xs l us/\Dis xs/\v'.cells=some l/\us=V.cells.toList /\
   ((v'=.ag l/\V=.agg us.toArray)\/(∃ c,v'=.c c/\l=[c]/\us=[V])):=by
 obtain⟨tag,rows⟩:=v;unfold Qb at e;split at e
 .
  rename_i x ht hr;simp only at ht hr;subst ht;subst hr;simp only[aG,Prod.exists,ai]at e;obtain⟨c',F1,e1,rfl,rfl⟩:=e;obtain⟨u,hu,hx⟩:=hv.2 0 0 x rfl;simp only[qX,aa]at hu;subst hu;rcases hx with rfl|⟨h1,h2⟩
  . simp[takeC]at e1
  .
   obtain⟨im',x,a1,a2,_,a4,_⟩:=YW h h1 h2 e1;refine⟨im',[x],[c'],[V],a1,a2,⟨a4,trivial⟩,?_,rfl,?_,.inr ⟨c',rfl,rfl,rfl⟩⟩
   . intro i j s hi hj
     grind
   . rw[qo1 a4.one]
 . rename_i l ht hr;simp only at ht hr;subst ht;subst hr;simp only[aG,Prod.exists,ai]at e;obtain⟨l',F1,e1,rfl,rfl⟩:=e;obtain⟨vs,rfl,e2,e3⟩:=hv.agg_inv;obtain⟨im',xs,a1,a2,_,a4,a5,_⟩:=Zl l l' vs.toList G F F1 h (vz.of_get (by omega) (fun o c ho=>by grind)) e1;exact⟨im',xs,l',vs.toList,a1,a2,a4,a5,rfl,rfl,.inl ⟨rfl,by simp⟩⟩
 grind
def Ran (cx:Cx)(G:Gh)(w:World)(a:Act)(o:Oper)(F':Fr):Prop:=∃ n V G' w',(execOp a.eval o).run cx.P w=.ok n w'/\(n=.value V\/(n=.skip/\V=Go.undef))/\RelF G' w' F' (a.put o.dst V).tmps/\Gain G w G' w'
theorem qdp {cx G w F F' a o x}(ho:o.op=.assign x)(h:RelF G w F a.tmps)(e:loud cx F o=some F'):Ran cx G w a o F':=by
 obtain⟨dst,op,ty,pos,after,guard⟩:=o;change op=_ at ho;subst ho;have run:∀ w,(execOp a.eval ⟨dst,.assign x,ty,pos,after,guard⟩).run cx.P w=.ok (.value (a.eval x)) w:=fun w=>rfl;have hr:=qx h x;unfold loud at e;simp only at e;split at e
 .
  rename_i p d hc;obtain⟨hsn,hs⟩:=qp h hc (by simp);split at e
  .
   rename_i hroot;split at e
   .
    rename_i hp;subst hp;split at e
    . rename_i c hsl;split at e
      . rename_i hcell;simp only[aa]at e;subst e;have hg:F.get ⟨⟨.slot d,[]⟩,0,0⟩=some c:=qz (zR hsl) rfl;obtain⟨_,hval⟩:=yD h hs hg (fun hn=>by rw[zV.1 hn]at hcell;grind);obtain⟨V,hV,hsh,hcs⟩:=h.slots d _ hsl;have hVe:V=a.eval x:=hval V (.inr ⟨Zi d,d,_,V,rfl,hsl,hV,rfl⟩);refine⟨_,a.eval x,G,w,run w,.inl rfl,?_,Gain.refl G w⟩;have:a.tmps.setIfInBounds d (a.eval x)=a.tmps:=by grind
        simp only[Act.put,this];exact h
      grind
    grind
   grind
  .
   split at e
   .
    split at e
    . rename_i c F1 ht;simp only[aa]at e;subst e;obtain⟨im',xx,a1,a2,_,a4,_⟩:=YW h hsn hs ht;obtain⟨G',b1,b2⟩:=putL (d:=d) a1 (xs:=[xx]) (l:=[c]) (us:=[a.eval x]) ⟨a4,trivial⟩ (by
       intro i j s hi hj
       grind) (.inr ⟨c,rfl,rfl,rfl⟩)
      exact⟨_,a.eval x,G',w,run w,.inl rfl,b1,a2.trans b2⟩
    grind
   . simp only[aa]at e;subst e;exact⟨_,a.eval x,G,w,run w,.inl rfl,putV h (RelV.c (.inr ⟨hsn,hs⟩)),Gain.refl G w⟩
 . rename_i c d hneg hc;simp only[aa]at e;subst e;exact⟨_,a.eval x,G,w,run w,.inl rfl,putV h (RelV.c (Zh hr hc)),Gain.refl G w⟩
 . rename_i d hc;simp only[aG,Prod.exists]at e;obtain⟨v,F1,e1,rfl⟩:=e;obtain⟨im',xs,l,us,a1,a2,a3,a4,_,_,a7⟩:=Xb h hr e1;obtain⟨G',b1,b2⟩:=putL (d:=d) a1 a3 a4 a7;exact⟨_,a.eval x,G',w,run w,.inl rfl,b1,a2.trans b2⟩
 grind
end
section
variable [Glob]
theorem Weak.drop (F)(d):Weak F (F.drop (.loc d)):=by
 have h0:=Weak.mapC (yN (.loc d)) F;refine⟨by simp[Fr.drop,Fr.mapC],fun k v' e=>h0.slot k v' e,fun r l' e=>?_⟩;simp only[Fr.drop,Fr.mapC,qH,qad]at e;split at e
 . cases e
 . exact h0.box r l' (by simpa [Fr.mapC,qH]using e)
theorem qY.less {G d}:∀ {l:List Cell} {vs:List Value},(∀ q,.ptr q∈l->q.key.root≠.loc d)->qY G l vs->qY { G with lv:=fun k=>G.lv k/\k≠d } l vs
 |[],[],_,_=>trivial
 |c::l,v::vs,hn,⟨h1,h2⟩=>by
  refine⟨?_,qY.less (fun q hq=>hn q (aB _ hq)) h2⟩;cases c with
  |ptr q=>
   obtain⟨a,b⟩:=h1;refine⟨?_,b⟩;have hq:=hn q (by simp);cases hr:q.key.root with
   |loc k=>rw[hr]at a hq;exact⟨a,by simpa using hq⟩
   |_=>trivial
  |val u=>exact h1
  |_=>exact h1.elim
 |[],_::_,_,h=>h.elim
 |_::_,[],_,h=>h.elim
theorem Gh.ok_less {G:Gh}{d r}(h:G.ok r)(hr:r≠.loc d):Gh.ok { G with lv:=fun k=>G.lv k/\k≠d } r:=by
 cases r with
 |loc k=>exact⟨h,by grind⟩
 |_=>trivial
theorem Hold.drop {G w F x c u}(h:Hold G w F x c u)(d):
  (zn (.loc d) c=.dead/\oneC u=true)\/Hold { G with lv:=fun k=>G.lv k/\k≠d } w (F.drop (.loc d)) x (zn (.loc d) c) u:=by
 have h1:=h.one;cases x with
 |none=>
  obtain⟨a1,a2,a3,a4,a5⟩:=h;cases c with
  |own zz rows=>exact absurd rfl (a1.1 _ rows)
  |mp es=>exact absurd rfl (a1.2 es)
  |ref q=>grind
  |ptr q=>
   simp only[zn];split
   . grind
   . rename_i hr;refine .inr ⟨a1,a2,a3,a4,fun p=>?_⟩;obtain⟨b1,b2⟩:=a5 p;exact⟨Gh.ok_less b1 hr,b2⟩
  |clo f fs cs=>
   simp only[zn];split
   . grind
   . rename_i hr;refine .inr ⟨a1,a2,a3,a4,fun p=>?_⟩;obtain⟨vs,us,b1,b2,b3⟩:=a5 p;have hn:∀ q,.ptr q∈fs++cs->q.key.root≠.loc d:=by grind
     exact⟨vs,us,b1,b2.less fun q hq=>hn q (aL _ hq),b3.less fun q hq=>hn q (aS _ hq)⟩
  |val v=>exact .inr ⟨a1,a2,a3,a4,fun p=>a5 p⟩
  |nil=>exact .inr ⟨a1,a2,a3,a4,fun p=>a5 p⟩
  |imm rows=>exact .inr ⟨a1,a2,a3,a4,fun p=>a5 p⟩
  |cptr row o=>exact .inr ⟨a1,a2,a3,a4,fun p=>a5 p⟩
  |dead=>grind
 |some s=>
  obtain⟨a1,a2,a3,a4,a5⟩:=h;have hu:∀ π,¬ Uses (F.drop (.loc d)) (s.under π):=fun π hu=>a5 π ((Weak.drop F d).uses hu);have ht:Tree { G with lv:=fun k=>G.lv k/\k≠d } w s c:=by
   intro rest rows e;rcases a4 rest rows e with hn|⟨hd,vs,T,e1,e2,e3,e4,e5,e6,e7,e8,e9⟩
   . exact .inl hn
   refine .inr ⟨hd,vs,T,e1,e2,e3,e4,e5,e6,e7,e8,fun r o c' hc'=>?_⟩;obtain⟨u,hu,hs⟩:=e9 r o c' hc';refine⟨u,hu,?_⟩;have hp:=(e8 (by simp[Pl.under])).2 r o c' hc';cases c'<;>first|exact hs|simp[qw]at hp
  cases c with
  |own zz rows=>exact .inr ⟨a1,a2,a3,ht,hu⟩
  |mp es=>exact .inr ⟨a1,a2,a3,ht,hu⟩
  |_=>exact absurd (by constructor<;>intros<;>simp) a2
theorem Gain.lv {G w}(lv):zS G w { G with lv:=lv } w:=⟨Nat.le_refl _,fun _ h=>h,fun _ _=>rfl,fun _ _ _=>⟨rfl,fun h=>h⟩,fun k h e=>.inl ⟨k,h,e,rfl⟩,fun _=>rfl,.refl w⟩
theorem qh2 {xs:List (Option Pl)}{l r o s}(e:zg [l] (fun r o=>if r=0 then xs[o]? else none) r o=some (some s)):r=0/\xs[o]? = some (some s):=by
 unfold zg at e
 grind
theorem qaj {G w F F' ts}(h:RelF G w F ts){dst xs l us}(hh:zL G w F xs l us)(hd:Dis xs)(T)(e:qaN F dst l=some F'):
  ∃ d G',dst=some d/\RelF G' (w.alloc (.cells us.toArray T)) F' (ts.setIfInBounds d (.pointer (some ⟨w.heap.size,0,none⟩)))/\Gain G w G' (w.alloc (.cells us.toArray T)):=by
 have hlen:=hh.len;cases dst with
 |none=>simp[qaN]at e
 |some d=>
  have fin:∀ (G0:Gh) (F0:Fr) (l0:List Cell),RelF G0 w F0 ts->F0.boxes.lookup (.loc d)=none->l0.length=l.length ->
    (∀ (o:Nat) c,l0[o]? = some c->∃ u,us.toArray[o]? = some u/\((c=.dead/\oneC u=true)\/∃ x,(if 0=0 then xs[o]? else none)=some x/\Hold G0 w F0 x c u)) ->
    ∃ G',RelF G' (w.alloc (.cells us.toArray T)) (({ F0 with boxes:=(.loc d,l0)::F0.boxes }:Fr).putS (some d) (.c (.ptr ⟨⟨.loc d,[]⟩,0,0⟩))) (ts.setIfInBounds d (.pointer (some ⟨w.heap.size,0,none⟩))) /\
     Gain G0 w G' (w.alloc (.cells us.toArray T)):=by
   intro G0 F0 l0 r0 hn hl hc;obtain⟨G',b1,b2,b3,x,b4,b5,b6⟩:=qmQ r0 hn (l:=l0) (us:=us.toArray) T (fun r o=>if r=0 then xs[o]? else none) (by grind) hc (fun r o r' o' s e e'=>by obtain⟨rfl,h1⟩:=qh2 e;obtain⟨rfl,h2⟩:=qh2 e';exact⟨rfl,hd _ _ _ h1 h2⟩);refine⟨G',putV b1 (RelV.c (.inr ⟨⟨by grind,by grind⟩,fun p=>⟨b3,x,b4,b6,?_⟩⟩)),b2⟩
   grind
  unfold qaN at e;simp only at e;split at e
  .
   rename_i hn;simp only[aa]at e;subst e;obtain⟨G',b1,b2⟩:=fin G F l h hn rfl (fun o c ho=>by
    obtain⟨x,u,hx,hu,hc⟩:=hh.get ho
    grind)
   grind
  grind
theorem qec {u}(h:QK (qm u)=true)(G w)(F):Hold G w F none (qm u) u:=by
 have:=ZP G w u;cases hc:qm u<;>rw[hc]at h this<;>simp[QK]at h
 .
  rcases this with h|⟨h1,h2⟩
  . cases h
  . exact⟨h1,by simp,by grind,by grind,h2⟩
 .
  rcases this with h|⟨h1,h2⟩
  . cases h
  . exact⟨h1,by simp,by grind,by grind,h2⟩
theorem Yq:∀ {us:List Value},(us.map qm).all QK=true->∀ (G:Gh) (w:World) (F:Fr),zL G w F (List.replicate us.length none) (us.map qm) us
 |[],_,_,_,_=>trivial
 |u::us,h,G,w,F=>by simp only[List.map_cons,List.all_cons,aC]at h;exact⟨qec h.1 G w F,Yq h.2 G w F⟩
theorem Dis.none (n):Dis (List.replicate n none):=by
 intro i j s hi _
 grind
theorem Yj {P t l}(h:XP P t=some l):∃ z,(∀ w,(zeroValue t).run P w=.ok z w)/\l=z.cells.toList.map qm/\l.all QK=true/\qQ P t=some l.length:=by
 unfold XP at h;split at h
 .
  rename_i i hi;split at h
  . rename_i z hz;split at h
    . rename_i hc;simp only[aa]at h;subst h;simp only[aC,aX]at hc;exact⟨z,fun w=>by simp[zeroValue,typeInfo,Sem.run,hi,hz],rfl,hc.2,by simp[qQ,hi,hc.1]⟩
    grind
  grind
 grind
theorem qeI {cx G w F F' a o t}(ho:o.op=.alloc t)(h:RelF G w F a.tmps)(e:loud cx F o=some F'):Ran cx G w a o F':=by
 obtain⟨dst,op,ty,pos,after,guard⟩:=o;change op=_ at ho;subst ho;unfold loud at e;simp only at e;split at e
 . rename_i l hl;obtain⟨z,hz,rfl,hp,_⟩:=Yj hl;obtain⟨d,G',rfl,b1,b2⟩:=qaj h (Yq hp G w F) (Dis.none _) t e;refine⟨_,_,G',_,?_,.inl rfl,b1,b2⟩;simp[execOp,Instr.alloc,hz,newVar,newRow,newObj,aK,Sem.run,ay]
 grind
theorem qhH {cx G w F F' a o t x}(ho:o.op=.box t x)(h:RelF G w F a.tmps)(e:loud cx F o=some F'):Ran cx G w a o F':=by
 obtain⟨dst,op,ty,pos,after,guard⟩:=o;change op=_ at ho;subst ho;unfold loud at e;simp only at e;split at e
 . rename_i v F1 ht;obtain⟨im',xs,l,us,a1,a2,a3,a4,a5,a6,a7⟩:=Xb h (qx h x) ht;rw[a5]at e;obtain⟨d,G',rfl,b1,b2⟩:=qaj a1 a3 a4 t e;refine⟨_,_,G',_,?_,.inl rfl,b1,a2.trans b2⟩;simp[execOp,Instr.box,newVar,newRow,newObj,aK,Sem.run,ay,a6]
 grind
theorem qeW {cx G w F F' a o t y x}(ho:o.op=.store t y x)(h:RelF G w F a.tmps)(e:loud cx F o=some F'):Ran cx G w a o F':=by
 obtain⟨dst,op,ty,pos,after,guard⟩:=o;change op=_ at ho;subst ho;unfold loud at e;simp only at e;split at e
 .
  rename_i p n v F1 hc hn ht;split at e
  .
   rename_i l hl;split at e
   . rename_i hcond;simp only[aC,aX,Bool.or_eq_true,List.isEmpty_iff]at hcond;obtain⟨⟨hln,hheap⟩,hpure⟩:=hcond;obtain⟨_,hs⟩:=qp h hc (by simp);obtain⟨_,y0,hy,_,hV⟩:=hs ⟨⟨.res,[]⟩,0,0⟩;obtain⟨im',xs,l',us,a1,a2,a3,a4,a5,a6,_⟩:=Xb h (qx h x) ht;rw[hl]at a5;cases a5;obtain⟨G',w',b1,b2,b3⟩:=qgp (P:=cx.P) (qcn.1 hheap) l us xs 0 _ w F1 F' a1 hy a3 a4 (fun hp=>hpure.resolve_left hp) e;refine⟨.skip,_,G',w',?_,.inr ⟨rfl,rfl⟩,b2,a2.trans b3⟩;have hsz:(a.eval x).cells.size=n:=by rw[<- hln,<- a3.len.2,a6];simp
     rw[a6]at b1;simp only[execOp,Instr.storeAt,Instr.sureAddr,storeVar,hV,aK,aU,ay,qK hn,hsz,ne_eq,not_true_eq_false,if_false,b1]
   grind
  grind
 grind
end
section
variable [Glob]
def Nod (xs:List (Option Pl)):Prop:=(xs.filterMap id).Nodup
theorem Dis.tail {x xs}(h:Dis (x::xs)):Dis xs:=fun i j s hi hj=>by have:=h (i+1) (j+1) s (by simpa using hi) (by simpa using hj);omega
theorem ZN:∀ {xs:List (Option Pl)},Dis xs↔Nod xs
 |[]=>⟨fun _=>List.nodup_nil,fun _ i j s hi=>by simp at hi⟩
 |none::xs=>by unfold Nod;simp only[List.filterMap_cons,id];exact⟨fun h=>ZN.1 h.tail,fun h=>Dis.cons (ZN.2 h) (by intros;simp_all)⟩
 |some s::xs=>by unfold Nod;simp only[List.filterMap_cons,id,List.nodup_cons,List.mem_filterMap,exists_eq_right];refine⟨fun h=>⟨fun hm=>?_,ZN.1 h.tail⟩,fun h=>Dis.cons (ZN.2 h.2) (by intro s' e;cases e;exact h.1)⟩;obtain⟨j,hj⟩:=List.getElem?_of_mem hm;have:=h 0 (j+1) s rfl (by simpa using hj);omega
theorem zL.take {G w F}:∀ (n:Nat) {xs:List (Option Pl)} {l:List Cell} {us:List Value},zL G w F xs l us->zL G w F (xs.take n) (l.take n) (us.take n)
 |0,_,_,_,_=>trivial
 |n+1,[],[],[],_=>trivial
 |n+1,_::_,_::_,_::_,⟨h1,h2⟩=>⟨h1,h2.take n⟩
 |_+1,[],[],_::_,h=>h.elim
 |_+1,[],_::_,_,h=>h.elim
 |_+1,_::_,[],_,h=>h.elim
 |_+1,_::_,_::_,[],h=>h.elim
theorem zL.drop {G w F}:∀ (n:Nat) {xs:List (Option Pl)} {l:List Cell} {us:List Value},zL G w F xs l us->zL G w F (xs.drop n) (l.drop n) (us.drop n)
 |0,_,_,_,h=>h
 |n+1,[],[],[],_=>trivial
 |n+1,_::_,_::_,_::_,⟨_,h2⟩=>h2.drop n
 |_+1,[],[],_::_,h=>h.elim
 |_+1,[],_::_,_,h=>h.elim
 |_+1,_::_,[],_,h=>h.elim
 |_+1,_::_,_::_,[],h=>h.elim
theorem zL.append {G w F}:∀ {xs xs':List (Option Pl)} {l l':List Cell} {us us':List Value},zL G w F xs l us->zL G w F xs' l' us'->zL G w F (xs++xs') (l++l') (us++us')
 |[],_,[],_,[],_,_,h=>h
 |_::_,_,_::_,_,_::_,_,⟨h1,h2⟩,h=>⟨h1,h2.append h⟩
 |[],_,[],_,_::_,_,h,_=>h.elim
 |[],_,_::_,_,_,_,h,_=>h.elim
 |_::_,_,[],_,_,_,h,_=>h.elim
 |_::_,_,_::_,_,[],_,h,_=>h.elim
def qk9 (G:Gh)(w:World)(F:Fr):List (List (Option Pl))->List (Nat×List Cell)->List (Nat×Value)->Prop
 |[],[],[]=>True
 |xs::xss,(i,l)::ps,(j,V)::vs=>i=j/\zL G w F xs l V.cells.toList/\qk9 G w F xss ps vs
 |_,_,_=>False
theorem qgn {cx F}:takeC cx F .dead=none:=rfl
theorem qfu {cx}:∀ {F:Fr} {l l':List Cell} {F':Fr},QB cx F l=some (l',F')->∀ c∈l,c≠.dead
 |F,[],_,_,_,c,hc=>by simp at hc
 |F,c0::l,l',F',e,c,hc=>by
  simp only[QB]at e;cases h1:takeC cx F c0 with
  |none=>simp[h1]at e
  |some y=>
   obtain⟨c1,F1⟩:=y;simp only[h1]at e;cases h2:QB cx F1 l with
   |none=>simp[h2]at e
   |some z=>
    obtain⟨l2,F2⟩:=z;rcases List.mem_cons.1 hc with rfl|hm
    . rintro rfl
      rw[qgn]at h1;cases h1
    . exact qfu h2 c hm
theorem Xf {v:AV}{l}(h:v.cells=some l):(v.tag=.agg/\v=.ag l)\/(v.tag=.one/\∃ c,v=.c c/\l=[c]):=by
 obtain⟨tag,rows⟩:=v;unfold AV.cells at h;split at h
 . rename_i x ht hr;simp only at ht hr;subst ht;subst hr;simp only[aa]at h;exact .inr ⟨rfl,x,rfl,h.symm⟩
 . rename_i l' ht hr;simp only at ht hr;subst ht;subst hr;simp only[aa]at h;subst h;exact .inl ⟨rfl,rfl⟩
 grind
theorem RelV.ls' {G w v V}(h:RelV G w v V){l}(e:v.cells=some l)(hd:∀ c∈l,c≠.dead):vz G w l V.cells.toList:=by
 refine h.ls e ⟨?_,hd⟩;rcases Xf e with⟨h1,rfl⟩|h1
 . obtain⟨vs,rfl,_⟩:=h.agg_inv
   grind
 grind
theorem xJ {cx w ts}:∀ (vs:List (Nat×AV)) (Vs:List (Nat×Value)) (ps:List (Nat×List Cell)) (G:Gh) (F F':Fr),RelF G w F ts ->
  vs.length=Vs.length->(∀ (j:Nat) x X,vs[j]? = some x->Vs[j]? = some X->x.1=X.1/\RelV G w x.2 X.2)->ym cx F vs=some (ps,F') ->
  ∃ im' xss,RelF { G with im:=im' } w F' ts/\Gain G w { G with im:=im' } w/\Shr G F { G with im:=im' } F'/\qk9 { G with im:=im' } w F' xss ps Vs/\Nod xss.flatten /\
   ∀ s,some s∈xss.flatten->Uses F s.toKey
 |[],[],ps,G,F,F',h,_,_,e=>by simp only[ym,aa,ai]at e;obtain⟨rfl,rfl⟩:=e;exact⟨G.im,[],h,Gain.refl G w,Shr.refl G F,trivial,List.nodup_nil,by intro s hs;simp at hs⟩
 |(i,v)::vs,(j,V)::Vs,ps,G,F,F',h,hl,hr,e=>by
  simp only[ym]at e;obtain⟨hij,hv⟩:=hr 0 _ _ rfl rfl;simp only at hij hv;cases hc:v.cells with
  |none=>simp[hc]at e
  |some l=>
   simp only[hc]at e;cases h1:QB cx F l with
   |none=>simp[h1]at e
   |some y=>
    obtain⟨l1,F1⟩:=y;simp only[h1]at e;cases h2:ym cx F1 vs with
    |none=>simp[h2]at e
    |some z=>
     obtain⟨ps1,F2⟩:=z;simp only[h2,aa,ai]at e;obtain⟨rfl,rfl⟩:=e;obtain⟨im1,xs,a1,a2,a3,a4,a5,a6⟩:=Zl l l1 V.cells.toList G F F1 h (hv.ls' hc (qfu h1)) h1;obtain⟨im2,xss,b1,b2,b3,b4,b5,b6⟩:=xJ vs Vs ps1 { G with im:=im1 } F1 F2 a1 (by simpa using hl) (fun j x X hx hX=>by obtain⟨c1,c2⟩:=hr (j+1) x X (by simpa using hx) (by simpa using hX);exact⟨c1,c2.shr a3⟩) h2;refine⟨im2,xs::xss,b1,a2.trans b2,a3.trans b3,⟨hij,a4.shr b3 a1.inv,b4⟩,?_,fun s hs=>?_⟩
     . unfold Nod;rw[List.flatten_cons,List.filterMap_append,List.nodup_append];refine⟨ZN.1 a5,b5,?_⟩;intro s hs s' hs' he;subst he;simp only[List.mem_filterMap,id,exists_eq_right]at hs hs';exact a4.nouse hs (b6 s hs')
     . rw[List.flatten_cons,List.mem_append]at hs;rcases hs with hs|hs
       . exact a6 s hs
       . exact a3.uses _ (b6 s hs)
 |[],_::_,_,_,_,_,_,hl,_,_=>by simp at hl
 |_::_,[],_,_,_,_,_,hl,_,_=>by simp at hl
theorem splice (cells new:Array Value)(off)(h:off+new.size<=cells.size):
  (new.zipIdx.foldl (fun cs (c,j)=>cs.setIfInBounds (off+j) c) cells).toList=cells.toList.take off++new.toList++cells.toList.drop (off+new.size):=by
 have go:∀ (l:List Value) (k:Nat) (cs:Array Value),off+k+l.length<=cs.size ->
   ((l.zipIdx k).foldl (fun (cs:Array Value) (x:Value×Nat)=>cs.setIfInBounds (off+x.2) x.1) cs).toList=cs.toList.take (off+k)++l++cs.toList.drop (off+k+l.length):=by
  intro l
  induction l with
  |nil=>simp_all
  |cons v l ih=>
   intro k cs hk;simp only[List.length_cons]at hk;simp only[List.zipIdx_cons,List.foldl_cons];rw[ih (k+1) _ (by grind)];simp only[Array.toList_setIfInBounds,List.length_cons];rw[List.drop_set_of_lt (by omega)];rw[show cs.toList.set (off+k) v=cs.toList.set (off+k) v from rfl,show List.take (off+(k+1)) (cs.toList.set (off+k) v)=List.take (off+k) cs.toList++[v]from by rw[show off+(k+1)=off+k+1 from by omega,List.take_add_one,List.take_set_of_le (by omega),List.getElem?_set_self (by grind)];rfl]
   grind
 have:=go new.toList 0 cells (by omega);rw[<- Array.foldl_toList,Array.toList_zipIdx];omega
theorem qf4 {xs ys zs n k}(hnk:n<=k)(h:Nod (xs++(ys++zs))):Nod ((xs.take n++ys++xs.drop k)++zs):=by
 unfold Nod at *;have hp:((xs.take n++ys++xs.drop k)++zs).Perm ((xs.take n++xs.drop k)++(ys++zs)):=by grind
 rw[(hp.filterMap id).nodup_iff];refine List.Nodup.sublist (List.Sublist.filterMap id (List.Sublist.append ?_ (List.Sublist.refl _))) h;have h2:(xs.drop k).Sublist (xs.drop n):=by grind
 calc (xs.take n++xs.drop k).Sublist (xs.take n++xs.drop n):=List.Sublist.append (List.Sublist.refl _) h2
  _=xs:=List.take_append_drop n xs
theorem YV {G w F place}:∀ (ps:List (Nat×List Cell)) (vs:List (Nat×Value)) (xss:List (List (Option Pl))) (xs:List (Option Pl)) (l l':List Cell) (us:List Value),
  zL G w F xs l us->qk9 G w F xss ps vs->Nod (xs++xss.flatten)->qbn place l ps=some l' ->
  ∃ xs' us',Instr.fill place us.toArray vs=some us'.toArray/\zL G w F xs' l' us'/\Dis xs'
 |[],[],[],xs,l,l',us,h,_,hn,e=>by simp only[qbn,aa]at e;subst e;exact⟨xs,us,rfl,h,ZN.2 (by simpa using hn)⟩
 |(i,cs)::ps,(j,V)::vs,ys::xss,xs,l,l',us,h,⟨hij,h1,h2⟩,hn,e=>by
  subst hij;simp only[qbn]at e;cases hp:place i with
  |none=>simp[hp]at e
  |some y=>
   obtain⟨off,size⟩:=y;simp only[hp]at e;split at e
   .
    rename_i hc;simp only[aC,aX]at hc;have hl:=h.len;have hl1:=h1.len;have hV:V.cells.size=cs.length:=by have:=hl1.2;simpa using this
    have hle:off+V.cells.size<=us.toArray.size:=by simp only[List.size_toArray];omega
    obtain⟨xs',us',a1,a2,a3⟩:=YV ps vs xss (xs.take off++ys++xs.drop (off+cs.length)) _ l' (us.take off++V.cells.toList++us.drop (off+cs.length))
     (((h.take off).append h1).append (h.drop _)) h2 (qf4 (by omega) (by simpa using hn)) e
    refine⟨xs',us',?_,a2,a3⟩;simp only[Instr.fill,hp];have hcond:(decide (V.cells.size≠size)||decide (off+V.cells.size>us.toArray.size))=false:=by simp only[Bool.or_eq_false_iff,decide_eq_false_iff_not,ne_eq,Decidable.not_not];omega
    rw[hcond];have hs:=splice us.toArray V.cells off hle;rw[hV]at hs;simp only[aT,if_false];rw[<- a1];congr 1;apply Array.ext';rw[hs]
   . cases e
 |[],_::_,_,_,_,_,_,_,h,_,_=>by cases ‹List (List (Option Pl))›<;>exact h.elim
 |[],[],_::_,_,_,_,_,_,h,_,_=>h.elim
 |_::_,[],_,_,_,_,_,_,h,_,_=>by cases ‹List (List (Option Pl))›<;>exact h.elim
 |_::_,_::_,[],_,_,_,_,_,h,_,_=>h.elim
end
section
variable [Glob]
theorem Qp {G G' w w' p q c u}(him:G'.im=G.im)(hw:∀ b,G.im b->w'.heap[b]? = w.heap[b]?)(hp:qw c=true)(ho:qy c=false)(h:Sh G w p c u):Sh G' w' q c u:=by
 cases c with
 |val v=>exact h
 |nil=>exact h
 |dead=>exact h
 |imm rows=>exact RelI.mono (fun b hb=>by grind) hw h
 |own zz rows=>simp[qy]at ho
 |_=>simp[qw]at hp
theorem qgT {G w F ts}(h:RelF G w F ts){d rows sz b cap w' vs T}(X:Nat->Nat->Option Pl)(hsize:w.heap.size<=w'.heap.size)(hold:∀ b',b'≠b->b'<w.heap.size->w'.heap[b']? = w.heap[b']?)(hb:b<w'.heap.size)(him:¬ G.im b)(hown:∀ k x,G.γ k=some x->x.b=b->k.path≠[]/\¬ Uses F k/\∀ r o s π,X r o=some s->k≠s.under π)(hold':b<w.heap.size->∃ k x,G.γ k=some x/\x.b=b)(hobj:w'.heap[b]? = some (.cells vs T (0,0)))(hout:Out w w')(hrow:∀ row∈rows,row.length=sz)(hcap:rows.length<=cap)(hvs:vs.size=cap*sz)(hcell:∀ r o c,cellAt rows r o=some c->qw c=true/\∃ u,vs[r*sz+o]? = some u /\
   match X r o with
   |none=>qy c=false/\∃ p,Sh G w p c u
   |some s=>Sh G w s c u/\Tree G w s c)(hX:∀ r o s,X r o=some s->∀ π,¬ Uses F (s.under π))(hinj:∀ r o r' o' s s' π π',X r o=some s->X r' o'=some s'->s.under π=s'.under π'->r=r'/\o=o'/\π=π'):
  ∃ G',RelF G' w' (F.putS (some d) (.c (.own sz rows))) (ts.setIfInBounds d (.slice (some ⟨b,0,none⟩) rows.length cap))/\Gain G w G' w':=by
 let V:Value:=.slice (some ⟨b,0,none⟩) rows.length cap
 let K:Key:=⟨.slot d,[(0,0)]⟩
 let hd:Hd:=⟨b,sz,rows.length,cap,false⟩
 let Y:Nat->Nat->Option (Option Pl):=fun r o=>(X r o).map some
 have hY:∀ r o s,Y r o=some (some s)↔X r o=some s:=fun r o s=>by simp[Y]
 have hYn:∀ r o,Y r o≠none->∃ s,X r o=some s:=fun r o hn=>by
  cases hx:X r o with
  |none=>grind
  |some s=>grind
 let F1:=(F.killR (.slot d)).put (some d) AV.deadv
 let ts1:=ts.setIfInBounds d V
 have dcell:∀ r o c,cellAt AV.deadv.rows r o=some c->c=.dead:=fun r o c e=>(one_cell e).2.2;have r1:RelF G w F1 ts1:=by
  refine(h.mapC (qP (.slot d))).put_flat ⟨trivial,fun r o c e=>?_⟩ (fun r o c zz rs e=>by grind)
  obtain⟨rfl,rfl,rfl⟩:=one_cell e;exact⟨V,rfl,.inl rfl⟩
 have fre:∀ π,π≠[]->¬ Uses F1 ⟨.slot d,π⟩:=fun π hπ=>vQ h hπ (fun r o c zz rs es e=>by grind) (fun r o c e k hk=>by rw[dcell r o c e]at hk;simp[deps]at hk);have uses1:∀ k,Uses F1 k->Uses F k:=fun k hu=>(Weak.mapC (qP (.slot d)) F).uses (Uses.put (fun r o c zz rs e=>by grind) (fun r o c e=>by rw[dcell r o c e];simp[deps]) hu);have hinjY:Inj Y:=fun r o r' o' s s' π π' e e' he=>hinj r o r' o' s s' π π' ((hY _ _ _).1 e) ((hY _ _ _).1 e') he;have r2:RelF (G.mv K Y) w F1 ts1:=r1.mv K hinjY (fun r o π _=>fre _ (by simp[K])) (fun r o s π e hu=>hX r o s ((hY _ _ _).1 e) π (uses1 _ hu))
 let G1:=G.mv K Y
 -- the block's own keys go
 let G2:Gh:={ G1 with γ:=fun k=>match G1.γ k with
  |some x=>if x.b=b then none else some x
  |none=>none }
 have g2:∀ k x,G2.γ k=some x->G1.γ k=some x/\x.b≠b:=by grind
 have g2':∀ k x,G1.γ k=some x->x.b≠b->G2.γ k=some x:=by grind
 have inv2:GInv G2 w:=⟨fun k k' x x' e e' hb=>r2.inv.inj k k' x x' (g2 k x e).1 (g2 k' x' e').1 hb,fun k x e=>r2.inv.lt k x (g2 k x e).1,r2.inv.imlt,r2.inv.glob⟩
 have r3:RelF G2 w F1 ts1:=by
  refine r2.ghost inv2 rfl rfl fun k hu=>?_;cases hk:G1.γ k with
  |none=>grind
  |some x=>
   have hne:x.b≠b:=by
    intro hxb;rcases YE G K Y k with⟨r,o,s,π,h1,h2,h3⟩|h1|⟨h1,h2⟩
    . grind
    . grind
    grind
   grind
 have heq:∀ b',G.im b'->w'.heap[b']? = w.heap[b']?:=fun b' hi=>hold b' (fun e=>him (e▸hi)) (h.inv.imlt b' hi);have r4:RelF G2 w' F1 ts1:=r3.same ⟨hsize,heq,fun k x e=>hold _ (g2 k x e).2 (inv2.lt k x e)⟩
 let G3:=G2.add K hd
 have g3:∀ k,k≠K->G3.γ k=G2.γ k:=fun k hk=>by simp only[G3,Gh.add,aF hk]
 have g3K:G3.γ K=some hd:=by simp[G3,Gh.add]
 have inv3:GInv G3 w':=by
  refine⟨fun k k' x x' e e' hbb=>?_,fun k x e=>?_,fun b' hi=>Nat.lt_of_lt_of_le (h.inv.imlt b' hi) hsize,fun b hb=>⟨(h.inv.glob b hb).1,(heq b (h.inv.glob b hb).1).trans (h.inv.glob b hb).2⟩⟩
  .
   by_cases hk:k=K
   . grind
   . by_cases hk':k'=K
     . grind
     . rw[g3 k hk]at e;rw[g3 k' hk']at e';exact inv2.inj k k' x x' e e' hbb
  . by_cases hk:k=K
    . grind
    . rw[g3 k hk]at e;exact Nat.lt_of_lt_of_le (inv2.lt k x e) hsize
 have r5:RelF G3 w' F1 ts1:=r4.ghost inv3 rfl rfl fun k hu=>g3 k (by grind)
 -- what is moved
 have γm:∀ r o s π x,X r o=some s->G.γ (s.under π)=some x->G3.γ ((⟨K,r,o⟩:Pl).under π)=some x/\w'.heap[x.b]? = w.heap[x.b]?:=by intro r o s π x hx e;have hne:x.b≠b:=fun hxb=>(hown _ x e hxb).2.2 r o s π hx rfl;refine⟨?_,hold _ hne (h.inv.lt _ x e)⟩;rw[g3 _ (by intro hk;have:=congrArg (fun k=>k.path.length) hk;simp[Pl.under,K]at this)];refine g2' _ x ?_ hne;rw[Ze G K ((hY r o s).2 hx)];exact e
 have γn:∀ r o s π,X r o=some s->G.γ (s.under π)=none->G3.γ ((⟨K,r,o⟩:Pl).under π)=none:=by
  intro r o s π hx e;rw[g3 _ (by intro hk;have:=congrArg (fun k=>k.path.length) hk;simp[Pl.under,K]at this)];have:G1.γ ((⟨K,r,o⟩:Pl).under π)=none:=by rw[Ze G K ((hY r o s).2 hx)];exact e
  grind
 have carry:∀ r o s c u,X r o=some s->qw c=true->Sh G w s c u->Tree G w s c->Sh G3 w' ⟨K,r,o⟩ c u/\Tree G3 w' ⟨K,r,o⟩ c:=by
  intro r o s c u hx hp hs ht;constructor
  .
   cases c with
   |own zz rs=>
    rcases hs with⟨e1,e2,e3⟩|⟨x,e1,e2,e3,e4⟩
    . refine .inl ⟨?_,e2,e3⟩;rw[<- Pl.under_nil]at e1 |-
      grind
    refine .inr ⟨x,?_,e2,e3,e4⟩;rw[<- Pl.under_nil]at e1 |-
    grind
   |val v=>exact hs
   |nil=>exact hs
   |dead=>exact hs
   |imm rs=>exact Qp (G:=G) (G':=G3) (p:=s) rfl heq rfl rfl hs
   |_=>simp[qw]at hp
  .
   intro rest rs e;rcases ht rest rs e with⟨g1,g2,_⟩|⟨x,vs',T',e1,e2,e3,e4,e5,e6,e7,e8,e9⟩
   . exact .inl ⟨γn r o s rest hx g1,g2,by simp[Pl.under]⟩
   obtain⟨m1,m2⟩:=γm r o s rest x hx e1;have hpath:(s.under rest).path≠[]:=by simp[Pl.under]
   refine .inr ⟨x,vs',T',m1,e2,e3,by grind,e5,e6,e7,fun _=>e8 hpath,fun r' o' c' hc'=>?_⟩;obtain⟨u',hu',hs'⟩:=e9 r' o' c' hc';refine⟨u',hu',?_⟩;have hp':=(e8 hpath).2 r' o' c' hc';cases c' with
   |own zz rs'=>
    have k1:(⟨(⟨K,r,o⟩:Pl).under rest,r',o'⟩:Pl).toKey=(⟨K,r,o⟩:Pl).under (rest++[(r',o')]):=by simp[Pl.toKey,Pl.under]
    have k2:(⟨s.under rest,r',o'⟩:Pl).toKey=s.under (rest++[(r',o')]):=by simp[Pl.toKey,Pl.under]
    rcases hs' with⟨f1,f2⟩|⟨y,f1,f2⟩
    . rw[k2]at f1;exact .inl ⟨by grind,f2⟩
    refine .inr ⟨y,?_,f2⟩
    grind
   |val v=>exact hs'
   |nil=>exact hs'
   |dead=>exact hs'
   |imm rs'=>exact Qp (G:=G) (G':=G3) (p:=s) rfl heq rfl rfl hs'
   |_=>simp[qw]at hp'
 have cells:∀ r o c,cellAt rows r o=some c->qw c=true/\∃ u,vs[r*sz+o]? = some u/\Sh G3 w' ⟨K,r,o⟩ c u/\Tree G3 w' ⟨K,r,o⟩ c:=by
  intro r o c e;obtain⟨hp,u,hu,hs⟩:=hcell r o c e;refine⟨hp,u,hu,?_⟩;split at hs
  . obtain⟨ho,p,hs⟩:=hs;exact⟨Qp (G:=G) (G':=G3) (p:=p) rfl heq hp ho hs,Tree.flat (by rintro zz rs rfl;simp[qy]at ho)⟩
  grind
 refine⟨G3,?_,?_⟩
 .
  have r6:RelF G3 w' (F1.put (some d) (.c (.own sz rows))) (ts1.setIfInBounds d V):=by
   refine r5.put ⟨trivial,fun r o c e=>?_⟩ (fun π rs hπ e=>?_)
   . obtain⟨rfl,rfl,rfl⟩:=one_cell e;exact⟨V,rfl,.inr (.inr ⟨hd,g3K,rfl,rfl,rfl,rfl⟩)⟩
   .
    cases π with
    |nil=>grind
    |cons y π=>
     obtain⟨r,o⟩:=y;simp only[getR]at e;cases hc:cellAt (AV.c (Cell.own sz rows)).rows r o with
     |none=>grind
     |some c=>
      obtain⟨rfl,rfl,rfl⟩:=one_cell hc;simp only[hc]at e;cases π with
      |nil=>
       simp only[getR,aa]at e;subst e;exact .inr ⟨hd,vs,T,g3K,rfl,him,hobj,hrow,by rw[hvs];exact Nat.mul_le_mul_right _ hcap,hcap,fun _=>⟨hvs,fun r o c e=>(cells r o c e).1⟩,
        fun r o c e=>let ⟨_,u,hu,hs,_⟩:=cells r o c e;⟨u,hu,hs⟩⟩
      |cons y' π=>
       obtain⟨r',o'⟩:=y';simp only[getR]at e;cases hc':cellAt rows r' o' with
       |none=>grind
       |some c'=>
        cases c' with
        |own zz rs'=>simp only[hc']at e;obtain⟨_,u,_,_,ht⟩:=cells r' o' _ hc';exact ht π rs e
        |_=>grind
  have e1:(F.putS (some d) (.c (.own sz rows)))=F1.put (some d) (.c (.own sz rows)):=by simp only[Fr.putS];rw[aD (by simp[AV.c,qy])];exact(qc9 _ _ _ _).symm
  have e2:ts1.setIfInBounds d V=ts.setIfInBounds d V:=by grind
  grind
 .
  refine⟨hsize,fun _ h=>h,heq,fun b' hlt hn=>⟨hold b' (fun e=>?_) hlt,fun h=>h⟩,fun k x e=>?_,fun i=>?_,hout,fun d' hd'=>⟨hd',?_⟩⟩
  . grind
  . by_cases hk:k=K
    . grind
    . rw[g3 k hk]at e;exact(Gain.mv K Y:Gain G w G1 w).own k x (g2 k x e).1
  . rw[g3 _ (by simp[K])];have e1:G1.γ ⟨.par i,[]⟩=G.γ ⟨.par i,[]⟩:=qaF rfl
    grind
  . rw[g3 _ (by simp[K])];have e1:G1.γ ⟨.loc d',[]⟩=G.γ ⟨.loc d',[]⟩:=qaF rfl
    grind
end
section
variable [Glob]
theorem qf9 (a:Array Value)(n k)(ha:a.size=n)(hn:0<n):
  ((Array.range (k*n)).map (fun i=>a[i % a.size]!)).toList=(List.replicate k a.toList).flatten:=by
 rw[Array.toList_map,Array.toList_range,ha]
 induction k with
 |zero=>simp
 |succ k ih=>
  rw[Nat.succ_mul,Nat.add_comm,List.range_add,List.map_append,List.replicate_succ,List.flatten_cons,<- ih,List.map_map];congr 1
  . apply List.ext_getElem?;intro i;simp only[aH,aQ];by_cases hi:i<n
    . simp[hi,Nat.mod_eq_of_lt hi,ha]
    grind
  . apply List.map_congr_left;simp_all
theorem ZO (sz):∀ (n:Nat) (l:List Cell),(chunk sz n l).length=n
 |0,_=>rfl
 |n+1,l=>by simp[chunk,ZO sz n]
theorem qds (sz):∀ (n:Nat) (l:List Cell),l.length=n*sz->∀ row∈chunk sz n l,row.length=sz
 |0,_,_,row,h=>by simp[chunk]at h
 |n+1,l,hl,row,h=>by
  have hl':l.length=n*sz+sz:=by grind
  rcases List.mem_cons.1 h with rfl|h
  . grind
  . exact qds sz n _ (by grind) row h
theorem qbQ (sz):∀ (n:Nat) (l:List Cell) {r o:Nat} {c:Cell},cellAt (chunk sz n l) r o=some c->r<n/\o<sz/\l[r*sz+o]? = some c
 |0,_,r,o,c,h=>by simp[chunk,cellAt]at h
 |n+1,l,r,o,c,h=>by
  cases r with
  |zero=>
   obtain⟨row,h1,h2⟩:=qc.1 h;simp only[chunk,aI,aa]at h1;subst h1;rw[List.getElem?_take]at h2;split at h2
   . exact⟨by omega,by assumption,by simpa using h2⟩
   . cases h2
  |succ r=>
   have h':cellAt (chunk sz n (l.drop sz)) r o=some c:=by simpa [chunk,cellAt]using h
   obtain⟨a1,a2,a3⟩:=qbQ sz n _ h';refine⟨by omega,a2,?_⟩;rw[List.getElem?_drop]at a3;rw[<- a3];congr 1;rw[Nat.succ_mul];omega
theorem qch {w:World}(o b)(hb:b<w.heap.size):(w.alloc o).heap[b]? = w.heap[b]?:=by rw[heap_alloc,aF (by omega)]
theorem qhB {G w}(inv:GInv G w):¬ G.im w.heap.size:=fun hi=>Nat.lt_irrefl _ (inv.imlt _ hi)
theorem qfJ {cx G w F a op ty pos after guard}(h:RelF G w F a.tmps){V o}(run:(execOp a.eval ⟨none,op,ty,pos,after,guard⟩).run cx.P w=.ok (.value V) (w.alloc o))(ho:∀ vs T fr,o=.cells vs T fr->fr=(0,0)):Ran cx G w a ⟨none,op,ty,pos,after,guard⟩ F:=⟨_,_,G,_,run,.inl rfl,h.same (Same.alloc h.inv _),Gain.same (by simp[size_alloc]) (fun b hb=>qch _ b hb) h.inv (Out.alloc _ _)⟩
theorem qas {cx G w F F' a o t len parts}(ho:o.op=.buildSlice t len parts)(h:RelF G w F a.tmps)(e:loud cx F o=some F'):Ran cx G w a o F':=by
 obtain⟨dst,op,ty,pos,after,guard⟩:=o;change op=_ at ho;subst ho;unfold loud at e;simp only at e;split at e
 .
  rename_i elem hu;split at e
  .
   rename_i sz zl ps F1 hsz hz ht;split at e
   .
    rename_i hcond;simp only[aC,aX]at hcond;split at e
    .
     rename_i l hf;split at e
     .
      rename_i hpure;simp only[aa]at e;subst e;obtain⟨z,hzr,rfl,hp,hsz'⟩:=Yj hz;have hzs:z.cells.size=sz:=by rw[hsz]at hsz';have:=aR hsz';simpa using this.symm
      obtain⟨im',xss,a1,a2,_,a4,a5,_⟩:=xJ _ (parts.toList.map fun (i,x)=>(i,a.eval x)) ps G F F1 h (by simp) (fun j x X hx hX=>by
       rw[aH]at hx hX;cases hj:parts.toList[j]? with
       |none=>simp[hj]at hx
       |some y=>simp only[hj,av,aa]at hx hX;subst hx;subst hX;exact⟨rfl,qx h y.2⟩) ht
      have zl0:=qf9 z.cells sz len hzs hcond.2;have hmap:(List.replicate len (z.cells.toList.map qm)).flatten=((List.replicate len z.cells.toList).flatten).map qm:=by rw[List.map_flatten,List.map_replicate]
      have hpl:(((List.replicate len z.cells.toList).flatten).map qm).all QK=true:=by rw[<- hmap,List.all_eq_true];intro c hc;obtain⟨l0,h1,h2⟩:=List.mem_flatten.1 hc;rw[(List.mem_replicate.1 h1).2]at h2;exact List.all_eq_true.1 hp c h2
      rw[hmap]at hf;obtain⟨xs',us',b1,b2,b3⟩:=YV ps _ xss _ _ l _ (Yq hpl { G with im:=im' } w F1) a4 (by
       unfold Nod;rw[List.filterMap_append];have:(List.replicate ((List.replicate len z.cells.toList).flatten).length (none:Option Pl)).filterMap id=[]:=by rw[List.filterMap_eq_nil_iff];intro x hx;rw[(List.mem_replicate.1 hx).2];rfl
       rw[this];exact a5) hf
      have hlen:=b2.len;have hus:us'.length=len*sz:=by
       rw[hlen.2];have go:∀ (ps:List (Nat×List Cell)) (l l':List Cell),qbn (fun i=>some (i*sz,sz)) l ps=some l'->l'.length=l.length:=by
        intro ps
        induction ps with
        |nil=>intro l l' e;simp only[qbn,aa]at e;rw[e]
        |cons p ps ih=>
         obtain⟨i,cs⟩:=p;intro l l' e;simp only[qbn]at e;split at e
         . rename_i hc;simp only[aC,aX]at hc;rw[ih _ _ e];simp only[List.length_append,List.length_take,List.length_drop];omega
         . cases e
       rw[go _ _ _ hf];simp[hzs]
      have run:(execOp a.eval ⟨dst,.buildSlice t len parts,ty,pos,after,guard⟩).run cx.P w=.ok (.value (.slice (some ⟨w.heap.size,0,none⟩) len len)) (w.alloc (.cells us'.toArray elem)):=by
       have hbig:¬ (len*sz>2 ^ 24):=by omega
       have hfill:Instr.fill (fun i=>some (i*sz,sz)) ((Array.range (len*sz)).map (fun i=>z.cells[i % z.cells.size]!)) (parts.map fun (i,x)=>(i,a.eval x)).toList=some us'.toArray:=by rw[Array.toList_map,<- b1];congr 1;apply Array.ext';rw[zl0]
       simp only[execOp,Instr.buildSlice,aK,run_underlying hu,ay,qK hsz,aF hbig];by_cases h0:len*sz=0
       . have hl0:len=0:=by rcases Nat.mul_eq_zero.1 h0 with h|h<;>omega
         subst hl0;have he:∀ f:Nat->Value,(Array.range (0*sz)).map f = #[]:=by intro f;apply Array.ext';simp
         rw[he]at hfill;simp only[aD h0,he,aK,aU,ay];rw[hfill];rfl
       . simp only[aF h0,aK,aU,hzr,ay];rw[hfill];rfl
      cases dst with
      |none=>obtain⟨n,V,G',w',c1,c2,c3,c4⟩:=qfJ (cx:=cx) a1 run (fun _ _ _ e=>by cases e;rfl);exact⟨n,V,G',w',c1,c2,c3,a2.trans c4⟩
      |some d=>
       obtain⟨G',c1,c2⟩:=qgT (b:=w.heap.size) (cap:=len) (w':=w.alloc (.cells us'.toArray elem)) (vs:=us'.toArray) (T:=elem) a1 (d:=d) (rows:=chunk sz len l) (sz:=sz)
        (fun r o=>if r<len/\o<sz then(xs'[r*sz+o]?).join else none)
        (by simp[size_alloc]) (fun b' hne hlt=>qch _ b' hlt) (by simp[size_alloc]) (qhB a1.inv)
        (fun k x hk hx=>absurd (a1.inv.lt k x hk) (by omega)) (fun hlt=>absurd hlt (Nat.lt_irrefl _)) (by rw[heap_alloc];simp) (Out.alloc _ _)
        (qds sz len l (by rw[<- hlen.2];exact hus)) (by rw[ZO];exact Nat.le_refl _) (by simpa using hus)
        (fun r o c hc=>by
         obtain⟨k1,k2,k3⟩:=qbQ sz len l hc;obtain⟨x,u,k4,k5,k6⟩:=b2.get k3;refine⟨List.all_eq_true.1 hpure c (aM k3),u,by simpa using k5,?_⟩;simp only[k1,k2,and_self,if_true,k4,Option.join_some];cases x with
         |none=>exact⟨zV.1 k6.1,⟨⟨.res,[]⟩,0,0⟩,k6.2.2.2.2 _⟩
         |some s=>exact⟨k6.2.2.1,k6.2.2.2.1⟩)
        (fun r o s hs=>by
         split at hs
         . rename_i hro;cases hx:xs'[r*sz+o]? with
           |none=>simp[hx]at hs
           |some x=>
            simp only[hx,Option.join_some]at hs;subst hs;have hlt:r*sz+o<l.length:=by rw[<- hlen.1];exact(az.1 hx).1
            obtain⟨x',u,k4,k5,k6⟩:=b2.get (ax hlt);rw[hx]at k4;cases k4;exact k6.2.2.2.2
         . cases hs)
        (fun r o r' o' s s' π π' hs hs' hπ=>by
         split at hs
         .
          rename_i hro;split at hs'
          . rename_i hro';have src:∀ (i:Nat) (s:Pl),(xs'[i]?).join=some s->xs'[i]? = some (some s)/\∃ (k a b:Nat),s=(⟨⟨.slot k,[]⟩,a,b⟩:Pl):=by
             intro i s hs;cases hx:xs'[i]? with
             |none=>simp[hx]at hs
             |some x=>
              simp only[hx,Option.join_some]at hs;subst hs;have hlt:i<l.length:=by rw[<- hlen.1];exact(az.1 hx).1
              obtain⟨x',u,k4,k5,k6⟩:=b2.get (ax hlt);rw[hx]at k4;cases k4;exact⟨rfl,k6.1⟩
            obtain⟨m1,k,x,y,rfl⟩:=src _ _ hs;obtain⟨m2,k',x',y',rfl⟩:=src _ _ hs';simp only[Pl.under,List.nil_append,Key.mk.injEq,Root.slot.injEq,List.cons.injEq,ai]at hπ;obtain⟨rfl,⟨rfl,rfl⟩,rfl⟩:=hπ;have hi:=b3 _ _ _ m1 m2;have hsz0:0<sz:=hcond.2;have h1:(r*sz+o) / sz=r:=by rw[Nat.mul_comm,Nat.mul_add_div hsz0,Nat.div_eq_of_lt hro.2,Nat.add_zero]
            have h2:(r'*sz+o') / sz=r':=by rw[Nat.mul_comm,Nat.mul_add_div hsz0,Nat.div_eq_of_lt hro'.2,Nat.add_zero]
            have hr:r=r':=by rw[<- h1,<- h2,hi]
            subst hr;exact⟨rfl,by omega,rfl⟩
          . cases hs'
         . cases hs)
       rw[ZO]at c1;exact⟨_,_,G',_,run,.inl rfl,c1,a2.trans c2⟩
     . cases e
    . cases e
   . cases e
  . cases e
 . cases e
end
section
variable [Glob]
theorem run_places {P}{fields:Array Field}(h:fields.all (fun f=>(qQ P f.type).isSome)=true)(w):
  (fields.mapM fun f=>do pure (f.offset,<- sizeOf f.type):Sem (Array (Nat×Nat))).run P w=.ok (fields.map fun f=>(f.offset,(qQ P f.type).getD 0)) w:=by
 have go:∀ l:List Field,(∀ f∈l,(qQ P f.type).isSome=true) ->
   (l.mapM fun f=>(do pure (f.offset,<- sizeOf f.type):Sem (Nat×Nat))).run P w=.ok (l.map fun f=>(f.offset,(qQ P f.type).getD 0)) w:=by
  intro l
  induction l with
  |nil=>simp_all
  |cons f l ih=>intro hl;obtain⟨n,hn⟩:=Option.isSome_iff_exists.1 (hl f (by simp));simp only[List.mapM_cons,aK,qK hn,aU,ay,ih (fun f hf=>hl f (aB _ hf)),List.map_cons,hn,Option.getD_some]
 rw[Array.mapM_eq_mapM_toList,<- bind_pure_comp];simp only[aK,go fields.toList (fun f hf=>by
  rw[Array.all_eq_true_iff_forall_mem]at h
  grind),ay,aU]
 congr 1
 grind
theorem qet {cx G w F F' a o t parts}(ho:o.op=.build t parts)(h:RelF G w F a.tmps)(e:loud cx F o=some F'):Ran cx G w a o F':=by
 obtain⟨dst,op,ty,pos,after,guard⟩:=o;change op=_ at ho;subst ho;unfold loud at e;simp only at e;split at e
 .
  rename_i l place ps F1 hz hpl ht;simp only[aG]at e;obtain⟨l',hf,rfl⟩:=e;obtain⟨z,hzr,rfl,hp,_⟩:=Yj hz;obtain⟨im',xss,a1,a2,_,a4,a5,_⟩:=xJ _ (parts.toList.map fun (i,x)=>(i,a.eval x)) ps G F F1 h (by simp) (fun j x X hx hX=>by
   rw[aH]at hx hX;cases hj:parts.toList[j]? with
   |none=>grind
   |some y=>simp only[hj,av,aa]at hx hX;subst hx;subst hX;exact⟨rfl,qx h y.2⟩) ht
  obtain⟨xs',us',b1,b2,b3⟩:=YV ps _ xss _ _ l' _ (Yq hp { G with im:=im' } w F1) a4 (by
   unfold Nod;rw[List.filterMap_append];have:(List.replicate z.cells.toList.length (none:Option Pl)).filterMap id=[]:=by simp_all
   rw[this];exact a5) hf
  have run:(execOp a.eval ⟨dst,.build t parts,ty,pos,after,guard⟩).run cx.P w=.ok (.value (.agg us'.toArray)) w:=by
   have hfill:Instr.fill place z.cells (parts.map fun (i,x)=>(i,a.eval x)).toList=some us'.toArray:=by simp_all
   unfold placeOf at hpl;split at hpl
   .
    rename_i fields hu;split at hpl
    .
     rename_i hall;simp only[aa]at hpl;have hpl':place=fun i=>(fields.map fun f=>(f.offset,(qQ cx.P f.type).getD 0))[i]?:=by
      rw[<- hpl];funext i;rw[Array.getElem?_map];cases hi:fields[i]? with
      |none=>rfl
      |some f=>
       rw[Array.all_eq_true_iff_forall_mem]at hall;obtain⟨n,hn⟩:=Option.isSome_iff_exists.1 (hall f (Array.mem_of_getElem? hi))
       grind
     rw[hpl']at hfill;simp only[execOp,Instr.build,aK,hzr,ay,run_underlying hu,run_places hall];simp_all
    grind
   . rename_i n elem hu;simp only[aG]at hpl;obtain⟨sz,hsz,hpl⟩:=hpl;rw[<- hpl]at hfill;simp only[execOp,Instr.build,aK,hzr,ay,run_underlying hu,qK hsz];simp_all
   grind
  cases dst with
  |none=>exact⟨_,_,_,w,run,.inl rfl,a1,a2⟩
  |some d=>obtain⟨G',c1,c2⟩:=putL (d:=d) a1 b2 b3 (v:=.ag l') (V:=.agg us'.toArray) (.inl ⟨rfl,rfl⟩);exact⟨_,_,G',w,run,.inl rfl,c1,a2.trans c2⟩
 grind
end
section
variable [Glob]
theorem qgt {G w F F' ts c V rows}(h:RelF G w F ts)(hs:∀ p,Sh G w p c V)(e:frzC F c=some (rows,F')):
  ∃ im',RelF { G with im:=im' } w F' ts/\Gain G w { G with im:=im' } w/\RelI im' w (.imm rows) V:=by
 unfold frzC at e;split at e
 . simp only[aa,ai]at e;obtain⟨rfl,rfl⟩:=e;have hv:V=.slice none 0 0:=hs ⟨⟨.res,[]⟩,0,0⟩;subst hv;exact⟨G.im,h,Gain.refl G w,.immE none 0⟩
 . simp only[aa,ai]at e;obtain⟨rfl,rfl⟩:=e;exact⟨G.im,h,Gain.refl G w,hs ⟨⟨.res,[]⟩,0,0⟩⟩
 .
  rename_i p;split at e
  . rename_i zz rs hg;simp only[aG,ai]at e;obtain⟨F1,hset,rfl,rfl⟩:=e;obtain⟨a1,a2,a3,a4⟩:=h.freezeAt hg (Fr.setTo hset);exact⟨_,a1,a2,a4 V (yD h hs hg (fun hn=>hn.1 _ _ rfl)).1⟩
  grind
 grind
theorem qiL {im w rows V}(h:RelI im w (.imm rows) V){l k}(hlk:l<=k)(hk:k<=rows.length){sz}(hsz:rows.head?.all (·.length==sz)=true):
  ∃ a cap,V=.slice a rows.length cap/\rows.length<=cap/\RelI im w (.imm ((rows.take k).drop l)) (.slice (if cap=l then a else a.map (·.add (l*sz))) (k-l) (cap-l)):=by
 have hlen:((rows.take k).drop l).length=k-l:=by grind
 cases h with
 |immE a cap=>
  have h1:k=0:=by grind
  subst h1;have h2:l=0:=by omega
  subst h2;refine⟨a,cap,rfl,Nat.zero_le _,?_⟩;simpa using RelI.immE _ _
 |imm _ b off cap sz' vs T fr us hb hi hcap hr hv hx=>
  refine⟨some ⟨b,off,none⟩,cap,rfl,hcap,?_⟩;cases hd:(rows.take k).drop l with
  |nil=>
   rw[hd]at hlen;have:k-l=0:=by grind
   rw[this];exact .immE _ _
  |cons row rest=>
   have hne:rows≠[]:=by grind
   have hszz:sz'=sz:=by
    cases rows with
    |nil=>grind
    |cons r0 rs=>grind
   subst hszz;rw[<- hd,<- hlen];have hcl:cap≠l:=by grind
   rw[aF hcl];simp only[av,zb];have cell:∀ r o c,cellAt ((rows.take k).drop l) r o=some c->cellAt rows (l+r) o=some c:=by
    intro r o c hc;obtain⟨row,h1,h2⟩:=qc.1 hc;rw[List.getElem?_drop,List.getElem?_take]at h1;split at h1
    . exact qc.2 ⟨row,h1,h2⟩
    grind
   refine .imm _ b (off+l*sz') (cap-l) sz' vs T fr (fun r o=>us (l+r) o) hb hi (by omega) (fun row hm=>hr row (List.mem_of_mem_take (List.mem_of_mem_drop hm))) (fun r o c hc=>?_) (fun r o c hc=>hx _ _ _ (cell r o c hc))
   grind
theorem qdi {P w k}{n:Int}{y:Nat}{code}(h0:0<=n)(h1:n<=y):(Instr.sliceBound (.int k n) y code).run P w=.ok n.toNat w:=by simp only[Instr.sliceBound,asIntOf,aK,aU,ay];simp_all
theorem qem {cx G w F F' a o t x lo hi}(ho:o.op=.slice t x lo hi none)(h:RelF G w F a.tmps)(e:loud cx F o=some F'):Ran cx G w a o F':=by
 obtain⟨dst,op,ty,pos,after,guard⟩:=o;change op=_ at ho;subst ho;unfold loud at e;simp only at e;split at e
 .
  rename_i elem hu;split at e
  .
   rename_i rows F1 sz hf hsz;split at e
   .
    rename_i l k hl hk;split at e
    .
     rename_i hcond;simp only[aa]at e;subst e;obtain⟨h0,h1,h2,h3⟩:=hcond;have hs:∀ p,Sh G w p (((F.ev x).cell).getD .dead) (a.eval x):=by
      cases hc:(F.ev x).cell with
      |none=>rw[hc]at hf;simp[frzC]at hf
      |some c=>
       rcases Zh (qx h x) hc with rfl|hh
       . rw[hc]at hf;simp[frzC]at hf
       grind
     obtain⟨im',a1,a2,a3⟩:=qgt h hs hf;obtain⟨l,rfl⟩:=Int.eq_ofNat_of_zero_le h0;obtain⟨k,rfl⟩:=Int.eq_ofNat_of_zero_le (Int.le_trans h0 h1);obtain⟨ad,cap,hV,hcap,hrel⟩:=qiL a3 (l:=l) (k:=k) (by omega) (by omega) h3;have run:(execOp a.eval ⟨dst,.slice t x lo hi none,ty,pos,after,guard⟩).run cx.P w=.ok (.value (.slice (if cap=l then ad else ad.map (·.add (l*sz))) (k-l) (cap-l))) w:=by
      have hlo:∀ w,(match lo.map a.eval with
        |some v=>Instr.sliceBound v k BoundsCode.sliceB
        |none=>pure 0:Sem Nat).run cx.P w=.ok l w:=by
       intro w;cases lo with
       |none=>
        simp only[aa]at hl;have:l=0:=by omega
        subst this;rfl
       |some y=>simp only at hl;obtain⟨kk,hkk⟩:=xD (qx h y) hl;simp only[av,hkk];rw[qdi (by omega) (by omega)];simp
      have hhi:∀ w,(match hi.map a.eval with
        |some v=>Instr.sliceBound v cap BoundsCode.sliceAcap
        |none=>pure rows.length:Sem Nat).run cx.P w=.ok k w:=by
       intro w;cases hi with
       |none=>
        simp only[aa]at hk;have:k=rows.length:=by omega
        simp_all
       |some y=>simp only at hk;obtain⟨kk,hkk⟩:=xD (qx h y) hk;simp only[av,hkk];rw[qdi (by omega) (by omega)];simp
      simp only[execOp,Instr.sliceAt,aK,run_underlying hu,ay,Instr.slice,hV,Instr.sliceBounds,Option.map_none,aU];cases hi with
      |none=>
       simp only[Option.map_none]at hhi |-;have hk':k=rows.length:=by grind
       subst hk';cases lo with
       |none=>
        have:l=0:=by grind
        subst this;simp[aK,aU,ay,qK hsz]
       |some y=>have:=hlo w;simp only[av]at this;simp[aK,aU,ay,qK hsz,this]
      |some z=>
       have h5:=hhi w;simp only[av]at h5;cases lo with
       |none=>
        have:l=0:=by grind
        subst this;simp[aK,aU,ay,qK hsz,h5]
       |some y=>have:=hlo w;simp only[av]at this;simp[aK,aU,ay,qK hsz,this,h5]
     refine⟨_,_,_,w,run,.inl rfl,putO a1 (RelV.c (.inr ⟨⟨by grind,by grind⟩,fun p=>hrel⟩)),a2⟩
    grind
   grind
  grind
 . simp only[aG]at e;obtain⟨v,hv,rfl⟩:=e;obtain⟨V,hV,hr⟩:=zF h qeU hv;exact⟨_,V,G,w,hV,.inl rfl,putO h hr,Gain.refl G w⟩
end
section
variable [Glob]
theorem vC (b):∀ (news:List Value) (o:Nat) (w:World),(w.setCells b o news).heap.size=w.heap.size
 |[],_,_=>rfl
 |v::news,o,w=>by rw[World.setCells,vC b news,size_setCell]
theorem Out.setCells (b):∀ (news:List Value) (o:Nat) (w:World),Out w (w.setCells b o news)
 |[],_,w=>.refl w
 |v::news,o,w=>by rw[World.setCells];exact(Out.setCell w _ v).trans (Out.setCells b news (o+1) _)
theorem XK {b T fr}:∀ (news:List Value) (o:Nat) (w:World) (vs:Array Value),w.heap[b]? = some (.cells vs T fr)->o+news.length<=vs.size ->
  ∃ vs',(w.setCells b o news).heap[b]? = some (.cells vs' T fr)/\vs'.size=vs.size/\(∀ j,(j<o\/o+news.length<=j)->vs'[j]? = vs[j]?)/\(∀ j,j<news.length->vs'[o+j]? = news[j]?) /\
   ∀ b',b'≠b->(w.setCells b o news).heap[b']? = w.heap[b']?
 |[],o,w,vs,h,_=>⟨vs,h,rfl,fun _ _=>rfl,fun j hj=>by simp at hj,fun _ _=>rfl⟩
 |v::news,o,w,vs,h,hl=>by
  simp only[List.length_cons]at hl;have h1:=heap_setCell h v (i:=o);obtain⟨vs',a1,a2,a3,a4,a5⟩:=XK news (o+1) (w.setCell ⟨b,o,none⟩ v) (vs.setIfInBounds o v) (by rw[h1,aD rfl]) (by simp;omega);refine⟨vs',a1,by rw[a2];simp,fun j hj=>?_,fun j hj=>?_,fun b' hb=>?_⟩
  . simp only[List.length_cons]at hj;rw[a3 j (by omega),aW,aF (by omega)]
  . cases j with
    |zero=>rw[Nat.add_zero,a3 o (by omega),aW,aD rfl,aD (by omega)];rfl
    |succ j=>simp only[List.length_cons]at hj;have:=a4 j (by omega);rw[show o+(j+1)=o+1+j from by omega,this];rfl
  . rw[World.setCells,a5 b' hb,h1,aF hb]
theorem qmL {u}(h:oneC u=true):u.oneCell'=true:=by cases u<;>first|rfl|simp[oneC]at h
theorem RelI.sh {G w c u}(h:RelI G.im w c u)(p):Sh G w p c u/\qw c=true/\qy c=false:=by
 cases h with
 |val v h=>exact⟨⟨rfl,h⟩,rfl,rfl⟩
 |nil=>exact⟨rfl,rfl,rfl⟩
 |immE a cap=>exact⟨.immE a cap,rfl,rfl⟩
 |imm rows b off cap sz vs T fr us hb hi hcap hsz hv hr=>exact⟨.imm rows b off cap sz vs T fr us hb hi hcap hsz hv hr,rfl,rfl⟩
 |dead v h=>exact⟨h,rfl,rfl⟩
theorem qaY {rows size}(hs:0<size)(hrow:∀ row∈rows,row.length=size){f:Nat->Option Value}(hf:∀ r o c,cellAt rows r o=some c->∃ u,f (r*size+o)=some u/\oneC u=true):
  ∃ news:List Value,news.length=rows.length*size/\(∀ (j:Nat) u,news[j]? = some u->f j=some u)/\(∀ u∈news,u.oneCell'=true)/\∀ r o c,cellAt rows r o=some c->∃ u,f (r*size+o)=some u/\news[r*size+o]? = some u:=by
 have cell:∀ j,j<rows.length*size->∃ c,cellAt rows (j / size) (j % size)=some c/\j / size*size+j % size=j:=by
  intro j hj;have h1:j / size<rows.length:=by rw[Nat.div_lt_iff_lt_mul hs];exact hj
  have h2:j % size<(rows[j / size]).length:=by rw[hrow _ (List.getElem_mem h1)];exact Nat.mod_lt _ hs
  refine⟨(rows[j / size])[j % size],qc.2 ⟨_,ax h1,ax h2⟩,?_⟩;have:=Nat.div_add_mod j size
  grind
 let news:=(List.range (rows.length*size)).map fun j=>(f j).getD Go.undef
 have hat:∀ (j:Nat) u,news[j]? = some u->j<rows.length*size/\f j=some u/\oneC u=true:=by grind
 refine⟨news,by grind,fun j u hj=>(hat j u hj).2.1,fun u hu=>?_,fun r o c hc=>?_⟩
 . obtain⟨j,hj⟩:=List.getElem?_of_mem hu;exact qmL (hat j u hj).2.2
 .
  obtain⟨u,hu,_⟩:=hf r o c hc;refine⟨u,hu,?_⟩;obtain⟨row,h1,h2⟩:=qc.1 hc;have hr:=(az.1 h1).1;have ho:o<size:=by grind
  have hlt:r*size+o<rows.length*size:=by
   have:(r+1)*size<=rows.length*size:=Nat.mul_le_mul_right _ hr
   grind
  grind
theorem qxa {P:Program}{t1 e1}(h:srcU (P.underlying t1)=some (.slice e1)):(∃ e',P.underlying t1=some (.slice e'))\/P.underlying t1=some .string:=by
 unfold srcU at h;split at h
 . rename_i h1;exact .inr h1
 . exact .inl ⟨_,h⟩
theorem qxr {s r o c}(h:cellAt (yH s) r o=some c):o=0/\∃ b:Nat,c=.val (.int .u8 b)/\(byteCells s)[r]? = some (.int .u8 b):=by
 obtain⟨row,h1,h2⟩:=qc.1 h;unfold yH at h1;rw[aH]at h1;obtain⟨b,hb,rfl⟩:=aG.1 h1;cases o with
 |succ o=>simp at h2
 |zero=>simp only[aI,aa]at h2;exact⟨rfl,b.toNat,h2.symm,by unfold byteCells;rw[aH,hb];rfl⟩
theorem qk5 {P size t1 e1}(hu1:srcU (P.underlying t1)=some (.slice e1))(hs:0<size){G w F xx c V}(hh:Hold G w F xx c V){more}(hm:QM c=some more)(hsz:more.head?.all (·.length==size)=true):
  ∃ news,Src P size t1 V more.length news w/\(∀ row∈more,row.length=size)/\∀ r o c',cellAt more r o=some c'->qw c'=true/\∃ u,news[r*size+o]? = some u /\
   match (generalizing:=false) xx with
   |none=>qy c'=false/\∃ p,Sh G w p c' u
   |some s=>Sh G w ⟨s.toKey,r,o⟩ c' u/\Tree G w ⟨s.toKey,r,o⟩ c':=by
 have hk:=qxa hu1;have ofSlice:∀ (a:Addr) (n c:Nat) (news:List Value),news.length=n*size->(∀ j u,news[j]? = some u->w.cell? (a.add j)=some u)->(∀ u∈news,u.oneCell'=true)->Src P size t1 (.slice (some a) n c) n news w:=fun a n c news hl hnews h1=>⟨hk,fun _=>rfl,run_firstCells_some w size n a n c news hl hnews,run_firstCells_some w.drew size n a n c news hl (by simpa using hnews),hl,h1⟩
 have empty:∀ (a:Option Addr) (cap:Nat),Src P size t1 (.slice a 0 cap) 0 [] w:=by
  intro a cap;cases a with
  |none=>exact⟨hk,fun _=>rfl,run_firstCells_none w size 0 0 cap,run_firstCells_none w.drew size 0 0 cap,by simp,fun _ h=>by cases h⟩
  |some a=>exact ofSlice a 0 cap [] (by simp) (by intros;simp_all) (by intros;simp_all)
 have rowsOf:∀ sz',(∀ row∈more,row.length=sz')->∀ row∈more,row.length=size:=by
  intro sz' h row hr;cases more with
  |nil=>simp at hr
  |cons r0 rs=>have h0:=h r0 (by simp);simp at hsz;rw[h row hr,<- h0,hsz]
 cases c with
 |nil=>
  simp only[QM,aa]at hm;subst hm;cases xx with
  |none=>have hv:V=.slice none 0 0:=hh.2.2.2.2 ⟨⟨.res,[]⟩,0,0⟩;subst hv;exact⟨[],empty none 0,by simp,by intro r o c' h;simp[cellAt]at h⟩
  |some s=>exact absurd (by constructor<;>intros<;>simp) hh.2.1
 |imm rs=>
  simp only[QM,aa]at hm;subst hm;cases xx with
  |none=>
   have hr:RelI G.im w (.imm rs) V:=hh.2.2.2.2 ⟨⟨.res,[]⟩,0,0⟩;cases hr with
   |immE a cap=>exact⟨[],empty a cap,by simp,by intro r o c' h;simp[cellAt]at h⟩
   |imm _ b off cap sz' vs T fr us hb hi hcap hrow hv hr=>
    have hrow':=rowsOf sz' hrow;have hszz:∀ r o c',cellAt rs r o=some c'->sz'=size:=fun r o c' hc=>by obtain⟨row,h1,_⟩:=qc.1 hc;rw[<- hrow row (aM h1),hrow' row (aM h1)]
    obtain⟨news,n1,n2,n3,n4⟩:=qaY hs hrow' (f:=fun j=>vs[off+j]?) (fun r o c' hc=>by refine⟨us r o,?_,(hr r o c' hc).one⟩;have:=hv r o c' hc;rw[hszz r o c' hc]at this;rw[<- this];congr 1;omega);refine⟨news,ofSlice ⟨b,off,none⟩ rs.length cap news n1 (fun j u hj=>?_) n3,hrow',fun r o c' hc=>?_⟩
    . rw[zb];unfold World.cell?;simp[hb,n2 j u hj]
    . obtain⟨u,h1,h2⟩:=n4 r o c' hc;have hu:u=us r o:=by have:=hv r o c' hc;rw[hszz r o c' hc,Nat.add_assoc]at this;rw[this]at h1;exact(aR h1).symm
      subst hu;have:=(hr r o c' hc).sh (G:=G) ⟨⟨.res,[]⟩,0,0⟩;exact⟨this.2.1,_,h2,this.2.2,_,this.1⟩
  |some s=>exact absurd (by constructor<;>intros<;>simp) hh.2.1
 |own zz rs=>
  simp only[QM,aa]at hm;subst hm;cases xx with
  |none=>exact absurd rfl (hh.1.1 _ rs)
  |some s=>
   obtain⟨_,_,hsh0,ht,_⟩:=hh;rcases hsh0 with⟨_,hrn,hvn⟩|⟨x,g1,g2,g3,g4,g5⟩
   . subst hrn;subst hvn;exact⟨[],empty none 0,by simp,by intro r o c' h;simp[cellAt]at h⟩
   obtain⟨x',vs,T,e1,e2,e3,e4,e5,e6,e7,e8,e9⟩:=(ht [] rs rfl).of_hd (by rw[Pl.under_nil];exact g1);rw[Pl.under_nil]at e1 e8;rw[g1]at e1;cases e1;have hrow':=rowsOf x.sz e5;have hszz:∀ r o c',cellAt rs r o=some c'->x.sz=size:=fun r o c' hc=>by obtain⟨row,h1,_⟩:=qc.1 hc;rw[<- e5 row (aM h1),hrow' row (aM h1)]
   obtain⟨news,n1,n2,n3,n4⟩:=qaY hs hrow' (f:=fun j=>vs[j]?) (fun r o c' hc=>by obtain⟨u,hu,hsh⟩:=e9 r o c' hc;rw[hszz r o c' hc]at hu;exact⟨u,hu,hsh.one⟩);have hV:V=.slice (some ⟨x.b,0,none⟩) rs.length x.cap:=by rw[g3,<- g4];simp[Hd.val,g2]
   rw[hV];refine⟨news,ofSlice ⟨x.b,0,none⟩ rs.length x.cap news n1 (fun j u hj=>?_) n3,hrow',fun r o c' hc=>?_⟩
   . rw[zb];unfold World.cell?;simp[e4,n2 j u hj]
   . obtain⟨u,h1,h2⟩:=n4 r o c' hc;obtain⟨u',hu,hsh⟩:=e9 r o c' hc;rw[hszz r o c' hc,h1]at hu;cases hu;rw[Pl.under_nil]at hsh;refine⟨(e8 (by simp[Pl.toKey])).2 r o c' hc,u,h2,hsh,fun rest rows e=>?_⟩;have:=ht ((r,o)::rest) rows (by simp only[subR,getR,hc];cases c'<;>exact e);rwa [qW]
 |val v=>
  cases v with
  |string s=>
   simp only[QM,aa]at hm;subst hm;cases xx with
   |some q=>exact absurd (by constructor<;>intros<;>simp) hh.2.1
   |none=>
    have hv:V=.string s:=(hh.2.2.2.2 ⟨⟨.res,[]⟩,0,0⟩).1;subst hv;have hl:(yH s).length=s.size:=by unfold yH;rw[List.length_map];rfl
    by_cases h0:s.size=0
    . have hn:yH s=[]:=List.length_eq_zero_iff.1 (hl.trans h0);rw[hn];refine⟨[],⟨hk,fun _=>by simp[Builtin.lenOf,h0],by simp[Builtin.firstCells],by simp[Builtin.firstCells],by simp,fun _ h=>by cases h⟩,by simp,fun r o c' hc=>by simp[cellAt]at hc⟩
    .
     have h1:size=1:=by
      cases hb:yH s with
      |nil=>rw[hb]at hl;exact absurd hl.symm h0
      |cons r0 rs=>
       have hm0:r0∈yH s:=by rw[hb];simp
       obtain⟨b,_,rfl⟩:=List.mem_map.1 hm0;rw[hb]at hsz;exact(by simpa using hsz:1=size).symm
     subst h1;rw[hl];refine⟨byteCells s,⟨hk,fun _=>rfl,firstCells_string s w,firstCells_string s w.drew,by rw[byteCells_length,Nat.mul_one],fun u hu=>by obtain⟨_,_,rfl⟩:=List.mem_map.1 hu;rfl⟩,fun row hr=>?_,fun r o c' hc=>?_⟩
     . obtain⟨b,_,rfl⟩:=List.mem_map.1 hr;rfl
     . obtain⟨rfl,b,rfl,hb⟩:=qxr hc;exact⟨rfl,_,by rw[Nat.mul_one,Nat.add_zero];exact hb,rfl,⟨⟨.res,[]⟩,0,0⟩,rfl,rfl⟩
  |_=>simp[QM]at hm
 |_=>simp[QM]at hm
end
section
variable [Glob]
theorem heap_drew (w:World):w.drew.heap=w.heap:=rfl
theorem qcs {a b r o c}(h:cellAt (a++b) r o=some c):(r<a.length/\cellAt a r o=some c)\/(a.length<=r/\cellAt b (r-a.length) o=some c):=by
 obtain⟨row,h1,h2⟩:=qc.1 h;by_cases hr:r<a.length
 . rw[aY hr]at h1;exact .inl ⟨hr,qc.2 ⟨row,h1,h2⟩⟩
 . rw[aZ (by omega)]at h1;exact .inr ⟨by omega,qc.2 ⟨row,h1,h2⟩⟩
theorem qbC (z)(n):(Builtin.zeroCells z n).size=n*z.size:=by simp[Builtin.zeroCells]
theorem qdd {G w F ts}(h:RelF G w F ts){d rows more sz b cap w' vs T}(hs:0<sz)(p s:Option Pl)(hsize:w.heap.size<=w'.heap.size)(hold:∀ b',b'≠b->b'<w.heap.size->w'.heap[b']? = w.heap[b']?)(hb:b<w'.heap.size)(him:¬ G.im b)(hkey:∀ k x,G.γ k=some x->x.b=b->∃ p0,p=some p0/\k=p0.toKey)(hold':b<w.heap.size->∃ k x,G.γ k=some x/\x.b=b)(hobj:w'.heap[b]? = some (.cells vs T (0,0)))(hout:Out w w')(hrow:∀ row∈rows,row.length=sz)(hrow':∀ row∈more,row.length=sz)(hcap:rows.length+more.length<=cap)(hvs:vs.size=cap*sz)(hfree:∀ p0,p=some p0->∀ π,¬ Uses F (p0.under π))(hfree':∀ s0,s=some s0->∀ π,¬ Uses F (s0.under π))(hap:∀ p0 s0,p=some p0->s=some s0->∀ π π',p0.under π≠s0.under π')(hc1:∀ r o c,cellAt rows r o=some c->qw c=true/\∃ p0 u,p=some p0/\vs[r*sz+o]? = some u/\Sh G w ⟨p0.toKey,r,o⟩ c u/\Tree G w ⟨p0.toKey,r,o⟩ c)(hc2:∀ r o c,cellAt more r o=some c->qw c=true/\∃ u,vs[(rows.length+r)*sz+o]? = some u /\
   match (generalizing:=false) s with
   |none=>qy c=false/\∃ q,Sh G w q c u
   |some s0=>Sh G w ⟨s0.toKey,r,o⟩ c u/\Tree G w ⟨s0.toKey,r,o⟩ c):
  ∃ G',RelF G' w' (F.putS (some d) (.c (.own sz (rows++more)))) (ts.setIfInBounds d (.slice (some ⟨b,0,none⟩) (rows.length+more.length) cap))/\Gain G w G' w':=by
 let X:Nat->Nat->Option Pl:=fun r o=>if r<rows.length then p.map fun p0=>⟨p0.toKey,r,o⟩else s.map fun s0=>⟨s0.toKey,r-rows.length,o⟩
 have hX:∀ r o q,X r o=some q->(r<rows.length/\∃ p0,p=some p0/\q=⟨p0.toKey,r,o⟩)\/(rows.length<=r/\∃ s0,s=some s0/\q=⟨s0.toKey,r-rows.length,o⟩):=by
  intro r o q e;simp only[X]at e;split at e
  . rename_i hr;obtain⟨p0,h1,h2⟩:=aG.1 e
    grind
  . rename_i hr;obtain⟨s0,h1,h2⟩:=aG.1 e
    grind
 have under_inj:∀ (q:Pl) r o π r' o' π',(⟨q.toKey,r,o⟩:Pl).under π=(⟨q.toKey,r',o'⟩:Pl).under π'->r=r'/\o=o'/\π=π':=by intro q r o π r' o' π' e;simpa [Pl.under,and_assoc]using e
 obtain⟨G',g1,g2⟩:=qgT h (d:=d) (rows:=rows++more) (sz:=sz) (b:=b) (cap:=cap) (w':=w') (vs:=vs) (T:=T) X hsize hold hb him
  (fun k x hk hx=>by
   obtain⟨p0,hp,rfl⟩:=hkey k x hk hx;refine⟨by simp[Pl.toKey],?_,fun r o q π e=>?_⟩
   . rw[<- Pl.under_nil];grind
   .
    rcases hX r o q e with⟨_,p1,hp1,rfl⟩|⟨_,s0,hs0,rfl⟩
    . rw[hp]at hp1;cases hp1;intro he;have:=congrArg (fun k=>k.path.length) he;simp[Pl.under,Pl.toKey]at this
    . rw[qW,<- Pl.under_nil]
      grind)
  hold' hobj hout (fun row hr=>by grind) (by grind) hvs
  (fun r o c hc=>by
   rcases qcs hc with⟨hr,hc⟩|⟨hr,hc⟩
   . grind
   . obtain⟨a1,u,a2,a3⟩:=hc2 _ o c hc;rw[show rows.length+(r-rows.length)=r from by omega]at a2
     grind)
  (fun r o q e π=>by
   rcases hX r o q e with⟨_,p0,hp,rfl⟩|⟨_,s0,hs0,rfl⟩
   . rw[qW];grind
   . rw[qW];grind)
  (fun r o r' o' q q' π π' e e' he=>by
   rcases hX r o q e with⟨h1,p0,hp,rfl⟩|⟨h1,s0,hs0,rfl⟩
   .
    rcases hX r' o' q' e' with⟨h2,p1,hp1,rfl⟩|⟨h2,s1,hs1,rfl⟩
    . grind
    . rw[qW,qW]at he
      grind
   .
    rcases hX r' o' q' e' with⟨h2,p1,hp1,rfl⟩|⟨h2,s1,hs1,rfl⟩
    . rw[qW,qW]at he
      grind
    grind)
 grind
end
section
variable [Glob]
theorem RelF.nilOwn {G w F ts}(h:RelF G w F ts)(d sz):
  ∃ G',RelF G' w (F.putS (some d) (.c (.own sz []))) (ts.setIfInBounds d (.slice none 0 0))/\Gain G w G' w:=by
 have h1:RelF G w ((F.killR (.slot d)).put (some d) (.c .dead)) (ts.setIfInBounds d (.slice none 0 0)):=by
  refine(h.mapC (qP (.slot d))).put_flat ⟨trivial,fun r o c hc=>?_⟩ (fun r o c zz rs hc=>?_)
  . obtain⟨rfl,rfl,rfl⟩:=one_cell hc;exact⟨_,rfl,.inl rfl⟩
  . obtain⟨rfl,rfl,rfl⟩:=one_cell hc;simp
 let Y:Nat->Nat->Option (Option Pl):=fun r o=>if r=0/\o=0 then some none else none
 have hY:∀ r o x,Y r o≠some (some x):=by grind
 have h2:=h1.mv ⟨.slot d,[]⟩ (Y:=Y) (fun r o r' o' x x' π π' e=>absurd e (hY r o x)) (fun r o π _=>by
  refine vQ h (by simp) (fun r o c zz rs es hc=>?_) (fun r o c hc k hk=>?_)
  . obtain⟨rfl,rfl,rfl⟩:=one_cell hc;simp
  . obtain⟨rfl,rfl,rfl⟩:=one_cell hc;simp[deps]at hk) (fun r o x π e=>absurd e (hY r o x))
 have hγ:(G.mv ⟨.slot d,[]⟩ Y).γ ⟨.slot d,[(0,0)]⟩=none:=by have:Zk ⟨.slot d,[]⟩ ⟨.slot d,[(0,0)]⟩=some (0,0,[]):=xz.2 rfl;simp[Gh.mv,this,Y]
 refine⟨_,?_,Gain.mv ⟨.slot d,[]⟩ Y⟩;have h3:=h2.put (d:=d) (v:=.c (.own sz [])) (V:=.slice none 0 0) ⟨trivial,fun r o c hc=>?_⟩ (fun π rows hπ e=>?_)
 . simpa [Fr.putS,AV.c,qy,Fr.put]using h3
 . obtain⟨rfl,rfl,rfl⟩:=one_cell hc;exact⟨_,rfl,.inr (.inl ⟨hγ,rfl,rfl⟩)⟩
 .
  cases π with
  |nil=>grind
  |cons x π=>
   obtain⟨r,o⟩:=x;simp only[getR]at e;cases hc:cellAt (AV.c (.own sz [])).rows r o with
   |none=>grind
   |some c=>
    obtain⟨rfl,rfl,rfl⟩:=one_cell hc;rw[hc]at e;cases π with
    |nil=>simp only[getR,aa]at e;subst e;exact .inl ⟨hγ,rfl,by simp⟩
    |cons y π=>obtain⟨r',o'⟩:=y;simp[getR,cellAt]at e
theorem qeF {P t t1 ty elem e1 i}(hu:P.underlying t=some (.slice elem))(hu1:srcU (P.underlying t1)=some (.slice e1))(hi:P.info? elem=some i){zl}(hz:XP P elem=some zl)(hs:0<i.size){G w F ts}(h:RelF G w F ts){rows more base n cap p}(hbytes:(rows.length+more.length)*i.bytes<=140737488355328)(hlim:rows.length+more.length<=lim)(hold:(p=none/\rows=[]/\base=none/\n=0/\cap=0)\/(∃ p0,p=some p0/\Sh G w p0 (.own i.size rows) (.slice base n cap)/\Tree G w p0 (.own i.size rows)/\∀ π,¬ Uses F (p0.under π))){xx c V}(hh:Hold G w F xx c V)(hm:QM c=some more)(hhead:more.head?.all (·.length==i.size)=true)(hap:∀ p0 s0,p=some p0->xx=some s0->∀ π π',p0.under π≠s0.under π')(d):
  ∃ V' w' G',(Builtin.append_ #[t,t1] ty #[.slice base n cap,V]).run P w=.ok V' w' /\
   RelF G' w' (F.putS (some d) (.c (if p.isNone&&more.isEmpty then .nil else .own i.size (rows++more)))) (ts.setIfInBounds d V')/\Gain G w G' w':=by
 obtain⟨news,hsrc,hrow',hcell'⟩:=qk5 hu1 hs hh hm hhead;obtain⟨z,hzr,rfl,hp,hszz⟩:=Yj hz;have hzi:i.zero=some z:=by
  have:=hzr w;simp only[zeroValue,typeInfo,aK]at this;cases hiz:i.zero with
  |none=>simp[Sem.run,hi,hiz,stuck,unsupported,Result.andThen]at this
  |some z'=>simp[Sem.run,hi,hiz,Result.andThen]at this;rw[this]
 have hzs:z.cells.size=i.size:=by simp only[qQ,hi,av,aa,List.length_map,Array.length_toList]at hszz;exact hszz.symm
 have hnl:news.length=more.length*i.size:=hsrc.newsLen;have hfree':∀ s0,xx=some s0->∀ π,¬ Uses F (s0.under π):=by
  rintro s0 rfl
  exact hh.2.2.2.2
 -- what was there
 have grow:∀ (olds:List Value),n=rows.length->olds.length=n*i.size->cap<n+more.length ->
   (Builtin.firstCells i.size n (.slice base n cap)).run P w.drew=.ok olds.toArray w.drew->(∀ row∈rows,row.length=i.size)->(∀ p0,p=some p0->∀ π,¬ Uses F (p0.under π)) ->
   (∀ r o c,cellAt rows r o=some c->qw c=true/\∃ p0 u,p=some p0/\olds[r*i.size+o]? = some u/\Sh G w ⟨p0.toKey,r,o⟩ c u/\Tree G w ⟨p0.toKey,r,o⟩ c) ->
   ∃ V' w' G',(Builtin.append_ #[t,t1] ty #[.slice base n cap,V]).run P w=.ok V' w' /\
    RelF G' w' (F.putS (some d) (.c (.own i.size (rows++more)))) (ts.setIfInBounds d V')/\Gain G w G' w':=by
  intro olds hn hol hg hfc hrow hfree hc1;have hnm:n+more.length=rows.length+more.length:=by rw[hn]
  have hfit:Builtin.nextslicecap (n+more.length) cap*i.bytes<=281474976710656:=by have h1:=Go.Room.nextslicecap_le' hg;have h2:=Nat.mul_le_mul_right i.bytes h1;rw[Nat.mul_assoc,hnm]at h2;rw[hnm];omega
  have run:=run_append_grow_src (P:=P) w t t1 ty elem i z hu hi hzi base n cap olds hfc V more.length news hsrc hg (by simp only[lim]at hlim;omega) hfit;have hge:=grownCap_ge w (n+more.length) cap elem;generalize hgc:grownCap w (n+more.length) cap elem=gc at run hge;have hsz:((olds++news).toArray++Builtin.zeroCells z.cells (gc-(n+more.length))).size=gc*i.size:=by rw[Array.size_append,qbC,hzs];simp only[List.size_toArray,List.length_append,hol,hnl];rw[<- Nat.add_mul,<- Nat.add_mul];congr 1;omega
  have hat:∀ (j:Nat) u,(olds++news)[j]? = some u->((olds++news).toArray++Builtin.zeroCells z.cells (gc-(n+more.length)))[j]? = some u:=by intro j u hj;have hlt:=(az.1 hj).1;rw[Array.getElem?_append_left (by simpa using hlt)];simpa using hj
  obtain⟨G',g1,g2⟩:=qdd h (d:=d) (rows:=rows) (more:=more) (sz:=i.size) (b:=w.heap.size) (cap:=gc)
   (w':=w.drew.alloc (.cells ((olds++news).toArray++Builtin.zeroCells z.cells (gc-(n+more.length))) elem)) (T:=elem) hs p xx
   (by rw[size_alloc,heap_drew];omega) (fun b' hne hlt=>by rw[heap_alloc,heap_drew,aF hne]) (by rw[size_alloc,heap_drew];omega) (qhB h.inv)
   (fun k x hk hx=>absurd (h.inv.lt k x hk) (by omega)) (fun hlt=>absurd hlt (Nat.lt_irrefl _)) (by rw[heap_alloc,heap_drew,aD rfl]) ((Out.drew w _).trans (Out.alloc _ _))
   hrow hrow' (by omega) hsz hfree hfree' hap
   (fun r o c hc=>by obtain⟨a1,p0,u,a2,a3,a4⟩:=hc1 r o c hc;refine⟨a1,p0,u,a2,hat _ u ?_,a4⟩;rw[aY (az.1 a3).1];exact a3)
   (fun r o c hc=>by obtain⟨a1,u,a2,a3⟩:=hcell' r o c hc;refine⟨a1,u,hat _ u ?_,a3⟩;rw[Nat.add_mul,Nat.add_assoc,<- hn,<- hol,aZ (by omega),Nat.add_sub_cancel_left];exact a2)
  rw[<- hn]at g1;exact⟨_,_,G',run,g1,g2⟩
 rcases hold with⟨rfl,rfl,rfl,rfl,rfl⟩|⟨p0,rfl,hsh,htr,hfree⟩
 .
  by_cases hm0:more=[]
  .
   subst hm0;have hn0:news=[]:=by
    cases news with
    |nil=>rfl
    |cons a l=>simp at hnl
   subst hn0;refine⟨.slice none 0 0,w,G,?_,putV h (RelV.c (.inr ⟨⟨by intros;simp,by intros;simp⟩,fun p=>rfl⟩)),Gain.refl G w⟩;have h1:=hsrc.len;have h2:=hsrc.cells;simp only[List.length_nil]at h1 h2;rcases qxa hu1 with⟨e',hk⟩|hk<;>simp[Builtin.append_,run_underlying hu,run_underlying hk,sizeOf,typeInfo,hi,h1,h2]
  . have:more.isEmpty=false:=by simpa using hm0
    simp only[Option.isNone_none,this,Bool.and_false,aT,if_false];have hml:0<more.length:=List.length_pos_iff.2 hm0;exact grow [] rfl (by simp) (by omega) (run_firstCells_none w.drew i.size 0 0 0) (by simp) (by intro p0 hp;cases hp) (by intro r o c hc;simp[cellAt]at hc)
 .
  simp only[Option.isNone_some,Bool.false_and,aT,if_false];rcases hsh with⟨g1,g2,g3⟩|⟨x,g1,g2,g3,g4,g5⟩
  .
   cases g3;subst g2;by_cases hm0:more=[]
   .
    subst hm0;have hn0:news=[]:=by
     cases news with
     |nil=>rfl
     |cons a l=>simp at hnl
    subst hn0;obtain⟨G',k1,k2⟩:=h.nilOwn d i.size;refine⟨.slice none 0 0,w,G',?_,k1,k2⟩;have h1:=hsrc.len;have h2:=hsrc.cells;simp only[List.length_nil]at h1 h2;rcases qxa hu1 with⟨e',hk⟩|hk<;>simp[Builtin.append_,run_underlying hu,run_underlying hk,sizeOf,typeInfo,hi,h1,h2]
   . have hml:0<more.length:=List.length_pos_iff.2 hm0;exact grow [] rfl (by simp) (by omega) (run_firstCells_none w.drew i.size 0 0 0) (by simp) (by intro p1 hp;cases hp;exact hfree) (by intro r o c hc;simp[cellAt]at hc)
  obtain⟨x',vs,T,f1,f2,f3,f4,f5,f6,f7,f8,f9⟩:=(htr [] rows rfl).of_hd (by rw[Pl.under_nil];exact g1);rw[Pl.under_nil]at f1 f8;rw[g1]at f1;cases f1;simp only[Hd.val,g2,aT,if_false,Value.slice.injEq]at g3;obtain⟨rfl,rfl,rfl⟩:=g3;have hvs:=(f8 (by simp[Pl.toKey])).1;have hrow:∀ row∈rows,row.length=i.size:=fun row hr=>by rw[f5 row hr,g5]
  obtain⟨olds,o1,o2,o3,o4⟩:=qaY hs hrow (f:=fun j=>vs[j]?) (fun r o c hc=>by obtain⟨u,hu,hsh⟩:=f9 r o c hc;rw[g5]at hu;exact⟨u,hu,hsh.one⟩);have hc1:∀ r o c,cellAt rows r o=some c->qw c=true/\∃ q u,(some p0:Option Pl)=some q/\olds[r*i.size+o]? = some u/\vs[r*i.size+o]? = some u/\Sh G w ⟨q.toKey,r,o⟩ c u/\Tree G w ⟨q.toKey,r,o⟩ c:=by intro r o c hc;obtain⟨u,h1,h2⟩:=o4 r o c hc;obtain⟨u',hu,hsh⟩:=f9 r o c hc;rw[g5,h1]at hu;cases hu;rw[Pl.under_nil]at hsh;refine⟨(f8 (by simp[Pl.toKey])).2 r o c hc,p0,u,rfl,h2,h1,hsh,fun rest rs e=>?_⟩;have:=htr ((r,o)::rest) rs (by simp only[subR,getR,hc];cases c<;>exact e);rwa [qW]
  by_cases hroom:x.len+more.length<=x.cap
  .
   have hsize:x.len*i.size+news.length<=vs.size:=by rw[hvs,g5,hnl,<- Nat.add_mul];exact Nat.mul_le_mul_right _ hroom
   have run:=run_append_room_src (P:=P) w t t1 ty elem i hu hi x.b 0 x.len x.cap V more.length news hsrc hroom
    (fun j hj=>by
     unfold World.cell?;simp only[f4];have:x.len*i.size+j<vs.size:=by omega
     simp[this])
    (fun j hj=>by unfold World.frozen?;simp[f4])
   simp only[Nat.zero_add]at run;obtain⟨vs',b1,b2,b3,b4,b5⟩:=XK news (x.len*i.size) w vs f4 hsize;obtain⟨G',c1,c2⟩:=qdd h (d:=d) (rows:=rows) (more:=more) (sz:=i.size) (b:=x.b) (cap:=x.cap) (w':=w.setCells x.b (x.len*i.size) news) (vs:=vs') (T:=T) hs (some p0) xx
    (by rw[vC];exact Nat.le_refl _) (fun b' hne _=>b5 b' hne) (by rw[vC];exact h.inv.lt _ _ g1) f3
    (fun k y hk hy=>⟨p0,rfl,h.inv.inj _ _ _ _ hk g1 hy⟩) (fun _=>⟨_,x,g1,rfl⟩) b1 (Out.setCells _ _ _ _) hrow hrow' (by rw[<- g4];exact hroom) (by rw[b2,hvs,g5])
    (fun q hq=>by cases hq;exact hfree) hfree' hap
    (fun r o c hc=>by obtain⟨a1,q,u,a2,a3,a4,a5⟩:=hc1 r o c hc;refine⟨a1,q,u,a2,?_,a5⟩;have hlt:=(az.1 a3).1;rw[o1,<- g4]at hlt;rw[b3 _ (.inl hlt)];exact a4)
    (fun r o c hc=>by obtain⟨a1,u,a2,a3⟩:=hcell' r o c hc;refine⟨a1,u,?_,a3⟩;rw[Nat.add_mul,Nat.add_assoc,<- g4,b4 _ (az.1 a2).1];exact a2)
   rw[<- g4]at c1;exact⟨_,_,G',run,c1,c2⟩
  . refine grow olds g4 (by rw[o1,g4]) (by omega) ?_ hrow (fun q hq=>by cases hq;exact hfree) (fun r o c hc=>?_)
    . refine run_firstCells_some w.drew i.size x.len ⟨x.b,0,none⟩ x.len x.cap olds (by rw[o1,g4]) (fun j u hj=>?_);rw[zb];unfold World.cell?;simp[heap_drew,f4,o2 j u hj]
    . obtain⟨a1,q,u,a2,a3,_,a5⟩:=hc1 r o c hc;exact⟨a1,q,u,a2,a3,a5⟩
end
section
variable [Glob]
theorem Zc {cx t t1 ty elem e1 i}(hu:cx.P.underlying t=some (.slice elem))(hu1:srcU (cx.P.underlying t1)=some (.slice e1))(hi:cx.P.info? elem=some i){G w F F' ts}(h:RelF G w F ts){rows base n cap p}(hold:(p=none/\rows=[]/\base=none/\n=0/\cap=0)\/(∃ p0,p=some p0/\Sh G w p0 (.own i.size rows) (.slice base n cap)/\Tree G w p0 (.own i.size rows)/\∀ π,¬ Uses F (p0.under π))){xc V}(hx:xc=.dead\/(Seen xc/\∀ q,Sh G w q xc V)){d}(e:Yo cx F d elem i rows p xc=some F'):
  ∃ V' w' G',(Builtin.append_ #[t,t1] ty #[.slice base n cap,V]).run cx.P w=.ok V' w'/\RelF G' w' F' (ts.setIfInBounds d V')/\Gain G w G' w':=by
 unfold Yo at e;split at e
 .
  rename_i c F2 ht;split at e
  .
   rename_i more hm;split at e
   .
    rename_i hcond;simp only[aa]at e;subst e;simp only[aC,aX]at hcond;obtain⟨⟨⟨⟨⟨c1,c2⟩,c3⟩,c4⟩,c5⟩,c6⟩:=hcond;rcases hx with rfl|⟨hseen,hsh⟩
    . simp[takeC]at ht
    .
     obtain⟨im',xx,a1,a2,a3,a4,a5'⟩:=qbK h hseen hsh ht;have a5:=fun s e=>(a5' s e).1;obtain⟨zl,hzl⟩:=Option.isSome_iff_exists.1 c4;obtain⟨V',w',G',b1,b2,b3⟩:=qeF (ty:=ty) hu hu1 hi hzl c3 a1 (rows:=rows) (more:=more) (base:=base) (n:=n) (cap:=cap) (p:=p) c1 c2 (by
      rcases hold with hold|⟨p0,hp,k1,k2,k3⟩
      . exact .inl hold
      . exact .inr ⟨p0,hp,k1.shr a3 (by intros;simp),k2.shr a3 h.inv k3,fun π hu=>k3 π (a3.uses _ hu)⟩) a4 hm c5 (by
      rintro p0 s0 rfl rfl π π' he
      rcases hold with⟨hp,_⟩|⟨p1,hp,k1,k2,k3⟩
      . cases hp
      . cases hp;have hus:=a5 s0 rfl;obtain⟨⟨k,r,o,rfl⟩,hns,hss,_⟩:=a4;have hq:=(a5' _ rfl).2;subst hq;simp only[Pl.under,List.nil_append,Key.mk.injEq]at he;obtain⟨hroot,hpath⟩:=he;simp only[qg3,hroot,List.isEmpty_iff,ne_eq,not_true_eq_false,decide_false,Bool.or_false]at c6;rw[c6]at hpath;simp only[List.nil_append,List.cons.injEq,ai]at hpath;obtain⟨⟨e1,e2⟩,_⟩:=hpath;have:p0=⟨⟨.slot k,[]⟩,r,o⟩:=by
         cases p0 with
         |mk key r0 o0=>cases key;simp_all
        subst this;exact k3 [] (by rw[Pl.under_nil];exact hus)) d
     exact⟨V',w',G',b1,b2,a2.trans b3⟩
   . cases e
  . cases e
 . cases e
theorem qdu {cx G w F F' a o args argTypes}(ho:o.op=.call ⟨.builtin .append,args,argTypes⟩)(h:RelF G w F a.tmps)(e:loud cx F o=some F'):Ran cx G w a o F':=by
 obtain⟨dst,op,ty,pos,after,guard⟩:=o;change op=_ at ho;subst ho;unfold loud at e;simp only at e;split at e
 .
  rename_i s x t t1 d hargs htypes;have hargs':args = #[s,x]:=Array.ext' hargs;have htypes':argTypes = #[t,t1]:=Array.ext' htypes;subst hargs';subst htypes';have fin:∀ {V w' G'},(Builtin.append_ #[t,t1] ty #[a.eval s,a.eval x]).run cx.P w=.ok V w'->RelF G' w' F' (a.tmps.setIfInBounds d V)->Gain G w G' w' ->
    Ran cx G w a ⟨some d,.call ⟨.builtin .append,#[s,x],#[t,t1]⟩,ty,pos,after,guard⟩ F':=by
   intro V w' G' h1 h2 h3;refine⟨_,V,G',w',?_,.inl rfl,h2,h3⟩;simp only[execOp,resolve,pure_bind,invoke,builtin,aK,List.map_toArray,List.map_cons,List.map_nil,h1,ay,aU]
  split at e
  .
   rename_i elem e1 xc hu hu1 hs hx;split at e
   . rename_i i hi;obtain⟨_,hsn⟩:=qp h hs (by simp);have hV:a.eval s=.slice none 0 0:=hsn ⟨⟨.res,[]⟩,0,0⟩;obtain⟨V',w',G',b1,b2,b3⟩:=Zc (ty:=ty) hu hu1 hi h (.inl ⟨rfl,rfl,rfl,rfl,rfl⟩) (Zh (qx h x) hx) e
     grind
   grind
  .
   rename_i elem e1 p xc hu hu1 hs hx;split at e
   .
    rename_i zz rows i F1 hg hi hset;split at e
    .
     rename_i hzz;subst hzz;obtain⟨_,hsn⟩:=qp h hs (by simp);obtain⟨hsh,_⟩:=yD h hsn hg (fun hn=>hn.1 _ _ rfl);have st:=Fr.setTo hset;have r1:=h.empty st;have r2:=r1.mapC (qM p);rcases hsh with⟨y1,y2,y3⟩|⟨y,y1,y2,y3,y4,y5⟩
     . obtain⟨V',w',G',b1,b2,b3⟩:=Zc (ty:=ty) hu hu1 hi (F:=F1.kill p) (base:=none) (n:=0) (cap:=0) r2 (.inr ⟨p,rfl,.inl ⟨y1,y2,rfl⟩,h.tree hg,fun π=>vH r1 st.new π⟩) (Zh (qx h x) hx) e
       grind
     have hV:a.eval s=.slice (some ⟨y.b,0,none⟩) y.len y.cap:=by rw[y3];simp[Hd.val,y2]
     obtain⟨V',w',G',b1,b2,b3⟩:=Zc (ty:=ty) hu hu1 hi (F:=F1.kill p) (base:=some ⟨y.b,0,none⟩) (n:=y.len) (cap:=y.cap) r2 (.inr ⟨p,rfl,.inr ⟨y,y1,y2,by grind,y4,y5⟩,h.tree hg,fun π=>vH r1 st.new π⟩) (Zh (qx h x) hx) e
     grind
    grind
   grind
  grind
 grind
end
section
variable [Glob]
theorem qge {cx G w F F' a o s t x}(ho:o.op=.convert s t x)(h:RelF G w F a.tmps)(e:loud cx F o=some F'):Ran cx G w a o F':=by
 obtain⟨dst,op,ty,pos,after,guard⟩:=o;change op=_ at ho;subst ho;unfold loud at e;simp only at e;split at e
 .
  rename_i el b hs ht hx;split at e
  .
   rename_i hel;simp only[aa]at e;subst e;have hv:a.eval x=.string b:=yc (qx h x) hx;have run:(execOp a.eval ⟨dst,.convert s t x,ty,pos,after,guard⟩).run cx.P w=.ok (.value (.slice (some ⟨w.heap.size,0,none⟩) b.size (grownCap w b.size 0 el))) (Lib.bytesWorld w el b):=by simp only[execOp,hv,aK,Lib.run_convert_string_bytes w s t el b hs ht hel,ay];rfl
   have old:∀ k,k<w.heap.size->(Lib.bytesWorld w el b).heap[k]? = w.heap[k]?:=Lib.bytesWorld_at_old w el b;have hsz:=Lib.bytesWorld_size w el b;have r1:RelF G (Lib.bytesWorld w el b) F a.tmps:=h.same ⟨by omega,fun k hk=>old k (h.inv.imlt k hk),fun k y hk=>old _ (h.inv.lt k y hk)⟩;have r2:=r1.freeze (fun k=>G.im k\/k=w.heap.size) (fun _ hk=>.inl hk) (fun k hk=>by
    rcases hk with hk|rfl
    . exact r1.inv.imlt k hk
    . omega) (fun k y hk _ hi=>by
    rcases hi with hi|hi
    . exact hi
    . have:=h.inv.lt k y hk;omega)
   have out:Out w (Lib.bytesWorld w el b):=⟨rfl,rfl⟩
   have hg:Gain G w { G with im:=fun k=>G.im k\/k=w.heap.size } (Lib.bytesWorld w el b):=
    ⟨by omega,fun _ hk=>.inl hk,fun k hk=>old k (h.inv.imlt k hk),fun k hk _=>⟨old k hk,fun hi=>by
     rcases hi with hi|hi
     . exact hi
     . omega⟩,fun k y hk=>.inl ⟨k,y,hk,rfl⟩,fun _=>rfl,out,fun _ hd=>⟨hd,rfl⟩⟩
   have hlen:(yH b).length=b.size:=by unfold yH;rw[List.length_map,Array.length_toList];rfl
   have ri:RelI (fun k=>G.im k\/k=w.heap.size) (Lib.bytesWorld w el b) (.imm (yH b)) (.slice (some ⟨w.heap.size,0,none⟩) b.size (grownCap w b.size 0 el)):=by
    have hcap:b.size<=grownCap w b.size 0 el:=grownCap_ge w b.size 0 el;have hat:∀ r o c,cellAt (yH b) r o=some c->∃ y,b.data.toList[r]? = some y/\o=0/\c=.val (.int .u8 y.toNat):=by
     intro r o c hc;obtain⟨row,k1,k2⟩:=qc.1 hc;simp only[yH,aH]at k1;cases hy:b.data.toList[r]? with
     |none=>simp[hy]at k1
     |some y=>
      simp only[hy,av,aa]at k1;subst k1;cases o with
      |zero=>simp at k2;exact⟨y,rfl,rfl,k2.symm⟩
      |succ o=>simp at k2
    have:=RelI.imm (im:=fun k=>G.im k\/k=w.heap.size) (w:=Lib.bytesWorld w el b) (yH b) w.heap.size 0 (grownCap w b.size 0 el) 1 (Lib.bytesCells w el b) el
     ((Lib.bytesCells w el b).size,(Lib.bytesCells w el b).size+1) (fun r _=>.int .u8 ((b.data.toList.getD r 0).toNat)) (Lib.bytesWorld_at_new w el b) (.inr rfl) (by rw[hlen];exact hcap)
     (fun row hr=>by simp only[yH,List.mem_map]at hr;obtain⟨y,_,rfl⟩:=hr;rfl)
     (fun r o c hc=>by
      obtain⟨y,hy,rfl,rfl⟩:=hat r o c hc;have hr:r<b.data.size:=by have:=(az.1 hy).1;simpa using this
      have hr2:r<b.size:=hr;have e2:b.data.toList.getD r 0=y:=by simp[List.getD,hy]
      rw[e2];unfold Lib.bytesCells;rw[Array.getElem?_append_left (by simp;omega)];rw[aQ]at hy;simp[hy])
     (fun r o c hc=>by
      obtain⟨y,hy,rfl,rfl⟩:=hat r o c hc;have e2:b.data.toList.getD r 0=y:=by simp[List.getD,hy]
      rw[e2];exact .val _ rfl)
    rw[hlen]at this;exact this
   have hrv:RelV { G with im:=fun k=>G.im k\/k=w.heap.size } (Lib.bytesWorld w el b) (.c (.imm (yH b))) (.slice (some ⟨w.heap.size,0,none⟩) b.size (grownCap w b.size 0 el)):=RelV.c (.inr ⟨⟨by intros;simp,by intros;simp⟩,fun _=>ri⟩);exact⟨_,_,_,_,run,.inl rfl,putO r2 hrv,hg⟩
  . cases e
 . cases e
theorem qgi {cx G w F F' a o}(h:RelF G w F a.tmps)(e:loud cx F o=some F'):Ran cx G w a o F':=by
 cases ho:o.op with
 |assign x=>exact qdp ho h e
 |alloc t=>exact qeI ho h e
 |box t x=>exact qhH ho h e
 |store t y x=>exact qeW ho h e
 |build t parts=>exact qet ho h e
 |buildSlice t n parts=>exact qas ho h e
 |convert s t x=>exact qge ho h e
 |slice t x lo hi mx=>
  cases mx with
  |none=>exact qem ho h e
  |some r=>simp[loud,ho]at e
 |call c=>
  obtain⟨callee,args,argTypes⟩:=c;cases callee with
  |builtin b=>
   cases b with
   |append=>exact qdu ho h e
   |_=>simp[loud,ho]at e
  |_=>simp[loud,ho]at e
 |_=>simp[loud,ho]at e
end
section
variable [Glob]
def RenP (W:Root->Option Root)(q1 q:Pl):Prop:=W q.key.root=some q1.key.root/\q.key.path=q1.key.path/\q.r=q1.r/\q.o=q1.o
def RenX (W:Root->Option Root):Cell->Cell->Prop
 |.ptr q1,.ptr q=>RenP W q1 q
 |.val u,.val v=>u=v
 |.ptr _,_=>False
 |.val _,_=>False
 |a,b=>a=b
def qev (W:Root->Option Root):List Cell->List Cell->Prop
 |[],[]=>True
 |a::l,b::m=>RenX W a b/\qev W l m
 |_,_=>False
def RenC (W:Root->Option Root):Cell->Cell->Prop
 |.ptr q1,.ptr q=>RenP W q1 q
 |.ref q1,.ref q=>RenP W q1 q
 |.clo f fs cs,.clo g fs' cs'=>f=g/\qev W fs fs'/\qev W cs cs'
 |.val u,.val v=>u=v
 |.nil,.nil=>True
 |.imm a,.imm b=>a=b
 |.own z a,.own z' b=>z=z'/\a=b
 |.mp a,.mp b=>a=b
 |.cptr a o,.cptr b o'=>a=b/\o=o'
 |_,_=>False
def yS (W:Root->Option Root)(a b:List (List Cell)):Prop:=a.map List.length=b.map List.length /\
 ∀ r o c,cellAt b r o=some c->∃ c1,cellAt a r o=some c1/\(c=.dead\/RenC W c1 c)
def qeH (W:Root->Option Root)(q:Pl):Prop:=W q.key.root=none\/(q.key.path=[]/\q.key.root.boxed=true)
def qdX (W:Root->Option Root):Cell->Prop
 |.ptr q=>qeH W q
 |.ref q=>W q.key.root=none
 |.clo _ fs cs=>∀ q,.ptr q∈fs++cs->qeH W q
 |_=>True
def yJ (W:Root->Option Root)(a b:List (List Cell)):Prop:=a.map List.length=b.map List.length /\
 ∀ r o c,cellAt b r o=some c->∃ c1,cellAt a r o=some c1/\(c=.dead\/(c=c1/\qdX W c))
structure Spliced (W:Root->Option Root) (F1 F2 F:Fr) (ts1 ts2 ts:Array Value):Prop where
 len:F.slots.length=ts.size
 slot:∀ k v,F.slots[k]? = some v->∃ V,ts[k]? = some V /\
  ((∃ k1 v1,W (.slot k)=some (.slot k1)/\F1.slots[k1]? = some v1/\ts1[k1]? = some V/\v.tag=v1.tag/\yS W v1.rows v.rows) \/
  (W (.slot k)=none/\∃ v2,F2.slots[k]? = some v2/\ts2[k]? = some V/\v.tag=v2.tag/\yJ W v2.rows v.rows)\/v=.deadv)
 box:∀ r l,F.boxes.lookup r=some l ->
  (∃ r1 l1,W r=some r1/\F1.boxes.lookup r1=some l1/\yS W [l1] [l])\/(W r=none/\∃ l2,F2.boxes.lookup r=some l2/\yJ W [l2] [l])
structure Part (W:Root->Option Root) (G2 GR G1:Gh) (w w':World) (F2 F:Fr):Prop where
 gain:Gain GR w G1 w'
 inj:∀ r r' a,W r=some a->W r'=some a->r=r'
 bx:∀ r a,W r=some a->r.boxed=a.boxed
 im:GR.im=G2.im
 src:∀ k1 h,GR.γ k1=some h->∃ k,G2.γ k=some h/\((W k.root).isSome=true\/(k.path≠[]/\¬ Uses F2 k))
 par:∀ i a,W (.par i)=some a->G1.γ ⟨a,[]⟩=G2.γ ⟨.par i,[]⟩
 loc:∀ d a,W (.loc d)=some a->G2.lv d->G1.γ ⟨a,[]⟩=G2.γ ⟨.loc d,[]⟩/\G1.ok a
 comp:∀ d a,W (.loc d)=some a->G1.ok a->(F.boxes.lookup (.loc d)).isSome=true
 rest:∀ d,W (.loc d)=none->G2.lv d->(F.boxes.lookup (.loc d)).isSome=true
open Classical in
noncomputable def Gh.splice (W:Root->Option Root)(G2 G1:Gh)(F2:Fr):Gh where
 γ k:=match W k.root with
  |some a=>G1.γ ⟨a,k.path⟩
  |none=>if k.path=[]\/Uses F2 k then G2.γ k else none
 im:=G1.im
 lv d:=match W (.loc d)with
  |some a=>G1.ok a
  |none=>G2.lv d
theorem zh {W G2 G1 F2 k a}(h:W k.root=some a):(Gh.splice W G2 G1 F2).γ k=G1.γ ⟨a,k.path⟩:=by simp only[Gh.splice,h]
theorem zQ {W G2 G1 F2 k}(h:W k.root=none)(hk:k.path=[]\/Uses F2 k):(Gh.splice W G2 G1 F2).γ k=G2.γ k:=by simp only[Gh.splice,h,aD hk]
theorem vM {W G2 G1 F2 k x}(e:(Gh.splice W G2 G1 F2).γ k=some x):
  (∃ a,W k.root=some a/\G1.γ ⟨a,k.path⟩=some x)\/(W k.root=none/\(k.path=[]\/Uses F2 k)/\G2.γ k=some x):=by
 cases hw:W k.root with
 |some a=>exact .inl ⟨a,rfl,by rw[zh hw]at e;exact e⟩
 |none=>
  simp only[Gh.splice,hw]at e
  grind
section
variable {W:Root->Option Root} {G2 GR G1:Gh} {w w':World} {F1 F2 F:Fr} {ts1 ts2 ts:Array Value}
theorem Part.apart (hp:Part W G2 GR G1 w w' F2 F)(h2:GInv G2 w){k x}(hw:W k.root=none)(hk:k.path=[]\/Uses F2 k)(e:G2.γ k=some x):
  ∀ k1 y,GR.γ k1=some y->y.b≠x.b:=by
 intro k1 y e1 hb;obtain⟨k',e',hc⟩:=hp.src _ _ e1;have:k'=k:=h2.inj _ _ _ _ e' e hb
 grind
theorem Part.heap (hp:Part W G2 GR G1 w w' F2 F)(h2:GInv G2 w){k x}(hw:W k.root=none)(hk:k.path=[]\/Uses F2 k)(e:G2.γ k=some x):
  w'.heap[x.b]? = w.heap[x.b]?/\(G1.im x.b->G2.im x.b):=by
 have:=hp.gain.rest x.b (h2.lt _ _ e) (hp.apart h2 hw hk e);exact⟨this.1,fun h=>by rw[<- hp.im];grind⟩
theorem qep (hp:Part W G2 GR G1 w w' F2 F)(h2:GInv G2 w)(h1:GInv G1 w'):GInv (Gh.splice W G2 G1 F2) w' where
 inj k k' x x' e e' hb:=by
  have mix:∀ {k k':Key} {x x':Hd} {a:Root},W k.root=some a->G1.γ ⟨a,k.path⟩=some x->W k'.root=none->(k'.path=[]\/Uses F2 k')->G2.γ k'=some x'->x.b=x'.b->False:=by
   intro k k' x x' a ha e hn hu e' hb;rcases hp.gain.own _ _ e with⟨k0,x0,e0,hb0⟩|hge
   . exact hp.apart h2 hn hu e' _ _ e0 (hb0.trans hb)
   . have:=h2.lt _ _ e';omega
  rcases vM e with⟨a,ha,e⟩|⟨hn,hu,e⟩
  . rcases vM e' with⟨a',ha',e'⟩|⟨hn',hu',e'⟩
    . have:=h1.inj _ _ _ _ e e' hb;simp only[Key.mk.injEq]at this;obtain⟨rfl,hπ⟩:=this;have:=hp.inj _ _ _ ha ha';cases k;simp_all
    grind
  . rcases vM e' with⟨a',ha',e'⟩|⟨hn',hu',e'⟩
    . grind
    . exact h2.inj _ _ _ _ e e' hb
 lt k x e:=by
  rcases vM e with⟨a,ha,e⟩|⟨hn,hu,e⟩
  . exact h1.lt _ _ e
  . exact Nat.lt_of_lt_of_le (h2.lt _ _ e) hp.gain.size
 imlt b h:=h1.imlt b h
 glob b h:=h1.glob b h
theorem qb1 (hp:Part W G2 GR G1 w w' F2 F){d}(hd:G2.lv d):(Gh.splice W G2 G1 F2).lv d/\(Gh.splice W G2 G1 F2).γ ⟨.loc d,[]⟩=G2.γ ⟨.loc d,[]⟩:=by
 cases hw:W (.loc d)with
 |some a=>obtain⟨e1,e2⟩:=hp.loc d a hw hd;refine⟨?_,by rw[zh hw];exact e1⟩;simp only[Gh.splice,hw];exact e2
 |none=>refine⟨?_,zQ hw (.inl rfl)⟩;simp only[Gh.splice,hw];exact hd
theorem qeE (hp:Part W G2 GR G1 w w' F2 F):Gain G2 w (Gh.splice W G2 G1 F2) w' where
 out:=hp.gain.out
 size:=hp.gain.size
 im b h:=hp.gain.im b (by rw[hp.im];exact h)
 keep b h:=hp.gain.keep b (by rw[hp.im];exact h)
 rest b hb hn:=by
  have:=hp.gain.rest b hb fun k1 h1 e1=>by
   obtain⟨k,e,_⟩:=hp.src _ _ e1
   grind
  exact⟨this.1,fun h=>by rw[<- hp.im];exact this.2 h⟩
 own k x e:=by
  rcases vM e with⟨a,ha,e⟩|⟨hn,hu,e⟩
  .
   rcases hp.gain.own _ _ e with⟨k0,x0,e0,hb0⟩|hge
   . obtain⟨k',e',_⟩:=hp.src _ _ e0
     grind
   omega
  grind
 par i:=by
  cases hw:W (.par i)with
  |some a=>rw[zh hw];exact hp.par i a hw
  |none=>exact zQ hw (.inl rfl)
 loc d hd:=qb1 hp hd
theorem XW {r a}(hw:W r=some a)(hb:r.boxed=a.boxed)(h:G1.ok a):(Gh.splice W G2 G1 F2).ok r:=by
 cases r with
 |loc d=>show(Gh.splice W G2 G1 F2).lv d;simp only[Gh.splice,hw];exact h
 |_=>trivial
theorem Qy {r}(hw:W r=none)(h:G2.ok r):(Gh.splice W G2 G1 F2).ok r:=by
 cases r with
 |loc d=>show(Gh.splice W G2 G1 F2).lv d;simp only[Gh.splice,hw];exact h
 |_=>trivial
theorem qY.ren (hp:Part W G2 GR G1 w w' F2 F):∀ {l m:List Cell} {vs:List Value},qev W l m->qY G1 l vs->qY (Gh.splice W G2 G1 F2) m vs
 |[],[],vs,_,h=>by cases vs<;>exact h
 |a::l,b::m,[],_,h=>h.elim
 |a::l,b::m,v::vs,⟨h1,h2⟩,⟨h3,h4⟩=>by
  refine⟨?_,qY.ren hp h2 h4⟩;cases a with
  |ptr q1=>
   cases b with
   |ptr q=>obtain⟨e1,e2,e3,e4⟩:=h1;obtain⟨f0,f1,x,f2,f3,f4⟩:=h3;refine⟨XW e1 (hp.bx _ _ e1) f0,by rw[e2];exact f1,x,?_,f3,by rw[e3,e4];exact f4⟩;rw[zh e1,e2];exact f2
   |_=>exact h1.elim
  |val u=>
   cases b with
   |val v'=>cases h1;exact h3
   |_=>exact h1.elim
  |_=>exact h3.elim
 |[],_::_,_,h,_=>h.elim
 |_::_,[],_,h,_=>h.elim
theorem Sh.ren (hp:Part W G2 GR G1 w w' F2 F){k a}(ha:W k.root=some a){r o c1 c u}(hr:RenC W c1 c)(h:Sh G1 w' ⟨⟨a,k.path⟩,r,o⟩ c1 u):Sh (Gh.splice W G2 G1 F2) w' ⟨k,r,o⟩ c u:=by
 have key:(Gh.splice W G2 G1 F2).γ (⟨k,r,o⟩:Pl).toKey=G1.γ (⟨⟨a,k.path⟩,r,o⟩:Pl).toKey:=zh (by exact ha);cases c1 with
 |val u'=>
  cases c with
  |val v'=>cases hr;exact h
  |_=>exact hr.elim
 |nil=>
  cases c with
  |nil=>exact h
  |_=>exact hr.elim
 |imm rows=>
  cases c with
  |imm b=>cases hr;exact h
  |_=>exact hr.elim
 |own zz rows=>
  cases c with
  |own zz' rows'=>obtain⟨rfl,rfl⟩:=hr;unfold Sh;rw[key];exact h
  |_=>exact hr.elim
 |mp es=>
  cases c with
  |mp es'=>cases hr;obtain⟨x,ents,clock,e1,e2,e3,e4⟩:=h;exact⟨x,ents,clock,by grind,e2,e3,e4⟩
  |_=>exact hr.elim
 |ptr q1=>
  cases c with
  |ptr q=>obtain⟨e1,e2,e3,e4⟩:=hr;obtain⟨f0,x,f2,f3,f4⟩:=h;refine⟨XW e1 (hp.bx _ _ e1) f0,x,?_,f3,by grind⟩;rw[zh e1,e2];exact f2
  |_=>exact hr.elim
 |cptr row o'=>
  cases c with
  |cptr row' o''=>obtain⟨rfl,rfl⟩:=hr;exact h
  |_=>exact hr.elim
 |ref q1=>
  cases c with
  |ref q=>
   obtain⟨e1,e2,e3,e4⟩:=hr;refine⟨XW e1 (hp.bx _ _ e1) h.1,?_⟩;have:q.toKey=⟨q.key.root,q1.toKey.path⟩:=by simp[Pl.toKey,e2,e3,e4]
   rw[this,zh (k:=⟨q.key.root,q1.toKey.path⟩) e1];exact h.2
  |_=>exact hr.elim
 |clo f fs cs=>
  cases c with
  |clo g fs' cs'=>obtain⟨rfl,h1,h2⟩:=hr;obtain⟨vs,us,e1,e2,e3⟩:=h;exact⟨vs,us,e1,e2.ren hp h1,e3.ren hp h2⟩
  |_=>exact hr.elim
 |dead=>cases c<;>exact hr.elim
theorem qb5 (hp:Part W G2 GR G1 w w' F2 F){q}(hg:qeH W q)(ho:G2.ok q.key.root)(hu:Uses F2 q.key):
  (Gh.splice W G2 G1 F2).ok q.key.root/\(Gh.splice W G2 G1 F2).γ q.key=G2.γ q.key:=by
 cases hw:W q.key.root with
 |none=>exact⟨Qy hw ho,zQ hw (.inr hu)⟩
 |some a=>
  rcases hg with hg|⟨h1,h2⟩
  . grind
  .
   obtain⟨⟨r,π⟩,i,j⟩:=q;simp only at *;subst h1;cases r with
   |slot k=>cases h2
   |res=>cases h2
   |par i=>exact⟨trivial,by rw[zh hw];exact hp.par i a hw⟩
   |loc d=>exact qb1 hp ho
theorem qY.keep (hp:Part W G2 GR G1 w w' F2 F):∀ {l:List Cell} {vs:List Value},(∀ q,.ptr q∈l->qeH W q/\Uses F2 q.key)->qY G2 l vs->qY (Gh.splice W G2 G1 F2) l vs
 |[],vs,_,h=>by cases vs<;>exact h
 |a::l,[],_,h=>h.elim
 |a::l,v::vs,hq,⟨h3,h4⟩=>by
  refine⟨?_,qY.keep hp (fun q hm=>hq q (aB _ hm)) h4⟩;cases a with
  |ptr q=>obtain⟨f0,f1,x,f2,f3,f4⟩:=h3;obtain⟨g1,g2⟩:=hq q au;obtain⟨k1,k2⟩:=qb5 hp g1 f0 g2;exact⟨k1,f1,x,by rw[k2];exact f2,f3,f4⟩
  |val u=>exact h3
  |_=>exact h3.elim
theorem Sh.keep (hp:Part W G2 GR G1 w w' F2 F)(h2:GInv G2 w){p}(hw:W p.key.root=none){c u}(hu:∀ k∈deps p c,Uses F2 k)(hg:qdX W c)(h:Sh G2 w p c u):Sh (Gh.splice W G2 G1 F2) w' p c u:=by
 have him:∀ b,G2.im b->G1.im b:=fun b h=>hp.gain.im b (by rw[hp.im];exact h);have hkeep:∀ b,G2.im b->w'.heap[b]? = w.heap[b]?:=fun b h=>hp.gain.keep b (by rw[hp.im];exact h);cases c with
 |val v=>exact h
 |nil=>exact h
 |imm rows=>exact RelI.mono him hkeep h
 |own zz rows=>unfold Sh;rw[zQ (k:=p.toKey) hw (.inr (hu _ (by simp[deps])))];exact h
 |mp es=>obtain⟨x,ents,clock,e1,e2,e3,e4,e5,e6⟩:=h;have huse:=hu p.toKey (by simp[deps]);obtain⟨g1,g2⟩:=hp.heap h2 (k:=p.toKey) hw (.inr huse) e1;exact⟨x,ents,clock,by rw[zQ (k:=p.toKey) hw (.inr huse)];exact e1,e2,e3,fun hi=>e4 (g2 hi),by grind,e6.mono him hkeep⟩
 |ptr q=>obtain⟨e0,x,e1,e2,e3⟩:=h;obtain⟨k1,k2⟩:=qb5 hp hg e0 (hu q.key (by simp[deps]));exact⟨k1,x,by grind,e2,e3⟩
 |cptr row o=>obtain⟨b,base,vs,T,fr,e1,e2,e3,e4⟩:=h;exact⟨b,base,vs,T,fr,him _ e1,e2,by grind,fun j c e=>let ⟨u,hu,hr⟩:=e4 j c e;⟨u,hu,hr.mono him hkeep⟩⟩
 |ref q=>exact⟨Qy hg h.1,by rw[zQ (k:=q.toKey) hg (.inr (hu _ (by simp[deps])))];exact h.2⟩
 |clo f fs cs=>
  obtain⟨vs,us,e1,e2,e3⟩:=h;have hm:∀ q,.ptr q∈fs++cs->qeH W q/\Uses F2 q.key:=fun q hq=>⟨hg q hq,hu _ (by
   simp only[deps,List.mem_filterMap]
   grind)⟩
  exact⟨vs,us,e1,e2.keep hp (fun q hq=>hm q (aL _ hq)),e3.keep hp (fun q hq=>hm q (aS _ hq))⟩
 |dead=>exact h
theorem yS.getR {a b}(h:yS W a b){x π rows}(e:Ab.getR b (x::π)=some rows):
  Ab.getR a (x::π)=some rows:=by
 obtain⟨r,o⟩:=x;simp only[Ab.getR]at *;cases hb:cellAt b r o with
 |none=>grind
 |some c=>
  rw[hb]at e;obtain⟨c1,h1,h2⟩:=h.2 r o c hb;rw[h1];cases c with
  |own z rs=>
   rcases h2 with h2|h2
   . cases h2
   . cases c1 with
     |own z' rs'=>obtain⟨_,rfl⟩:=h2;exact e
     |_=>exact h2.elim
  |_=>grind
theorem yJ.getR {a b}(h:yJ W a b){x π rows}(e:Ab.getR b (x::π)=some rows):
  Ab.getR a (x::π)=some rows:=by
 obtain⟨r,o⟩:=x;simp only[Ab.getR]at *;cases hb:cellAt b r o with
 |none=>grind
 |some c=>
  rw[hb]at e;obtain⟨c1,h1,h2⟩:=h.2 r o c hb
  grind
theorem yS.pure {rows}(h:∀ r o c,cellAt rows r o=some c->qw c=true):yS W rows rows:=⟨rfl,fun r o c e=>⟨c,e,by have:=h r o c e;cases c<;>simp_all[qw,RenC]⟩⟩
theorem yJ.pure {rows}(h:∀ r o c,cellAt rows r o=some c->qw c=true):yJ W rows rows:=⟨rfl,fun r o c e=>⟨c,e,.inr ⟨rfl,by have:=h r o c e;cases c<;>simp_all[qw,qdX]⟩⟩⟩
theorem qeo (h2:RelF G2 w F2 ts2)(h1:RelF G1 w' F1 ts1)(sp:Spliced W F1 F2 F ts1 ts2 ts){k rows}(e:F.rowsAt k=some rows)(hi:k.inHeap):
  (∃ a rows1,W k.root=some a/\F1.rowsAt ⟨a,k.path⟩=some rows1/\yS W rows1 rows/\(⟨a,k.path⟩:Key).inHeap)\/(W k.root=none/\∃ rows2,F2.rowsAt k=some rows2/\yJ W rows2 rows):=by
 obtain⟨r,π⟩:=k;have p1:∀ {k:Key} {rows:List (List Cell)},k.path≠[]->F1.rowsAt k=some rows->yS W rows rows:=fun hk e=>.pure fun r o c hc=>(h1.cont _ _ e (.inl hk)).pure hk hc;have p2:∀ {k:Key} {rows:List (List Cell)},k.path≠[]->F2.rowsAt k=some rows->yJ W rows rows:=fun hk e=>.pure fun r o c hc=>(h2.cont _ _ e (.inl hk)).pure hk hc;by_cases hs:∃ j,r=.slot j
 .
  obtain⟨j,rfl⟩:=hs;have hπ:π≠[]:=by
   rcases hi with hi|hi
   . exact hi
   . simp[Root.boxed]at hi
  cases π with
  |nil=>grind
  |cons x π=>
   unfold Fr.rowsAt at e;simp only[Fr.rows]at e;cases hj:F.slots[j]? with
   |none=>grind
   |some v=>
    simp only[hj,av,ae]at e;obtain⟨V,_,hc⟩:=sp.slot j v hj;rcases hc with⟨k1,v1,c1,c2,c3,c4,c5⟩|⟨c1,v2,c2,c3,c4,c5⟩|rfl
    . have e1:F1.rowsAt ⟨.slot k1,x::π⟩=some rows:=by simp only[Fr.rowsAt,Fr.rows,c2,av,ae];exact c5.getR e
      exact .inl ⟨_,rows,c1,e1,p1 (by simp) e1,.inl (by simp)⟩
    . have e1:F2.rowsAt ⟨.slot j,x::π⟩=some rows:=by simp only[Fr.rowsAt,Fr.rows,c2,av,ae];exact c5.getR e
      grind
    . rw[qbT (by simp)]at e;cases e
 .
  have hs':∀ k,r≠.slot k:=fun k e=>hs ⟨k,e⟩;unfold Fr.rowsAt at e;simp only at e;rw[Fr.rows_ns _ hs']at e;cases hb:F.boxes.lookup r with
  |none=>grind
  |some l=>
   simp only[hb,av,ae]at e;rcases sp.box r l hb with⟨r1,l1,c1,c2,c3⟩|⟨c1,l2,c2,c3⟩
   .
    have hb1:=(h1.boxes r1 l1 c2).1;have hs1:∀ k,r1≠.slot k:=fun k e=>by subst e;simp[Root.boxed]at hb1
    cases π with
    |nil=>simp only[Ab.getR,aa]at e;subst e;refine .inl ⟨r1,[l1],c1,?_,c3,.inr hb1⟩;simp only[Fr.rowsAt,F1.rows_ns hs1,c2,av,ae,Ab.getR]
    |cons x π=>
     have e1:F1.rowsAt ⟨r1,x::π⟩=some rows:=by simp only[Fr.rowsAt,F1.rows_ns hs1,c2,av,ae];exact c3.getR e
     exact .inl ⟨r1,rows,c1,e1,p1 (by simp) e1,.inl (by simp)⟩
   .
    cases π with
    |nil=>simp only[Ab.getR,aa]at e;subst e;refine .inr ⟨c1,[l2],?_,c3⟩;simp only[Fr.rowsAt,F2.rows_ns hs',c2,av,ae,Ab.getR]
    |cons x π=>
     have e1:F2.rowsAt ⟨r,x::π⟩=some rows:=by simp only[Fr.rowsAt,F2.rows_ns hs',c2,av,ae];exact c3.getR e
     grind
theorem qap (h2:RelF G2 w F2 ts2)(h1:RelF G1 w' F1 ts1)(sp:Spliced W F1 F2 F ts1 ts2 ts)(hp:Part W G2 GR G1 w w' F2 F):
  RelF (Gh.splice W G2 G1 F2) w' F ts/\Gain G2 w (Gh.splice W G2 G1 F2) w':=by
 refine⟨⟨qep hp h2.inv h1.inv,sp.len,fun k v e=>?_,fun r l e=>?_,fun d hd=>?_,fun k rows e hi=>?_⟩,qeE hp⟩
 .
  obtain⟨V,hV,hc⟩:=sp.slot k v e;refine⟨V,hV,?_⟩;rcases hc with⟨k1,v1,c1,c2,c3,c4,c5⟩|⟨c1,v2,c2,c3,c4,c5⟩|rfl
  .
   obtain⟨V',hV',hs,hr⟩:=h1.slots k1 v1 c2;have:V'=V:=by grind
   subst this;refine⟨by rw[c4,<- c5.1];exact hs,fun r o c hc=>?_⟩;obtain⟨cc,d1,d2⟩:=c5.2 r o c hc;obtain⟨u,hu,hh⟩:=hr r o cc d1;refine⟨u,by grind,?_⟩;rcases d2 with rfl|d2
   . grind
   . rcases hh with rfl|hh
     . cases c<;>exact d2.elim
     . exact .inr (Sh.ren hp (k:=⟨.slot k,[]⟩) c1 d2 hh)
  .
   obtain⟨V',hV',hs,hr⟩:=h2.slots k v2 c2;have:V'=V:=by grind
   subst this;refine⟨by rw[c4,<- c5.1];exact hs,fun r o c hc=>?_⟩;obtain⟨cc,d1,d2⟩:=c5.2 r o c hc;obtain⟨u,hu,hh⟩:=hr r o cc d1;refine⟨u,by grind,?_⟩;rcases d2 with rfl|⟨rfl,d2⟩
   . grind
   . rcases hh with rfl|hh
     . grind
     . exact .inr (Sh.keep hp h2.inv (p:=⟨⟨.slot k,[]⟩,r,o⟩) c1 (fun k' hk'=>.inr ⟨_,_,qz (zR c2) d1,hk'⟩) d2 hh)
  . refine⟨trivial,fun r o c hc=>?_⟩;obtain⟨rfl,rfl,rfl⟩:=one_cell hc;exact⟨V,rfl,.inl rfl⟩
 .
  rcases sp.box r l e with⟨r1,l1,c1,c2,c3⟩|⟨c1,l2,c2,c3⟩
  . have:=h1.boxes r1 l1 c2;exact⟨by rw[hp.bx _ _ c1];grind,XW c1 (hp.bx _ _ c1) this.2⟩
  . have:=h2.boxes r l2 c2;exact⟨this.1,Qy c1 this.2⟩
 .
  cases hw:W (.loc d)with
  |some a=>refine hp.comp d a hw ?_;simp only[Gh.splice,hw]at hd;exact hd
  |none=>refine hp.rest d hw ?_;simp only[Gh.splice,hw]at hd;exact hd
 .
  rcases qeo h2 h1 sp e hi with⟨a,rows1,c1,c2,c3,c4⟩|⟨c1,rows2,c2,c3⟩
  .
   have hlen:rows.length=rows1.length:=by simpa using (congrArg List.length c3.1).symm
   rcases h1.cont _ _ c2 c4 with⟨n1,n2,n3⟩|⟨x,vs,T,e1,e2,e3,e4,e5,e6,e7,e8,e9⟩
   . subst n2;exact .inl ⟨by rw[zh c1];exact n1,List.eq_nil_of_length_eq_zero hlen,n3⟩
   refine .inr ⟨x,vs,T,by rw[zh c1];exact e1,e2,e3,e4,fun row hr=>?_,by grind,by omega,fun hk=>⟨(e8 hk).1,fun r o c hc=>?_⟩,fun r o c hc=>?_⟩
   . have:row.length∈rows1.map List.length:=by rw[c3.1];grind
     grind
   . obtain⟨cc,d1,d2⟩:=c3.2 r o c hc;have:=(e8 hk).2 r o cc d1;rcases d2 with rfl|d2
     . rfl
     . cases cc<;>cases c<;>simp_all[qw,RenC]
   . obtain⟨cc,d1,d2⟩:=c3.2 r o c hc;obtain⟨u,hu,hh⟩:=e9 r o cc d1;refine⟨u,hu,?_⟩;rcases d2 with rfl|d2
     . exact hh.one
     . exact Sh.ren hp c1 d2 hh
  .
   have huse:Uses F2 k:=.inl ⟨by grind,hi⟩;have hlen:rows.length=rows2.length:=by simpa using (congrArg List.length c3.1).symm
   rcases h2.cont _ _ c2 hi with⟨n1,n2,n3⟩|⟨x,vs,T,e1,e2,e3,e4,e5,e6,e7,e8,e9⟩
   . subst n2;exact .inl ⟨by rw[zQ c1 (.inr huse)];exact n1,List.eq_nil_of_length_eq_zero hlen,n3⟩
   obtain⟨g1,g2⟩:=hp.heap h2.inv c1 (.inr huse) e1;refine .inr ⟨x,vs,T,by rw[zQ c1 (.inr huse)];exact e1,e2,fun hi'=>e3 (g2 hi'),by grind,fun row hr=>?_,by grind,by omega,
    fun hk=>⟨(e8 hk).1,fun r o c hc=>?_⟩,fun r o c hc=>?_⟩
   . have:row.length∈rows2.map List.length:=by rw[c3.1];grind
     grind
   . obtain⟨cc,d1,d2⟩:=c3.2 r o c hc;have:=(e8 hk).2 r o cc d1;rcases d2 with rfl|⟨rfl,_⟩
     . rfl
     omega
   . obtain⟨cc,d1,d2⟩:=c3.2 r o c hc;obtain⟨u,hu,hh⟩:=e9 r o cc d1;refine⟨u,hu,?_⟩;rcases d2 with rfl|⟨rfl,d2⟩
     . exact hh.one
     . exact Sh.keep hp h2.inv c1 (fun k' hk'=>.inr ⟨_,_,qz c2 d1,hk'⟩) d2 hh
end
end
section
variable [Glob]
def qcq (G:Gh)(w:World)(F:Fr)(xs:List (Option Pl))(v:AV)(V:Value):Prop:=∃ l us,zL G w F xs l us/\((v=.ag l/\V=.agg us.toArray)\/(∃ c,v=.c c/\l=[c]/\us=[V]))
theorem qcq.shr {G G' F F' w}(hs:Shr G F G' F')(inv:GInv G w){xs v V}(h:qcq G w F xs v V):qcq G' w F' xs v V:=by obtain⟨l,us,h1,h2⟩:=h;exact⟨l,us,h1.shr hs inv,h2⟩
def Args (G:Gh)(w:World)(F:Fr)(held:Nat->Bool):Nat->List (List (Option Pl))->List AV->List Value->Prop
 |_,[],[],[]=>True
 |j,xs::xss,v::vs,V::Vs=>(if held j then qcq G w F xs v V else xs=[]/\RelV G w v V)/\Args G w F held (j+1) xss vs Vs
 |_,_,_,_=>False
theorem Args.shr {G G' F F' w}(hs:Shr G F G' F')(inv:GInv G w){held}:∀ {j:Nat} {xss:List (List (Option Pl))} {vs:List AV} {Vs:List Value},
  Args G w F held j xss vs Vs->Args G' w F' held j xss vs Vs
 |_,[],[],[],_=>trivial
 |j,xs::xss,v::vs,V::Vs,⟨h1,h2⟩=>by
  refine⟨?_,h2.shr hs inv⟩;by_cases hj:held j=true
  . rw[aD hj]at *;exact h1.shr hs inv
  . rw[aF hj]at *;exact⟨h1.1,h1.2.shr hs⟩
 |_,[],[],_::_,h=>h.elim
 |_,[],_::_,_,h=>h.elim
 |_,_::_,[],_,h=>h.elim
 |_,_::_,_::_,[],h=>h.elim
theorem qdn {cx G w F F' ts}(h:RelF G w F ts){v v' V}(hv:RelV G w v V)(e:Qb cx F v=some (v',F')):
  ∃ im' xs,RelF { G with im:=im' } w F' ts/\Gain G w { G with im:=im' } w/\Shr G F { G with im:=im' } F'/\qcq { G with im:=im' } w F' xs v' V/\Dis xs /\
   ∀ s,some s∈xs->Uses F s.toKey:=by
 obtain⟨tag,rows⟩:=v;unfold Qb at e;split at e
 . rename_i x ht hr;simp only at ht hr;subst ht;subst hr;simp only[aG,Prod.exists,ai]at e;obtain⟨c',F1,e1,rfl,rfl⟩:=e;have e2:QB cx F [x]=some ([c'],F1):=by simp[QB,e1]
   obtain⟨u,hu,hx⟩:=hv.2 0 0 x rfl;simp only[qX,aa]at hu;subst hu;obtain⟨im',xs,a1,a2,a3,a4,a5,a6⟩:=Zl [x] [c'] [V] G F F1 h ⟨hx,trivial⟩ e2;exact⟨im',xs,a1,a2,a3,⟨[c'],[V],a4,.inr ⟨c',rfl,rfl,rfl⟩⟩,a5,a6⟩
 . rename_i l ht hr;simp only at ht hr;subst ht;subst hr;simp only[aG,Prod.exists,ai]at e;obtain⟨l',F1,e1,rfl,rfl⟩:=e;obtain⟨vs,rfl,e2,e3⟩:=hv.agg_inv;obtain⟨im',xs,a1,a2,a3,a4,a5,a6⟩:=Zl l l' vs.toList G F F1 h (vz.of_get (by omega) (fun o c ho=>by grind)) e1;exact⟨im',xs,a1,a2,a3,⟨l',vs.toList,a4,.inl ⟨rfl,by simp⟩⟩,a5,a6⟩
 grind
theorem qcq.nouse {G w F xs v V}(h:qcq G w F xs v V){s}(hm:some s∈xs):¬ Uses F s.toKey:=by obtain⟨l,us,h1,_⟩:=h;exact h1.nouse hm
theorem vX {cx f w ts}:∀ (vs:List AV) (Vs:List Value) (j:Nat) (vs':List AV) (G:Gh) (F F':Fr),RelF G w F ts ->
  vs.length=Vs.length->(∀ (j:Nat) v V,vs[j]? = some v->Vs[j]? = some V->RelV G w v V)->yT cx f F j vs=some (vs',F') ->
  ∃ im' xss,RelF { G with im:=im' } w F' ts/\Gain G w { G with im:=im' } w/\Shr G F { G with im:=im' } F'/\Args { G with im:=im' } w F' (cx.hand f) j xss vs' Vs/\Nod xss.flatten /\
   ∀ s,some s∈xss.flatten->Uses F s.toKey
 |[],[],j,vs',G,F,F',h,_,_,e=>by simp only[yT,aa,ai]at e;obtain⟨rfl,rfl⟩:=e;exact⟨G.im,[],h,Gain.refl G w,Shr.refl G F,trivial,List.nodup_nil,by intro s hs;simp at hs⟩
 |v::vs,V::Vs,j,vs',G,F,F',h,hl,hr,e=>by
  simp only[yT]at e;have hv:=hr 0 v V rfl rfl;by_cases hj:cx.hand f j=true
  .
   rw[aD hj]at e;cases h1:Qb cx F v with
   |none=>simp[h1]at e
   |some y=>
    obtain⟨v1,F1⟩:=y;simp only[h1]at e;cases h2:yT cx f F1 (j+1) vs with
    |none=>simp[h2]at e
    |some z=>
     obtain⟨vs1,F2⟩:=z;simp only[h2,aa,ai]at e;obtain⟨rfl,rfl⟩:=e;obtain⟨im1,xs,a1,a2,a3,a4,a5,a6⟩:=qdn h hv h1;obtain⟨im2,xss,b1,b2,b3,b4,b5,b6⟩:=vX vs Vs (j+1) vs1 { G with im:=im1 } F1 F2 a1 (by simpa using hl) (fun j x X hx hX=>(hr (j+1) x X (by simpa using hx) (by simpa using hX)).shr a3) h2;refine⟨im2,xs::xss,b1,a2.trans b2,a3.trans b3,⟨by rw[aD hj];exact a4.shr b3 a1.inv,b4⟩,?_,fun s hs=>?_⟩
     . unfold Nod;rw[List.flatten_cons,List.filterMap_append,List.nodup_append];refine⟨ZN.1 a5,b5,?_⟩;intro s hs s' hs' he;subst he;simp only[List.mem_filterMap,id,exists_eq_right]at hs hs';exact a4.nouse hs (b6 s hs')
     . rw[List.flatten_cons,List.mem_append]at hs;rcases hs with hs|hs
       . exact a6 s hs
       . exact a3.uses _ (b6 s hs)
  . rw[aF hj]at e;cases h2:yT cx f F (j+1) vs with
    |none=>simp[h2]at e
    |some z=>obtain⟨vs1,F2⟩:=z;simp only[h2,aa,ai]at e;obtain⟨rfl,rfl⟩:=e;obtain⟨im2,xss,b1,b2,b3,b4,b5,b6⟩:=vX vs Vs (j+1) vs1 G F F2 h (by simpa using hl) (fun j x X hx hX=>hr (j+1) x X (by simpa using hx) (by simpa using hX)) h2;refine⟨im2,[]::xss,b1,b2,b3,⟨by rw[aF hj];exact⟨rfl,hv.shr b3⟩,b4⟩,by simpa using b5,fun s hs=>b6 s (by simpa using hs)⟩
 |[],_::_,_,_,_,_,_,_,hl,_,_=>by simp at hl
 |_::_,[],_,_,_,_,_,_,hl,_,_=>by simp at hl
theorem qdq {F:Fr}{p rest rows}(h:F.rowsAt (p.under rest)=some rows):∃ zz rs,F.get p=some (.own zz rs):=by
 unfold Fr.rowsAt Pl.under at h;simp only at h;cases hr:F.rows p.key.root with
 |none=>grind
 |some rs=>
  simp only[hr,ae]at h;rw[qba]at h;cases hg:getR rs p.key.path with
  |none=>grind
  |some rs'=>
   simp only[hg,ae,getR]at h;cases hc:cellAt rs' p.r p.o with
   |none=>grind
   |some c=>
    rw[hc]at h;cases c with
    |own zz rows'=>exact⟨zz,rows',by simp[Fr.get,Fr.rowsAt,hr,hg,hc]⟩
    |_=>grind
theorem qi0 {F F':Fr}{p c}(h:F.set p c=some F'){r}(hr:r≠p.key.root):F'.rows r=F.rows r:=by
 unfold Fr.set at h;cases hx:F.rows p.key.root with
 |none=>grind
 |some rows=>
  simp only[hx]at h;cases hu:updR (putAt p.r p.o c) rows p.key.path with
  |none=>grind
  |some rows'=>
   simp only[hu,aa]at h;subst h;have hl:rows.map List.length=rows'.map List.length:=by
    have:=qe2 c p.r p.o p.key.path rows rows' hu
    grind
   rw[qao hx hl,aF hr]
def Froz (G:Gh)(F:Fr)(p:Pl)(im:Nat->Prop):Prop:=∀ rest rows h,F.rowsAt (p.under rest)=some rows->G.γ (p.under rest)=some h->im h.b
theorem xE {w ts}:∀ (ps:List Pl) (G:Gh) (F F':Fr),RelF G w F ts->zG F ps=some F' ->
  ∃ im',RelF { G with im:=im' } w F' ts/\Gain G w { G with im:=im' } w/\Shr G F { G with im:=im' } F' /\
   (∀ p∈ps,∀ zz rows,F.get p=some (.own zz rows)->Froz G F p im')/\∀ r,(∀ p∈ps,r≠p.key.root)->F'.rows r=F.rows r
 |[],G,F,F',h,e=>by simp only[zG,aa]at e;subst e;exact⟨G.im,h,Gain.refl G w,Shr.refl G F,by simp,by simp⟩
 |p::ps,G,F,F',h,e=>by
  have skip:zG F ps=some F'->(∀ zz rows,F.get p≠some (.own zz rows))->∃ im',RelF { G with im:=im' } w F' ts/\Gain G w { G with im:=im' } w/\Shr G F { G with im:=im' } F' /\
    (∀ q∈p::ps,∀ zz rows,F.get q=some (.own zz rows)->Froz G F q im')/\∀ r,(∀ q∈p::ps,r≠q.key.root)->F'.rows r=F.rows r:=by
   intro e hn;obtain⟨im',a1,a2,a3,a4,a5⟩:=xE ps G F F' h e
   grind
  simp only[zG]at e;split at e
  .
   rename_i zz rows hg;cases hs:F.set p (.imm (qG rows))with
   |none=>grind
   |some F1=>
    simp only[hs]at e;have st:=Fr.setTo hs;obtain⟨b1,b2,b3,b4⟩:=h.freezeAt hg st;obtain⟨im',a1,a2,a3,a4,a5⟩:=xE ps _ F1 F' b1 e;refine⟨im',a1,b2.trans a2,b3.trans a3,fun q hq zz' rows' hg'=>?_,fun r hr=>?_⟩
    .
     have hp:Froz G F p im':=fun rest rs x hx hy=>a3.im _ (.inr ⟨rest,rs,x,by rw[qoN hg]at hx;exact hx,hy,rfl⟩);rcases List.mem_cons.1 hq with rfl|hq
     . exact hp
     . intro rest rs x hx hy;by_cases hu:∃ π,q.under rest=p.under π
       . obtain⟨π,hu⟩:=hu;rw[hu]at hx hy;exact hp π rs x hx hy
       . rcases st.other (q.under rest) (fun π e=>hu ⟨π,e⟩)with⟨h1,_⟩|⟨a,b,h1,h2,_⟩
         . grind
         . obtain⟨z2,r2,hq2⟩:=qdq h2;exact a4 q hq z2 r2 hq2 rest b x h2 hy
    . rw[a5 r fun q hq=>hr q (aB _ hq)];exact qi0 hs (hr p au)
  grind
theorem qbt {G w F Ff ts im'}(h:RelF G w F ts)(hs:Shr G F { G with im:=im' } Ff){c c' ps V}(hc:c=.dead\/(Seen c/\∀ p,Sh G w p c V))(e:Yb F c=some (c',ps))(hf:∀ p∈ps,∀ zz rows,F.get p=some (.own zz rows)->Froz G F p im'):
  Hold { G with im:=im' } w Ff none c' V:=by
 rcases hc with rfl|⟨hc,hV⟩
 . simp[Yb]at e
 .
  have up:∀ {c:Cell},(∀ es,c≠.mp es)->(∀ p,Sh G w p c V)->∀ p,Sh { G with im:=im' } w p c V:=fun hm h p=>(h p).shr hs hm;cases c with
  |ref p=>
   simp only[Yb]at e;cases hg:F.get p with
   |none=>grind
   |some x=>
    rw[hg]at e;cases x with
    |own zz rows=>simp only[aa,ai]at e;obtain⟨rfl,rfl⟩:=e;have hn:¬ Seen (.own zz rows):=fun h=>h.1 zz rows rfl;obtain⟨o1,_⟩:=yD h hV hg hn;have fz:=hf p (by simp) zz rows hg;have:RelI im' w (immC (.own zz rows)) V:=Tree.relI hs.im (.own zz rows) p V rfl o1 (h.tree hg) (fun rest rs x hx hy=>fz rest rs x (by rw[qoN hg];exact hx) hy);exact⟨⟨by simp,by simp⟩,by simp,by simp,by simp,fun _=>this⟩
    |_=>grind
  |nil=>simp only[Yb,aa,ai]at e;obtain⟨rfl,rfl⟩:=e;have:V=.slice none 0 0:=hV ⟨⟨.res,[]⟩,0,0⟩;subst this;exact⟨⟨by simp,by simp⟩,by simp,by simp,by simp,fun _=>.immE none 0⟩
  |dead=>simp[Yb]at e
  |ptr q=>
   simp only[Yb]at e;split at e
   . rename_i hq;simp only[aa,ai]at e;obtain⟨rfl,rfl⟩:=e;exact⟨⟨by simp,by simp⟩,by simp,by simp,fun q' h'=>by grind,up (by simp) hV⟩
   grind
  |val u=>simp only[Yb,aa,ai]at e;obtain⟨rfl,rfl⟩:=e;exact⟨⟨by simp,by simp⟩,by simp,by simp,by simp,up (by simp) hV⟩
  |imm rows=>simp only[Yb,aa,ai]at e;obtain⟨rfl,rfl⟩:=e;exact⟨⟨by simp,by simp⟩,by simp,by simp,by simp,up (by simp) hV⟩
  |cptr row o=>simp only[Yb,aa,ai]at e;obtain⟨rfl,rfl⟩:=e;exact⟨⟨by simp,by simp⟩,by simp,by simp,by simp,up (by simp) hV⟩
  |clo f fs cs=>simp only[Yb,aa,ai]at e;obtain⟨rfl,rfl⟩:=e;exact⟨⟨by simp,by simp⟩,by simp,by simp,by simp,up (by simp) hV⟩
  |own zz rows=>exact absurd rfl (hc.1 zz rows)
  |mp es=>exact absurd rfl (hc.2 es)
theorem qbo {G w F Ff ts im'}(h:RelF G w F ts)(hs:Shr G F { G with im:=im' } Ff):∀ {l l':List Cell} {ps:List Pl} {us:List Value},
  vz G w l us->qci F l=some (l',ps)->(∀ p∈ps,∀ zz rows,F.get p=some (.own zz rows)->Froz G F p im')->zL { G with im:=im' } w Ff (List.replicate l.length none) l' us
 |[],l',ps,[],_,e,_=>by simp only[qci,aa,ai]at e;obtain⟨rfl,rfl⟩:=e;trivial
 |c::l,l',ps,u::us,⟨h1,h2⟩,e,hf=>by
  simp only[qci]at e;cases e1:Yb F c with
  |none=>simp[e1]at e
  |some y=>
   obtain⟨c',qs⟩:=y;simp only[e1]at e;cases e2:qci F l with
   |none=>simp[e2]at e
   |some z=>obtain⟨l1,qs'⟩:=z;simp only[e2,aa,ai]at e;obtain⟨rfl,rfl⟩:=e;exact⟨qbt h hs h1 e1 (fun p hp=>hf p (aL _ hp)),qbo h hs h2 e2 (fun p hp=>hf p (aS _ hp))⟩
 |[],_,_,_::_,h,_,_=>h.elim
 |_::_,_,_,[],h,_,_=>h.elim
theorem qen {G w F Ff ts im'}(h:RelF G w F ts)(hs:Shr G F { G with im:=im' } Ff){v v' ps V}(hv:RelV G w v V)(e:qgH F v=some (v',ps))(hf:∀ p∈ps,∀ zz rows,F.get p=some (.own zz rows)->Froz G F p im'):∃ n,qcq { G with im:=im' } w Ff (List.replicate n none) v' V:=by
 obtain⟨tag,rows⟩:=v;unfold qgH at e;split at e
 .
  rename_i x ht hr;simp only at ht hr;subst ht;subst hr;cases e1:Yb F x with
  |none=>grind
  |some y=>obtain⟨c',qs⟩:=y;simp only[e1,aa,ai]at e;obtain⟨rfl,rfl⟩:=e;obtain⟨u,hu,hx⟩:=hv.2 0 0 x rfl;simp only[qX,aa]at hu;subst hu;exact⟨1,[c'],[V],⟨qbt h hs hx e1 hf,trivial⟩,.inr ⟨c',rfl,rfl,rfl⟩⟩
 .
  rename_i l ht hr;simp only at ht hr;subst ht;subst hr;cases e1:qci F l with
  |none=>grind
  |some y=>obtain⟨l',qs⟩:=y;simp only[e1,aa,ai]at e;obtain⟨rfl,rfl⟩:=e;obtain⟨vs,rfl,e2,e3⟩:=hv.agg_inv;exact⟨l.length,l',vs.toList,qbo h hs (vz.of_get (by omega) (fun o c ho=>by grind)) e1 hf,.inl ⟨rfl,by simp⟩⟩
 grind
theorem qg5 (n)(xss:List (List (Option Pl))):((List.replicate n none++xss.flatten).filterMap id)=xss.flatten.filterMap id:=by simp_all
theorem Xx {cx f G w F Ff ts im'}(h:RelF G w F ts)(hs:Shr G F { G with im:=im' } Ff):
  ∀ {j:Nat} {xss:List (List (Option Pl))} {vs vs':List AV} {ps:List Pl} {Vs:List Value},Args G w F (cx.hand f) j xss vs Vs->vg cx f F j vs=some (vs',ps) ->
  (∀ p∈ps,∀ zz rows,F.get p=some (.own zz rows)->Froz G F p im') ->
  ∃ xss',Args { G with im:=im' } w Ff (fun _=>true) j xss' vs' Vs/\xss'.flatten.filterMap id=xss.flatten.filterMap id
 |j,[],[],vs',ps,[],_,e,_=>by simp only[vg,aa,ai]at e;obtain⟨rfl,rfl⟩:=e;exact⟨[],trivial,rfl⟩
 |j,xs::xss,v::vs,vs',ps,V::Vs,⟨h1,h2⟩,e,hf=>by
  simp only[vg]at e;cases e1:(if cx.hand f j then some (v,[])else qgH F v)with
  |none=>simp only[e1]at e;cases e
  |some y=>
   obtain⟨v1,qs⟩:=y;simp only[e1]at e;cases e2:vg cx f F (j+1) vs with
   |none=>simp[e2]at e
   |some z=>
    obtain⟨vs1,qs'⟩:=z;simp only[e2,aa,ai]at e;obtain⟨rfl,rfl⟩:=e;obtain⟨xss',a1,a2⟩:=Xx h hs h2 e2 (fun p hp=>hf p (aS _ hp));by_cases hj:cx.hand f j=true
    . rw[aD hj]at h1 e1;simp only[aa,ai]at e1;obtain⟨rfl,rfl⟩:=e1;refine⟨xs::xss',⟨by rw[aD rfl];exact h1.shr hs h.inv,a1⟩,?_⟩;rw[List.flatten_cons,List.flatten_cons,List.filterMap_append,List.filterMap_append,a2]
    . rw[aF hj]at h1 e1;obtain⟨rfl,h1⟩:=h1;obtain⟨n,b1⟩:=qen h hs h1 e1 (fun p hp=>hf p (aL _ hp));refine⟨List.replicate n none::xss',⟨by rw[aD rfl];exact b1,a1⟩,?_⟩;rw[List.flatten_cons,List.flatten_cons,qg5,a2];rfl
 |_,[],[],_,_,_::_,h,_,_=>h.elim
 |_,[],_::_,_,_,_,h,_,_=>h.elim
 |_,_::_,[],_,_,_,h,_,_=>h.elim
 |_,_::_,_::_,_,_,[],h,_,_=>h.elim
end
section
variable [Glob]
theorem zM {α β f}:∀ {l:List α} {l':List β},mapO f l=some l'->l'.length=l.length/\∀ (i:Nat) y,l'[i]? = some y->∃ x,l[i]? = some x/\f x=some y
 |[],l',e=>by simp only[mapO,aa]at e;subst e;simp
 |x::l,l',e=>by
  simp only[mapO]at e;cases h1:f x with
  |none=>simp[h1]at e
  |some y=>
   cases h2:mapO f l with
   |none=>simp[h1,h2]at e
   |some ys=>
    simp only[h1,h2,aa]at e;subst e;obtain⟨g1,g2⟩:=zM h2;refine⟨by simp[g1],fun i z hz=>?_⟩;cases i with
    |zero=>simp only[aI,aa]at hz;subst hz;exact⟨x,rfl,h1⟩
    |succ i=>simpa using g2 i z (by simpa using hz)
theorem xu {l r r'}(h:idxOf l r=some r'):∃ i,r'=.par i/\l[i]? = some r:=by
 unfold idxOf at h;simp only[aG]at h;obtain⟨i,h1,rfl⟩:=h;refine⟨i,rfl,?_⟩;unfold List.idxOf? at h1;rw[List.findIdx?_eq_some_iff_getElem]at h1
 grind
theorem qb9:∀ {l:List Root},nodupB l=true->l.Nodup
 |[],_=>List.nodup_nil
 |r::l,h=>by simp only[nodupB,aC,Bool.not_eq_true',List.contains_eq_mem,decide_eq_false_iff_not]at h;exact List.nodup_cons.2 ⟨h.1,qb9 h.2⟩
theorem qdD {α:Type}{l:List α}(h:l.Nodup){i j:Nat}{x}(hi:l[i]? = some x)(hj:l[j]? = some x):i=j:=by obtain⟨h1,e1⟩:=az.1 hi;obtain⟨h2,e2⟩:=az.1 hj;exact(List.getElem_inj h).1 (e1.trans e2.symm)
theorem qiG {l}(hn:l.Nodup){i r}(h:l[i]? = some r):idxOf l r=some (.par i):=by
 unfold idxOf;cases hx:l.idxOf? r with
 |none=>grind
 |some k=>
  have:idxOf l r=some (.par k):=by unfold idxOf;grind
  obtain⟨k',e1,e2⟩:=xu this;cases e1;rw[qdD hn h e2];rfl
theorem qji {f W}(hW:∀ r r',f r=some r'->W r'=some r){c1 c}(e:renF f c1=some c):RenX W c1 c:=by
 cases c1 with
 |ptr q=>simp only[renF,renP,Option.map_map,aG]at e;obtain⟨r',h1,rfl⟩:=e;exact⟨hW _ _ h1,rfl,rfl,rfl⟩
 |val v=>simp only[renF,aa]at e;subst e;rfl
 |_=>simp[renF]at e
theorem qbs {f W}(hW:∀ r r',f r=some r'->W r'=some r):∀ {l m:List Cell},mapO (renF f) l=some m->qev W l m
 |[],m,e=>by simp only[mapO,aa]at e;subst e;trivial
 |c::l,m,e=>by
  simp only[mapO]at e;cases h1:renF f c with
  |none=>simp[h1]at e
  |some y=>
   cases h2:mapO (renF f) l with
   |none=>simp[h1,h2]at e
   |some ys=>simp only[h1,h2,aa]at e;subst e;exact⟨qji hW h1,qbs hW h2⟩
theorem qfI {f W}(hW:∀ r r',f r=some r'->W r'=some r){c1 c}(e:renC f c1=some c):c=.dead\/RenC W c1 c:=by
 cases c1 with
 |ptr q=>simp only[renC,renP,Option.map_map,aG]at e;obtain⟨r',h1,rfl⟩:=e;exact .inr ⟨hW _ _ h1,rfl,rfl,rfl⟩
 |clo g fs cs=>
  simp only[renC]at e;cases h1:mapO (renF f) fs with
  |none=>grind
  |some fs'=>
   cases h2:mapO (renF f) cs with
   |none=>grind
   |some cs'=>simp only[h1,h2,aa]at e;subst e;exact .inr ⟨rfl,qbs hW h1,qbs hW h2⟩
 |ref q=>simp[renC]at e
 |dead=>simp only[renC,aa]at e;grind
 |own z rows=>simp only[renC,aa]at e;subst e;exact .inr ⟨rfl,rfl⟩
 |cptr z rows=>simp only[renC,aa]at e;subst e;exact .inr ⟨rfl,rfl⟩
 |nil=>simp only[renC,aa]at e;subst e;exact .inr trivial
 |_=>simp only[renC,aa]at e;subst e;exact .inr rfl
theorem qbh {f W}(hW:∀ r r',f r=some r'->W r'=some r){l l'}(e:mapO (renC f) l=some l'):yS W [l] [l']:=by obtain⟨g1,g2⟩:=zM e;refine⟨by grind,fun r o c hc=>?_⟩;obtain⟨rfl,ho⟩:=zI hc;obtain⟨x,h1,h2⟩:=g2 o c ho;exact⟨x,by simp[cellAt,h1],qfI hW h2⟩
theorem Qf {f W}(hW:∀ r r',f r=some r'->W r'=some r){l l'}(e:mapO (mapO (renC f)) l=some l'):yS W l l':=by
 obtain⟨g1,g2⟩:=zM e;refine⟨?_,fun r o c hc=>?_⟩
 .
  apply List.ext_getElem?;intro i;rw[aH,aH];cases h:l'[i]? with
  |none=>grind
  |some y=>obtain⟨x,h1,h2⟩:=g2 i y h;rw[h1];simp[(zM h2).1]
 . obtain⟨row,h1,h2⟩:=qc.1 hc;obtain⟨x,h3,h4⟩:=g2 r row h1;obtain⟨y,h5,h6⟩:=(zM h4).2 o c h2;exact⟨y,by simp[cellAt,h3,h5],qfI hW h6⟩
section
variable {W:Root->Option Root} {G1 Gc:Gh} {w:World}
theorem qY.ren2 (hok:∀ r a,W r=some a->G1.ok a->Gc.ok r)(hγ:∀ r a π,W r=some a->Gc.γ ⟨r,π⟩=G1.γ ⟨a,π⟩):∀ {l m:List Cell} {vs:List Value},qev W l m->qY G1 l vs->qY Gc m vs
 |[],[],vs,_,h=>by cases vs<;>exact h
 |a::l,b::m,[],_,h=>h.elim
 |a::l,b::m,v::vs,⟨h1,h2⟩,⟨h3,h4⟩=>by
  refine⟨?_,qY.ren2 hok hγ h2 h4⟩;cases a with
  |ptr q1=>
   cases b with
   |ptr q=>obtain⟨e1,e2,e3,e4⟩:=h1;obtain⟨f0,f1,x,f2,f3,f4⟩:=h3;refine⟨hok _ _ e1 f0,by rw[e2];exact f1,x,?_,f3,by rw[e3,e4];exact f4⟩;have:=hγ _ _ q.key.path e1;rw[show q.key=⟨q.key.root,q.key.path⟩from rfl,this,e2];exact f2
   |_=>exact h1.elim
  |val u=>
   cases b with
   |val v'=>cases h1;exact h3
   |_=>exact h1.elim
  |_=>exact h3.elim
 |[],_::_,_,h,_=>h.elim
 |_::_,[],_,h,_=>h.elim
theorem Sh.ren2 (hok:∀ r a,W r=some a->G1.ok a->Gc.ok r)(hγ:∀ r a π,W r=some a->Gc.γ ⟨r,π⟩=G1.γ ⟨a,π⟩)(him:Gc.im=G1.im){p1 p c1 c u}(hr:RenC W c1 c)(hkey:¬ Seen c1->Gc.γ p.toKey=G1.γ p1.toKey)(h:Sh G1 w p1 c1 u):Sh Gc w p c u:=by
 cases c1 with
 |val u'=>
  cases c with
  |val v'=>cases hr;exact h
  |_=>exact hr.elim
 |nil=>
  cases c with
  |nil=>exact h
  |_=>exact hr.elim
 |imm rows=>
  cases c with
  |imm b=>cases hr;unfold Sh;rw[him];exact h
  |_=>exact hr.elim
 |own zz rows=>
  cases c with
  |own zz' rows'=>obtain⟨rfl,rfl⟩:=hr;unfold Sh;rw[hkey (fun h=>h.1 zz rows rfl)];exact h
  |_=>exact hr.elim
 |mp es=>
  cases c with
  |mp es'=>cases hr;obtain⟨x,ents,clock,e1,e2,e3,e4,e5,e6⟩:=h;exact⟨x,ents,clock,by rw[hkey (fun h=>h.2 es rfl)];exact e1,e2,e3,by grind,e5,by grind⟩
  |_=>exact hr.elim
 |ptr q1=>
  cases c with
  |ptr q=>obtain⟨e1,e2,e3,e4⟩:=hr;obtain⟨f0,x,f2,f3,f4⟩:=h;refine⟨hok _ _ e1 f0,x,?_,f3,by grind⟩;simp_all
  |_=>exact hr.elim
 |cptr row o'=>
  cases c with
  |cptr row' o''=>obtain⟨rfl,rfl⟩:=hr;obtain⟨b,base,vs,T,fr,e1,e2,e3,e4⟩:=h;exact⟨b,base,vs,T,fr,by grind,e2,e3,by grind⟩
  |_=>exact hr.elim
 |ref q1=>
  cases c with
  |ref q=>
   obtain⟨e1,e2,e3,e4⟩:=hr;refine⟨hok _ _ e1 h.1,?_⟩;have:q.toKey=⟨q.key.root,q1.toKey.path⟩:=by simp[Pl.toKey,e2,e3,e4]
   rw[this,hγ _ _ _ e1];exact h.2
  |_=>exact hr.elim
 |clo f fs cs=>
  cases c with
  |clo g fs' cs'=>obtain⟨rfl,h1,h2⟩:=hr;obtain⟨vs,us,e1,e2,e3⟩:=h;exact⟨vs,us,e1,e2.ren2 hok hγ h1,e3.ren2 hok hγ h2⟩
  |_=>exact hr.elim
 |dead=>cases c<;>exact hr.elim
theorem qU.ren2 (hok:∀ r a,W r=some a->G1.ok a->Gc.ok r)(hγ:∀ r a π,W r=some a->Gc.γ ⟨r,π⟩=G1.γ ⟨a,π⟩)(him:Gc.im=G1.im){k1 k rows1 rows}(hr:yS W rows1 rows)(hp:k.path≠[]↔k1.path≠[])(hk:Gc.γ k=G1.γ k1)(hsub:∀ r o,Gc.γ (⟨k,r,o⟩:Pl).toKey=G1.γ (⟨k1,r,o⟩:Pl).toKey)(h:qU G1 w k1 rows1):qU Gc w k rows:=by
 have hlen:rows.length=rows1.length:=by simpa using (congrArg List.length hr.1).symm
 rcases h with⟨n1,n2,n3⟩|⟨x,vs,T,e1,e2,e3,e4,e5,e6,e7,e8,e9⟩
 . subst n2;exact .inl ⟨by grind,List.eq_nil_of_length_eq_zero hlen,hp.2 n3⟩
 refine .inr ⟨x,vs,T,by grind,e2,by grind,e4,fun row hrow=>?_,by grind,by omega,fun hk=>⟨(e8 (hp.1 hk)).1,fun r o c hc=>?_⟩,fun r o c hc=>?_⟩
 . have:row.length∈rows1.map List.length:=by rw[hr.1];grind
   grind
 .
  obtain⟨cc,d1,d2⟩:=hr.2 r o c hc;have:=(e8 (hp.1 hk)).2 r o cc d1;rcases d2 with rfl|d2
  . rfl
  . cases cc<;>cases c<;>simp_all[qw,RenC]
 .
  obtain⟨cc,d1,d2⟩:=hr.2 r o c hc;obtain⟨u,hu,hh⟩:=e9 r o cc d1;refine⟨u,hu,?_⟩;rcases d2 with rfl|d2
  . exact hh.one
  . exact Sh.ren2 hok hγ him d2 (fun _=>hsub r o) hh
end
theorem za:∀ (bx:List (List Cell)) (n:Nat) (r:Root) (l:List Cell),(qd n bx).lookup r=some l->∃ i,r=.par (n+i)/\bx[i]? = some l
 |[],n,r,l,e=>by simp[qd]at e
 |b::bx,n,r,l,e=>by
  simp only[qd,List.lookup_cons]at e;by_cases h:r=.par n
  . subst h;simp only[beq_self_eq_true,aa]at e;subst e;exact⟨0,rfl,rfl⟩
  . have:(r==Root.par n)=false:=by simp[h]
    rw[this]at e;obtain⟨i,h1,h2⟩:=za bx (n+1) r l e;exact⟨i+1,by rw[h1];congr 1;omega,by simpa using h2⟩
theorem qbj:∀ (bx:List (List Cell)) (n i:Nat),(qd n bx).lookup (.par (n+i))=bx[i]?
 |[],n,i=>by simp[qd]
 |b::bx,n,0=>by simp[qd]
 |b::bx,n,i+1=>by
  have:(Root.par (n+(i+1))==Root.par n)=false:=by simp
  simp only[qd,List.lookup_cons,this];have:=qbj bx (n+1) i
  grind
def qo0 (xss:List (List (Option Pl)))(j o:Nat):Option Pl:=match xss[j]? with
 |some xs=>match xs[o]? with
  |some (some s)=>some s
  |_=>none
 |none=>none
theorem ZH {xss j o s}(h:qo0 xss j o=some s):∃ xs,xss[j]? = some xs/\xs[o]? = some (some s):=by
 unfold qo0 at h
 grind
theorem qaP:∀ {xss:List (List (Option Pl))},(xss.flatten.filterMap id).Nodup->∀ {j o j' o':Nat} {s:Pl},qo0 xss j o=some s->qo0 xss j' o'=some s->j=j'/\o=o'
 |[],_,j,o,j',o',s,h,_=>by simp[qo0]at h
 |xs::xss,hn,j,o,j',o',s,h,h'=>by
  rw[List.flatten_cons,List.filterMap_append,List.nodup_append]at hn;obtain⟨n1,n2,n3⟩:=hn;have inhd:∀ {o},qo0 (xs::xss) 0 o=some s->xs[o]? = some (some s):=fun e=>by obtain⟨ys,e1,e2⟩:=ZH e;simp only[aI,aa]at e1;subst e1;exact e2
  have shift:∀ {j o},qo0 (xs::xss) (j+1) o=qo0 xss j o:=fun {j o}=>by simp[qo0]
  have inm:∀ {j o},qo0 xss j o=some s->s∈xss.flatten.filterMap id:=fun e=>by obtain⟨ys,e1,e2⟩:=ZH e;simp only[List.mem_filterMap,id,exists_eq_right,List.mem_flatten];exact⟨ys,aM e1,aM e2⟩
  have inm0:∀ {o},xs[o]? = some (some s)->s∈xs.filterMap id:=fun e=>by simp only[List.mem_filterMap,id,exists_eq_right];exact aM e
  cases j with
  |zero=>
   cases j' with
   |zero=>exact⟨rfl,ZN.2 n1 _ _ _ (inhd h) (inhd h')⟩
   |succ j'=>exact absurd rfl (n3 s (inm0 (inhd h)) s (inm (by rw[shift]at h';exact h')))
  |succ j=>
   cases j' with
   |zero=>exact absurd rfl (n3 s (inm0 (inhd h')) s (inm (by rw[shift]at h;exact h)))
   |succ j'=>rw[shift]at h h';obtain⟨rfl,rfl⟩:=qaP n2 h h';exact⟨rfl,rfl⟩
theorem Args.get {G w F}:∀ {j0:Nat} {xss:List (List (Option Pl))} {vs:List AV} {Vs:List Value},Args G w F (fun _=>true) j0 xss vs Vs->vs.length=Vs.length /\
  ∀ (j:Nat) v,vs[j]? = some v->∃ xs V,xss[j]? = some xs/\Vs[j]? = some V/\qcq G w F xs v V
 |_,[],[],[],_=>⟨rfl,by simp⟩
 |j0,xs::xss,v::vs,V::Vs,⟨h1,h2⟩=>by
  obtain⟨g1,g2⟩:=h2.get;rw[aD rfl]at h1;refine⟨by simp[g1],fun j v' e=>?_⟩;cases j with
  |zero=>simp only[aI,aa]at e;subst e;exact⟨xs,V,rfl,rfl,h1⟩
  |succ j=>simpa using g2 j v' (by simpa using e)
 |_,[],[],_::_,h=>h.elim
 |_,[],_::_,_,h=>h.elim
 |_,_::_,[],_,h=>h.elim
 |_,_::_,_::_,[],h=>h.elim
def Gh.enter (G:Gh)(roots:List Root)(xss:List (List (Option Pl))):Gh where
 γ k:=match k.root with
  |.par i=>match roots[i]? with
   |some r=>G.γ ⟨r,k.path⟩
   |none=>none
  |.slot j=>match k.path with
   |(0,o)::π=>match qo0 xss j o with
    |some s=>G.γ (s.under π)
    |none=>none
   |_=>none
  |_=>none
 im:=G.im
 lv _:=False
theorem vL {G:Gh}{roots xss k x}(e:(G.enter roots xss).γ k=some x):
  (∃ i r,k.root=.par i/\roots[i]? = some r/\G.γ ⟨r,k.path⟩=some x)\/(∃ j o π s,k=⟨.slot j,(0,o)::π⟩/\qo0 xss j o=some s/\G.γ (s.under π)=some x):=by
 obtain⟨r,path⟩:=k;unfold Gh.enter at e
 grind
theorem qio {G w F ts}(h:RelF G w F ts){xss args Vs}(ha:Args G w F (fun _=>true) 0 xss args Vs)(hd:(xss.flatten.filterMap id).Nodup){roots}(hr:roots.Nodup){args' bx}(e1:mapO (renV (idxOf roots)) args=some args')(e2:mapO (qbl F (idxOf roots)) roots=some bx):
  RelF (G.enter roots xss) w ⟨args',qd 0 bx⟩ Vs.toArray /\
   (∀ k1 x,(G.enter roots xss).γ k1=some x->∃ k,G.γ k=some x/\((∃ i:Nat,roots[i]? = some k.root)\/(k.path≠[]/\¬ Uses F k))) /\
   (∀ (i:Nat) r,roots[i]? = some r->r.boxed=true/\∃ l,F.boxes.lookup r=some l):=by
 obtain⟨a1,a2⟩:=ha.get;obtain⟨m1,m2⟩:=zM e1;obtain⟨n1,n2⟩:=zM e2;have hroot:∀ (i:Nat) r,roots[i]? = some r->∃ l l',r.boxed=true/\F.boxes.lookup r=some l/\mapO (renC (idxOf roots)) l=some l'/\bx[i]? = some l':=by
  intro i r hi;have hlt:i<bx.length:=by grind
  obtain⟨r',h1,h2⟩:=n2 i _ (ax hlt);rw[hi]at h1;cases h1;unfold qbl at h2;split at h2
  . rename_i hb;simp only[Option.bind_eq_some_iff]at h2
    grind
  grind
 have src:∀ {j o s},qo0 xss j o=some s->(∃ k a b,s=⟨⟨.slot k,[]⟩,a,b⟩)/\∀ π,¬ Uses F (s.under π):=by
  intro j o s e;obtain⟨xs,f1,f2⟩:=ZH e;have hlt:j<xss.length:=(az.1 f1).1;have:∃ v,args[j]? = some v:=by
   have hl:xss.length=args.length:=by
    clear m1 m2 hroot n1 n2 e1 e2 e f1 f2 hlt a1 a2 hd;generalize (0:Nat)=z at ha
    induction xss generalizing z args Vs with
    |nil=>cases args<;>cases Vs<;>first|rfl|exact ha.elim
    |cons x xss ih=>cases args<;>cases Vs<;>first|exact ha.elim|(simp[ih _ ha.2])
   simp_all
  obtain⟨v,hv⟩:=this;obtain⟨xs',V,g1,g2,l,us,g3,_⟩:=a2 j v hv;rw[f1]at g1;cases g1;have ho:o<l.length:=by rw[<- g3.len.1];grind
  obtain⟨x,u,i1,i2,i3⟩:=g3.get (ax ho);rw[f2]at i1;cases i1;exact⟨i3.1,i3.2.2.2.2⟩
 have hW:∀ r r',idxOf roots r=some r'->yP roots r'=some r:=fun r r' e=>by obtain⟨i,rfl,h2⟩:=xu e;exact h2
 have hγ:∀ r a π,yP roots r=some a->(G.enter roots xss).γ ⟨r,π⟩=G.γ ⟨a,π⟩:=by
  intro r a π e;cases r with
  |par i=>simp only[yP]at e;simp only[Gh.enter,e]
  |_=>simp[yP]at e
 have hok:∀ r a,yP roots r=some a->G.ok a->(G.enter roots xss).ok r:=by
  intro r a e _;cases r with
  |par i=>trivial
  |_=>simp[yP]at e
 refine⟨⟨⟨fun k k' x x' e e' hb=>?_,fun k x e=>?_,h.inv.imlt,h.inv.glob⟩,by grind,fun j v' e=>?_,fun r l e=>?_,fun d hd=>hd.elim,fun k rows e hi=>?_⟩,fun k1 x e=>?_,fun i r hi=>?_⟩
 .
  rcases vL e with⟨i,r,f1,f2,f3⟩|⟨j,o,π,s,rfl,f2,f3⟩
  . rcases vL e' with⟨i',r',f1',f2',f3'⟩|⟨j',o',π',s',rfl,f2',f3'⟩
    . have:=h.inv.inj _ _ _ _ f3 f3' hb;simp only[Key.mk.injEq]at this;obtain⟨rfl,hp⟩:=this;have:=qdD hr f2 f2';subst this;cases k;cases k';simp_all
    . have:=h.inv.inj _ _ _ _ f3 f3' hb;obtain⟨⟨k0,a,b,rfl⟩,_⟩:=src f2';obtain⟨_,_,hb,_⟩:=hroot i r f2;simp only[Pl.under,Key.mk.injEq]at this;rw[this.1]at hb;simp[Root.boxed]at hb
  . rcases vL e' with⟨i',r',f1',f2',f3'⟩|⟨j',o',π',s',rfl,f2',f3'⟩
    . have:=h.inv.inj _ _ _ _ f3 f3' hb;obtain⟨⟨k0,a,b,rfl⟩,_⟩:=src f2;obtain⟨_,_,hb,_⟩:=hroot i' r' f2';simp only[Pl.under,Key.mk.injEq]at this;rw[<- this.1]at hb;simp[Root.boxed]at hb
    . have:=h.inv.inj _ _ _ _ f3 f3' hb;obtain⟨⟨k0,a,b,rfl⟩,_⟩:=src f2;obtain⟨⟨k0',a',b',rfl⟩,_⟩:=src f2';simp only[Pl.under,Key.mk.injEq,Root.slot.injEq,List.nil_append,List.cons.injEq,ai]at this;obtain⟨rfl,⟨rfl,rfl⟩,rfl⟩:=this;obtain⟨rfl,rfl⟩:=qaP hd f2 f2';rfl
 .
  rcases vL e with⟨i,r,f1,f2,f3⟩|⟨j,o,π,s,rfl,f2,f3⟩
  . exact h.inv.lt _ _ f3
  . exact h.inv.lt _ _ f3
 .
  obtain⟨v,f1,f2⟩:=m2 j v' e;obtain⟨xs,V,g1,g2,l,us,g3,g4⟩:=a2 j v f1;refine⟨V,by grind,?_⟩;have hrows:v.rows=[l]:=by rcases g4 with⟨rfl,_⟩|⟨c,rfl,rfl,_⟩<;>rfl
  unfold renV at f2;cases hm:mapO (mapO (renC (idxOf roots))) v.rows with
  |none=>grind
  |some rows'=>
   simp only[hm,aa]at f2;subst f2;have rr:=Qf hW hm;rw[hrows]at rr;refine⟨?_,fun r o c hc=>?_⟩
   . simp only[<- rr.1];rcases g4 with⟨rfl,rfl⟩|⟨c,rfl,rfl,rfl⟩
     . exact⟨_,rfl,by simp[g3.len.2]⟩
     . trivial
   .
    obtain⟨c1,d1,d2⟩:=rr.2 r o c hc;obtain⟨rfl,d3⟩:=zI d1;obtain⟨x,u,i1,i2,i3⟩:=g3.get d3;refine⟨u,?_,?_⟩
    .
     rcases g4 with⟨rfl,rfl⟩|⟨c,rfl,rfl,rfl⟩
     . simpa [qX,AV.ag]using i2
     . cases o with
       |zero=>simpa [qX,AV.c]using i2
       |succ o=>grind
    .
     rcases d2 with rfl|d2
     . grind
     . right;cases x with
       |none=>exact Sh.ren2 hok hγ rfl d2 (fun hn=>absurd i3.1 hn) (i3.2.2.2.2 ⟨⟨.res,[]⟩,0,0⟩)
       |some s=>
        refine Sh.ren2 hok hγ rfl d2 (fun _=>?_) i3.2.2.1;have:qo0 xss j o=some s:=by simp[qo0,g1,i1]
        simp only[Gh.enter,Pl.toKey,List.nil_append,this];rfl
 . obtain⟨i,h1,h2⟩:=za _ _ _ _ e;rw[h1];exact⟨rfl,trivial⟩
 .
  obtain⟨r,path⟩:=k;cases r with
  |slot j=>
   have hπ:path≠[]:=by
    rcases hi with hi|hi
    . exact hi
    . simp[Root.boxed]at hi
   cases path with
   |nil=>grind
   |cons y π=>
    obtain⟨r,o⟩:=y;unfold Fr.rowsAt at e;simp only[Fr.rows]at e;cases hj:args'[j]? with
    |none=>grind
    |some v'=>
     simp only[hj,av,ae]at e;obtain⟨v,f1,f2⟩:=m2 j v' hj;obtain⟨xs,V,g1,g2,l,us,g3,g4⟩:=a2 j v f1;have hrows:v.rows=[l]:=by rcases g4 with⟨rfl,_⟩|⟨c,rfl,rfl,_⟩<;>rfl
     unfold renV at f2;cases hm:mapO (mapO (renC (idxOf roots))) v.rows with
     |none=>grind
     |some rows'=>
      simp only[hm,aa]at f2;subst f2;have rr:=Qf hW hm;rw[hrows]at rr;have e':=rr.getR e;simp only[getR]at e';cases hc:cellAt [l] r o with
      |none=>grind
      |some c=>
       rw[hc]at e';obtain⟨rfl,d3⟩:=zI hc;obtain⟨x,u,i1,i2,i3⟩:=g3.get d3;cases x with
       |none=>
        cases c with
        |own zz rs=>exact absurd rfl (i3.1.1 zz rs)
        |_=>grind
       |some s=>
        have hs:qo0 xss j o=some s:=by simp[qo0,g1,i1]
        have hc':subR c π=some rows:=by cases c<;>first|exact e'|simp at e'
        have tr:=i3.2.2.2.1 π rows hc';have hp:=fun r o c (e:cellAt _ r o=some c)=>tr.pure (by simp[Pl.under]) e;refine qU.ren2 (W:=yP roots) hok hγ rfl (.pure hp) (by simp[Pl.under]) ?_ (fun r' o'=>?_) tr
        . simp only[Gh.enter,hs]
        . simp only[Gh.enter,Pl.toKey,List.cons_append,hs,Pl.under,List.append_assoc]
  |par i=>
   unfold Fr.rowsAt at e;have hns:∀ k,Root.par i≠.slot k:=by simp
   simp only at e;rw[Fr.rows_ns _ hns]at e;cases hb:(qd 0 bx).lookup (.par i)with
   |none=>grind
   |some l'=>
    simp only[hb,av,ae]at e;obtain⟨i',h1,h2⟩:=za _ _ _ _ hb;have:i'=i:=by grind
    subst this;have hlt:i'<roots.length:=by grind
    obtain⟨l,l'',q1,q2,q3,q4⟩:=hroot i' _ (ax hlt);rw[h2]at q4;cases q4;have rr:=qbh hW q3;have hW':yP roots (.par i')=some roots[i']:=by simp[yP,hlt]
    have hns':∀ k,roots[i']≠.slot k:=fun k e=>by rw[e]at q1;simp[Root.boxed]at q1
    cases path with
    |nil=>simp only[getR,aa]at e;subst e;refine qU.ren2 (W:=yP roots) (k1:=⟨roots[i'],[]⟩) hok hγ rfl rr (by simp) (hγ _ _ _ hW') (fun r' o'=>hγ _ _ _ hW') (h.cont _ _ ?_ (.inr q1));simp only[Fr.rowsAt,F.rows_ns hns',q2,av,ae,getR]
    |cons y π=>
     have hF:F.rowsAt ⟨roots[i'],y::π⟩=some rows:=by simp only[Fr.rowsAt,F.rows_ns hns',q2,av,ae];exact rr.getR e
     have tr:=h.cont _ _ hF (.inl (by simp));exact qU.ren2 (W:=yP roots) hok hγ rfl (.pure fun r o c e=>tr.pure (by simp) e) (by simp) (hγ _ _ _ hW') (fun r' o'=>hγ _ _ _ hW') tr
  |loc d=>
   exfalso;unfold Fr.rowsAt at e;have hns:∀ k,Root.loc d≠.slot k:=by simp
   simp only at e;rw[Fr.rows_ns _ hns]at e;cases hb:(qd 0 bx).lookup (.loc d)with
   |none=>grind
   |some l'=>obtain⟨i',h1,h2⟩:=za _ _ _ _ hb;cases h1
  |res=>
   exfalso;unfold Fr.rowsAt at e;have hns:∀ k,Root.res≠.slot k:=by simp
   simp only at e;rw[Fr.rows_ns _ hns]at e;cases hb:(qd 0 bx).lookup .res with
   |none=>grind
   |some l'=>obtain⟨i',h1,h2⟩:=za _ _ _ _ hb;cases h1
 .
  rcases vL e with⟨i,r,f1,f2,f3⟩|⟨j,o,π,s,rfl,f2,f3⟩
  . grind
  . exact⟨_,f3,.inr ⟨by simp[Pl.under],(src f2).2 π⟩⟩
 grind
end
end Ab
end Go.Proofs.YtgfbbmjoflehlaaGreatDoor
