/-
  ExprPrints: the text of any tree, or why there is none; read again it is the tree.
-/
import Derived.Test.YtfekohpjaafnhaaGreatDoorQeq
set_option linter.all false
namespace Go.Proofs.YtfekohpjaafnhaaGreatDoor
namespace Ab
theorem qvY {x:Ex}(hr:Rg x)(hn:(pr x).2.1≤30)(hc:cnt x≤200)(hs:(pr x).1.size≤4000):∃ n y,parT (pr x).1 n=some (y,0,0)∧qbA y x=true:=by
 obtain⟨L,h1,h2⟩:=qvP hr;generalize he:endT (pr x).1=e at h1;have hlen:(pr x).2.2.length=L.length:=by rw[← h2,List.length_map]
 have hat:At (L++[e]) 0 (pr x).2.2:=fun k t hk=>by rw[← h2]at hk;obtain⟨u,hu,rfl⟩:=aH .. ▸ hk |> aG.1;have hlt:=(az.1 hu).1;rw[Nat.zero_add,qle hlt];unfold tkA;rw[hu];rfl
 have hend:tkA (L++[e]) (0+(pr x).2.2.length)=e:=by rw[Nat.zero_add,hlen,qkE]
 have heo:EO (L++[e]) (0+(pr x).2.2.length) 0:=fun m _=>by rw[hend,← he];exact qhF _ m
 obtain⟨n,y,g1,g2⟩:=(rb hr (L++[e]) 0 0 hat (by omega)).1 0 (Nat.zero_le _) heo;refine⟨n,y,?_,g2⟩;have hcy:cnt y=cnt x:=(qvg y x g2).2.2;unfold parT;rw[aD hs,h1];simp only[g1,av,outP,hend];rw[aD (by rw[← he];rfl),aD (by omega)]
section
variable [vo]
theorem qyu:∀ (m:Nat) (a b:Ex),cnt a≤m→cnt a<4000000000→Goes qn6 (.e a.op (qg a.args) a.n a.scale a.name a.attr a.pos b.op (qg b.args) b.n b.scale b.name b.attr b.pos false) (qbA a b)
 |0,a,b,h,_=>by have:=XN a;omega
 |m+1,a,b,h,hc=>by
  have hca:=XN a;have hlen:=qfm a.args;have loop:∀ (j i:Nat),a.args.length-i=j→a.args.length=b.args.length→Goes qn6 (.h1 false (a.args.length:Int) (i:Int) b.op (qg b.args) b.n b.scale b.name b.attr b.pos a.op (qg a.args) a.n a.scale a.name a.attr a.pos) (Zp (a.args.drop i) (b.args.drop i)):=by
   intro j
   induction j with
   |zero=>intro i hi hl;rw[List.drop_eq_nil_of_le (by omega)];refine .fin0 fun k rec=>?_;simp only[qn6,ltF (show ¬ i<a.args.length by omega),af,Zp]
   |succ j ih=>
    intro i hi hl;have h1:i<a.args.length:=by omega
    have h2:i<b.args.length:=by omega
    have e1:=ax h1;have e2:=ax h2;rw[List.drop_eq_getElem_cons h1,List.drop_eq_getElem_cons h2,Zp];generalize a.args[i]=x at e1;generalize b.args[i]=y at e2;have hx:=qfF e1;have self:=qyu m x y (by omega) (by omega);cases hv:qbA x y with
    |true=>rw[hv]at self;refine Goes.self self (ih (i+1) (by omega) hl) fun k rec e=>?_;simp only[qn6,ltT h1,ah,Yi (qhi e1),Yi (qhi e2),qkU,e,ae,aj,af,zq i (by omega)]
    |false=>rw[hv]at self;refine Goes.selfFin self fun k rec e=>?_;simp only[qn6,ltT h1,ah,Yi (qhi e1),Yi (qhi e2),qkU,e,ae,ak,ah];rfl
  have h0:Goes qn6 (.h0 false (hdX a b) b.op (qg b.args) b.n b.scale b.name b.attr b.pos a.op (qg a.args) a.n a.scale a.name a.attr a.pos) (qbA a b):=by
   rw[qi8];cases hh:hdX a b with
   |true=>exact .fin0 fun k rec=>rfl
   |false=>
    have hl:a.args.length=b.args.length:=by unfold hdX at hh;simp only[Bool.or_eq_false_iff]at hh;have:=hh.2.2.2.2.2;rw[bne_eq_false_iff_eq]at this;omega
    refine Goes.rec0 (loop _ 0 rfl hl) fun k rec=>?_;simp only[qn6,af,Yt];rfl
  refine Goes.rec0 h0 fun k rec=>?_;simp only[qn6,Yt,hdX];cases (a.op != b.op)<;>cases (a.n != b.n)<;>cases (a.scale != b.scale)<;>cases (!(a.name.toList==b.name.toList))<;>cases (!(a.attr.toList==b.attr.toList))<;>cases ((a.args.length:Int)!=(b.args.length:Int))<;>rfl
theorem qyn {acc:Rs}{row:List Cell}(h1:acc.length<4000000000)(h2:row.length=7):apOk 88 7 acc [row]=true:=by unfold apOk;simp[h2,lim];omega
theorem qyb:∀ (m:Nat) (a:Ex),cnt a≤m→cnt a<1000000000→Goes qkA (.e a.op (qg a.args) a.n a.scale a.name a.attr a.pos) (a.op,qg a.args,a.n,a.scale,a.name,a.attr,a.pos)
 |0,a,h,_=>by have:=XN a;omega
 |m+1,a,h,hc=>by
  have hca:=XN a;have hlen:=qfm a.args;have loop:∀ (j i:Nat),a.args.length-i=j→i≤a.args.length→Goes qkA (.h0 (qg (a.args.take i)) (a.args.length:Int) (i:Int) 0 0 0 (strB []) (strB []) 0 a.op (qg a.args) a.n a.scale a.name a.attr a.pos) (a.op,qg a.args,a.n,a.scale,a.name,a.attr,a.pos):=by
   intro j
   induction j with
   |zero=>intro i hi hl;rw[List.take_of_length_le (by omega)];refine .fin0 fun k rec=>?_;simp only[qkA,ltF (show ¬ i<a.args.length by omega),af,qxh]
   |succ j ih=>
    intro i hi hl;have h1:i<a.args.length:=by omega
    have e1:=ax h1;have ht:a.args.take (i+1)=a.args.take i++[a.args[i]]:=(List.take_append_getElem h1).symm;have ih':=ih (i+1) (by omega) (by omega);rw[ht,qxG]at ih';generalize a.args[i]=x at e1 ih';have hx:=qfF e1;have hr:qg [x]=[[ic x.op,.imm (qg x.args),ic x.n,ic x.scale,sc x.name,sc x.attr,ic x.pos]]:=by rw[qg,qjn];rfl
    rw[hr]at ih';refine Goes.self (qyb m x (by omega) (by omega)) ih' fun k rec e=>?_;simp only[qkA,ltT h1,ah,Yi (qhi e1),qkU,e,ae,zq i (by omega),tup7];rw[qyn (by rw[Yt,List.length_take];omega) rfl,ZW]
  refine Goes.rec0 (loop _ 0 rfl (Nat.zero_le _)) fun k rec=>?_;simp only[qkA,Yt];rfl
noncomputable def prA (x:Ex):ByteArray×Int:=if rtB x=true then(if 200<cnt x then(strB [],2)else if 4000<(pr x).1.size then(strB [],2)else if 30<(pr x).2.1 then(strB [],14)else((pr x).1,0))else(strB [],3)
theorem p15 {x:Ex}(hc:cnt x≤1048576)(hn:nB x):Tot (fun k=>g15 k x.op (qg x.args) x.n x.scale x.name x.attr x.pos) (prA x):=by
 have r:=qxM _ x (Nat.le_refl _) hc hn;unfold prA;cases hr:rtB x with
 |false=>rw[hr]at r;refine Goes.of1 (step:=Zu) (s:=.e x.op (qg x.args) x.n x.scale x.name x.attr x.pos) r fun k e=>?_;have e:g26 k x.op (qg x.args) x.n x.scale x.name x.attr x.pos=some false:=e;simp only[Zu,e,ae,ak,ah];rfl
 |true=>
  rw[hr]at r;rw[aD rfl];have c:=qwC _ x (Nat.le_refl _) (by omega);by_cases h2:200<cnt x
  · rw[aD h2];refine Goes.of2 (step:=Zu) (s:=.e x.op (qg x.args) x.n x.scale x.name x.attr x.pos) r c fun k e e2=>?_;have e:g26 k x.op (qg x.args) x.n x.scale x.name x.attr x.pos=some true:=e;have e2:g17 k x.op (qg x.args) x.n x.scale x.name x.attr x.pos=some (cnt x:Int):=e2;simp only[Zu,e,e2,ae,aj,af,show decide (((cnt x:Nat):Int)>200)=true from aO (by omega),ah]
  ·
   rw[aF h2];have t:=qyp (rg_of _ x (Nat.le_refl _) hn hr) (by omega);refine Goes.of3 (step:=Zu) (s:=.e x.op (qg x.args) x.n x.scale x.name x.attr x.pos) r c t fun k e e2 e3=>?_;have e:g26 k x.op (qg x.args) x.n x.scale x.name x.attr x.pos=some true:=e;have e2:g17 k x.op (qg x.args) x.n x.scale x.name x.attr x.pos=some (cnt x:Int):=e2;have e3:g27 k x.op (qg x.args) x.n x.scale x.name x.attr x.pos=some ((pr x).1,(((pr x).2.1:Nat):Int)):=e3;simp only[Zu,e,e2,e3,ae,aj,af,show decide (((cnt x:Nat):Int)>200)=false from aN (by omega),tup2];by_cases hs:4000<(pr x).1.size
   · rw[aD hs,show decide ((((pr x).1.size:Nat):Int)>4000)=true from aO (by omega)];rfl
   · rw[aF hs,show decide ((((pr x).1.size:Nat):Int)>4000)=false from aN (by omega),af];by_cases hd:30<(pr x).2.1
     · rw[aD hd,show decide ((((pr x).2.1:Nat):Int)>30)=true from aO (by omega)];rfl
     · rw[aF hd,show decide ((((pr x).2.1:Nat):Int)>30)=false from aN (by omega)];rfl
theorem p16 {x:Ex}(hc:cnt x≤1048576)(hn:nB x):Tot (fun k=>g16 k x.op (qg x.args) x.n x.scale x.name x.attr x.pos) (prA x):=by
 have r:=qyd _ x (Nat.le_refl _) hc hn;unfold prA;cases hr:rtB x with
 |false=>rw[hr]at r;refine Goes.of1 (step:=ZT) (s:=.e x.op (qg x.args) x.n x.scale x.name x.attr x.pos) r fun k e=>?_;have e:g28 k x.op (qg x.args) x.n x.scale x.name x.attr x.pos=some false:=e;simp only[ZT,e,ae,ak,ah];rfl
 |true=>
  rw[hr]at r;rw[aD rfl];have c:=qwD _ x (Nat.le_refl _) (by omega);by_cases h2:200<cnt x
  · rw[aD h2];refine Goes.of2 (step:=ZT) (s:=.e x.op (qg x.args) x.n x.scale x.name x.attr x.pos) r c fun k e e2=>?_;have e:g28 k x.op (qg x.args) x.n x.scale x.name x.attr x.pos=some true:=e;have e2:g18 k x.op (qg x.args) x.n x.scale x.name x.attr x.pos=some (cnt x:Int):=e2;simp only[ZT,e,e2,ae,aj,af,show decide (((cnt x:Nat):Int)>200)=true from aO (by omega),ah]
  ·
   rw[aF h2];have t:=qyq (rg_of _ x (Nat.le_refl _) hn hr) hn (by omega);refine Goes.of3 (step:=ZT) (s:=.e x.op (qg x.args) x.n x.scale x.name x.attr x.pos) r c t fun k e e2 e3=>?_;have e:g28 k x.op (qg x.args) x.n x.scale x.name x.attr x.pos=some true:=e;have e2:g18 k x.op (qg x.args) x.n x.scale x.name x.attr x.pos=some (cnt x:Int):=e2;have e3:g29 k x.op (qg x.args) x.n x.scale x.name x.attr x.pos=some ((pr x).1,(((pr x).2.1:Nat):Int)):=e3;simp only[ZT,e,e2,e3,ae,aj,af,show decide (((cnt x:Nat):Int)>200)=false from aN (by omega),tup2];by_cases hs:4000<(pr x).1.size
   · rw[aD hs,show decide ((((pr x).1.size:Nat):Int)>4000)=true from aO (by omega)];rfl
   · rw[aF hs,show decide ((((pr x).1.size:Nat):Int)>4000)=false from aN (by omega),af];by_cases hd:30<(pr x).2.1
     · rw[aD hd,show decide ((((pr x).2.1:Nat):Int)>30)=true from aO (by omega)];rfl
     · rw[aF hd,show decide ((((pr x).2.1:Nat):Int)>30)=false from aN (by omega)];rfl
theorem qxx {x:Ex}(hc:cnt x≤1048576)(hn:nB x):Tot (fun k=>g5 k x.op (qg x.args) x.n x.scale x.name x.attr x.pos) true:=by
 have t14:=qyb _ x (Nat.le_refl _) (by omega);have t9:=qrq _ x (Nat.le_refl _) (by omega);have t8:Tot (fun k=>g8 k) true:=qjj 100 awk;have q15:=p15 hc hn;have q16:=p16 hc hn;have last:Goes Qq (.h0 (prA x).1 (prA x).2 false x.op (qg x.args) x.n x.scale x.name x.attr x.pos) true:=by
  by_cases h0:(prA x).2=0
  ·
   have hr:rtB x=true∧cnt x≤200∧(pr x).1.size≤4000∧(pr x).2.1≤30∧(prA x).1=(pr x).1:=by
    unfold prA at h0 ⊢;by_cases r:rtB x=true
    ·
     rw[aD r]at h0 ⊢;by_cases h2:200<cnt x
     · rw[aD h2]at h0;cases h0
     · rw[aF h2]at h0 ⊢;by_cases hs:4000<(pr x).1.size
       · rw[aD hs]at h0;cases h0
       · rw[aF hs]at h0 ⊢;by_cases hd:30<(pr x).2.1
         · rw[aD hd]at h0;cases h0
         · rw[aF hd];exact⟨r,by omega,by omega,by omega,rfl⟩
    · rw[aF r]at h0;cases h0
   obtain⟨r,h2,hs,hd,e1⟩:=hr;obtain⟨n,y,h3,h4⟩:=qvY (rg_of _ x (Nat.le_refl _) hn r) hd h2 hs;have hy:cnt y=cnt x:=(qvg y x h4).2.2;have ts:Tot (fun k=>g9 k y.op (qg y.args) y.n y.scale y.name y.attr y.pos x.op (qg x.args) x.n x.scale x.name x.attr x.pos false) true:=by have:=qyu _ y x (Nat.le_refl _) (by omega);rw[h4]at this;exact this
   rw[e1,h0];refine .of2 (qyy h3) ts fun k e e2=>?_;have e:g6 k (pr x).1=some (exT (y,0,0)):=e;have e2:g9 k y.op (qg y.args) y.n y.scale y.name y.attr y.pos x.op (qg x.args) x.n x.scale x.name x.attr x.pos false=some true:=e2;simp only[Qq,af,bne_self_eq_false,e,exT,ae,tup9,beq_self_eq_true,ah,e2]
  · refine .fin0 fun k rec=>?_;simp only[Qq,af,show((prA x).2 != 0)=true by simpa using h0,ah]
 have t14':Tot (fun k=>g14 k x.op (qg x.args) x.n x.scale x.name x.attr x.pos) (x.op,qg x.args,x.n,x.scale,x.name,x.attr,x.pos):=t14;have t9':Tot (fun k=>g9 k x.op (qg x.args) x.n x.scale x.name x.attr x.pos x.op (qg x.args) x.n x.scale x.name x.attr x.pos true) true:=t9;refine Goes.of4 (step:=Qq) (s:=.e x.op (qg x.args) x.n x.scale x.name x.attr x.pos) t14' q15 q16 ((t8.and t9').and last) fun k e1 e2 e3 e4=>?_;obtain⟨e4,e6⟩:=Zb e4;obtain⟨e4,e5⟩:=Zb e4;have e1:g14 k x.op (qg x.args) x.n x.scale x.name x.attr x.pos=some (x.op,qg x.args,x.n,x.scale,x.name,x.attr,x.pos):=e1;have e2:g15 k x.op (qg x.args) x.n x.scale x.name x.attr x.pos=some (prA x):=e2;have e3:g16 k x.op (qg x.args) x.n x.scale x.name x.attr x.pos=some (prA x):=e3;have e4:g8 k=some true:=e4;have e5:g9 k x.op (qg x.args) x.n x.scale x.name x.attr x.pos x.op (qg x.args) x.n x.scale x.name x.attr x.pos true=some true:=e5;simp only[Qq,e1,e2,e3,e4,e5,ae,tup7,tup2,aj,af,beq_self_eq_true,bne_self_eq_false];exact e6
end
end Ab
end Go.Proofs.YtfekohpjaafnhaaGreatDoor
