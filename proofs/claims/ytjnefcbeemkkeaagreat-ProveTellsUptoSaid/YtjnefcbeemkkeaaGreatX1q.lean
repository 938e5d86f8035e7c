/-
  What the small functions give: operands, kinds, inputs, what is clean. No claim stands here.
-/
import Derived.Test.YtjnefcbeemkkeaaGreatX0q
set_option linter.all false
namespace Go.Proofs.YtjnefcbeemkkeaaGreat
namespace Ab
variable [Glob]
def inB (x:In4):Bool:=decide (1<=x.kind/\x.kind<=4/\0<=x.pos/\x.pos<=7/\-1<=x.attr/\x.attr<=7/\((x.op=41/\x.pos=0)\/(x.op=25/\x.attr=0)\/x.op=42\/(26<=x.op/\x.op<=31)))
theorem xe {α:Type}(p:Prop)[Decidable p](x y:α):(bif decide p then x else y)=if p then x else y:=by by_cases h:p<;>simp[h]
theorem zt {α:Type}(a b:Int)(x y:α):(bif a==b then x else y)=if a=b then x else y:=by
 by_cases h:a=b
 . rw[aF h,show(a==b)=true by simpa using h];rfl
 . rw[aG h,show(a==b)=false by simpa using h];rfl
theorem qvM {α:Type}(a b:Int)(x y:α):(bif a != b then x else y)=if a=b then y else x:=by
 by_cases h:a=b
 . rw[aF h,show(a != b)=false by simpa using h];rfl
 . rw[aG h,show(a != b)=true by simpa using h];rfl
theorem qxO (a b:Int):(a==b)=decide (a=b):=by
 by_cases h:a=b
 . rw[aQ h];simpa using h
 . rw[aO h];simpa using h
theorem qBX {a b c d:Int}{P:Prop}[Decidable P](hP:c=d↔P):((a==b)!=(c==d))=decide (¬ (a=b↔P)):=by rw[qxO,qxO];by_cases h1:a=b<;>by_cases h2:P<;>simp[h1,h2,hP]
theorem qDd (x:In4):Tot (fun k=>g55 k x.op x.kind x.pos x.attr) (inB x):=qjj 2 fun j=>by
 simp only[g55,itS,qsu,nt,xe,zt,ah,inB]
 (repeat' split)<;>(rw[aa,Bool.eq_iff_iff];simp;try omega)
def clB (x:Vl):Int×Int:=if x.kind=1\/(x.kind=2/\x.bits<2)\/(x.kind=3/\x.bits<64)then(x.kind,x.bits)else if x.kind=4 then(4,canon x.bits)else(0,0)
theorem qAc (b m:Nat)(hm:m<18446744073709551616):(BitVec.ofInt 64 (b:Int) &&& BitVec.ofInt 64 (m:Int)).toNat=(b % 18446744073709551616) &&& m:=by rw[BitVec.toNat_and,BitVec.toNat_ofInt,BitVec.toNat_ofInt];congr 1<;>omega
theorem qCd {b:Int}(h0:0<=b)(h1:b<18446744073709551616):Tot (fun k=>g104 k b) (canon b):=qjj 1 fun j=>by
 obtain⟨n,rfl⟩:∃ n:Nat,b=n:=⟨b.toNat,by omega⟩
 have e:(BitVec.ofInt 64 (n:Int) &&& ~~~ BitVec.ofInt 64 9223372036854775808).toNat=n % 9223372036854775808:=by
  have:(~~~ BitVec.ofInt 64 9223372036854775808)=BitVec.ofInt 64 ((9223372036854775807:Nat):Int):=by decide
  rw[this,qAc n _ (by omega),Nat.mod_eq_of_lt (by omega),show(9223372036854775807:Nat)=2 ^ 63-1 by decide,Nat.and_two_pow_sub_one_eq_mod]
 simp only[g104,itS,qzd,nt,xe,e,canon,IntKind.wrap_u64];have:((n % 9223372036854775808:Nat):Int) % 18446744073709551616=(n:Int) % 9223372036854775808:=by omega
 rw[this];split<;>rfl
theorem qCg {b:Int}(h0:0<=b)(h1:b<18446744073709551616):Tot (fun k=>g131 k b) (decide (b % 9223372036854775808>9218868437227405312)):=qjj 1 fun j=>by
 obtain⟨n,rfl⟩:∃ n:Nat,b=n:=⟨b.toNat,by omega⟩
 have e1:(BitVec.ofInt 64 (Int.fdiv (n:Int) (2 ^ 52)) &&& BitVec.ofInt 64 2047).toNat=(n / 4503599627370496) % 2048:=by
  have:Int.fdiv (n:Int) (2 ^ 52)=((n / 4503599627370496:Nat):Int):=by rw[Int.fdiv_eq_ediv_of_nonneg _ (by decide)];rfl
  rw[this,show(2047:Int)=((2047:Nat):Int)by rfl,qAc _ _ (by omega),Nat.mod_eq_of_lt (by omega),show(2047:Nat)=2 ^ 11-1 by decide,Nat.and_two_pow_sub_one_eq_mod]
 have e2:(BitVec.ofInt 64 (n:Int) &&& BitVec.ofInt 64 4503599627370495).toNat=n % 4503599627370496:=by rw[show(4503599627370495:Int)=((4503599627370495:Nat):Int)by rfl,qAc _ _ (by omega),Nat.mod_eq_of_lt (by omega),show(4503599627370495:Nat)=2 ^ 52-1 by decide,Nat.and_two_pow_sub_one_eq_mod]
 simp only[g131,itS,qzf,nt,zt,e1,e2,IntKind.wrap_u64];split
 . rw[aa,Bool.eq_iff_iff];simp;omega
 . rw[aa,Bool.eq_iff_iff];simp;omega
theorem qDm {b:Int}(h0:0<=b)(h1:b<18446744073709551616):Tot (fun k=>g81 k b) (canon b):=Goes.of1 (s:=S81.e ..) (qCg h0 h1) fun k h=>by simp only[qq6,nt,h,ae,xe,canon];split<;>rfl
theorem qDe (x:Vl)(h0:0<=x.bits)(h1:x.bits<18446744073709551616):Tot (fun k=>g56 k x.kind x.bits) (clB x):=by
 have f:∀ c,(c=true↔(x.kind=2/\x.bits<2)\/(x.kind=3/\x.bits<64))->x.kind≠1->Goes qsv (.h1 c 0 0 x.kind x.bits) (clB x):=fun c hc h1'=>.of1 (qCd h0 h1) fun k h=>by
  simp only[qsv,nt,h,ae,zt,clB];cases c
  . have:¬ ((x.kind=2/\x.bits<2)\/(x.kind=3/\x.bits<64)):=fun q=>by have:=hc.2 q;cases this
    rw[af,aG (c:=_\/_) (fun q=>q.elim h1' this)];split<;>rfl
  . rw[ah,aF (.inr (hc.1 rfl))]
 have g:∀ c,(c=true↔(x.kind=2/\x.bits<2))->x.kind≠1->Goes qsv (.h0 c 0 0 x.kind x.bits) (clB x):=fun c hc h1'=>by
  cases c
  . by_cases h3:x.kind=3
    . exact(f (decide (x.bits<64)) (by simp[h3]) h1').go fun k=>by simp[qsv,nt,zt,h3]
    . exact(f false (by simp[h3];simpa using hc) h1').go fun k=>by simp[qsv,nt,zt,h3]
  . exact(f true (by simp[hc.1 rfl]) h1').go fun k=>by simp[qsv,nt]
 by_cases h1':x.kind=1
 . exact Goes.fin (s:=S56.e ..) fun k=>by simp[qsv,nt,zt,h1',clB]
 .
  by_cases h2:x.kind=2
  . exact(g (decide (x.bits<2)) (by simp[h2]) h1').go (s:=S56.e ..) fun k=>by simp[qsv,nt,zt,h2]
  . exact(g false (by simp[h2]) h1').go (s:=S56.e ..) fun k=>by simp[qsv,nt,zt,h1',h2]
theorem zK (x:Vl)(h0:0<=x.bits)(h1:x.bits<18446744073709551616):Tot (fun k=>g46 k x.kind x.bits) (clB x):=by
 have f:∀ c,(c=true↔x.kind=1\/(x.kind=2/\x.bits<2)\/(x.kind=3/\x.bits<64))->Goes qfc (.h0 c 0 0 x.kind x.bits) (clB x):=fun c hc=>.of1 (qDm h0 h1) fun k h=>by
  simp only[qfc,nt,h,ae,zt,clB];cases c
  . have:¬ (x.kind=1\/(x.kind=2/\x.bits<2)\/(x.kind=3/\x.bits<64)):=fun q=>by have:=hc.2 q;cases this
    rw[af,aG this];split<;>rfl
  . rw[ah,aF (hc.1 rfl)]
 refine(f (decide (x.kind=1\/(x.kind=2/\x.bits<2)\/(x.kind=3/\x.bits<64))) (by simp)).go (s:=S46.e ..) fun k=>?_;simp only[qfc,xe,zt]
 (repeat' split)<;>(congr 2;rw[Bool.eq_iff_iff];simp;try omega)
def nOps (op:Int):Int:=if op=6\/op=15\/op=16\/op=17 then 1 else if 1<=op/\op<=14 then 2 else 0
theorem qm6 (a:Int):Tot (fun k=>g42 k a) (nOps a):=qjj 3 fun j=>by
 simp only[g42,itS,qd3,nt,xe,zt,ah,af,nOps]
 (repeat' split)<;>first|rfl|omega
def reads (x:Ins4):List Int:=if x.op=52\/nOps x.op=1 then [x.a]else if nOps x.op=2 then [x.a,x.b]else []
def qBy (op k:Int):Int:=if op=6/\(k=1\/k=4)then k else if (op=15/\k=2)\/(op=17/\k=4)then 2 else if op=16/\k=1 then 4 else 0
def qBz (op k:Int):Int:=if (1<=op/\op<=4/\(k=1\/k=4))\/(op=5/\k=1)then k else if ((op=7\/op=8)/\1<=k/\k<=4)\/(9<=op/\op<=12/\(k=1\/k=4))\/((op=13\/op=14)/\k=2)then 2 else 0
def resF (op:Int):List Int->Int
 |[k]=>qBy op k
 |[k,l]=>if k=l then qBz op k else 0
 |_=>0
theorem qyR (a:Int):Tot (fun k=>g200 k a) (decide (a=1\/a=4)):=qjj 1 fun j=>by simp only[g200,itS,qzg,nt,zt];split<;>(rw[aa,Bool.eq_iff_iff];simp;try omega)
theorem qCh (a b:Int):Tot (fun k=>g157 k a b) (qBy a b):=by
 have h3:∀ c,Goes qvE (.h3 c) (if c=true then 2 else 0):=fun c=>Goes.fin fun k=>by cases c<;>rfl
 have h2:∀ c,Goes qvE (.h2 a b c) (if c=true then 4 else if a=17/\b=4 then 2 else 0):=fun c=>by
  cases c
  . refine(h3 (decide (a=17/\b=4))).cast' (by simp) |>.go fun k=>?_;simp only[qvE,nt,zt,af];split<;>(congr 2;rw[Bool.eq_iff_iff];simp;try omega)
  . exact Goes.fin fun k=>rfl
 have h1:∀ c,Goes qvE (.h1 a b c) (if c=true then 2 else if a=16/\b=1 then 4 else if a=17/\b=4 then 2 else 0):=fun c=>by
  cases c
  . refine(h2 (decide (a=16/\b=1))).cast' (by simp) |>.go fun k=>?_;simp only[qvE,nt,zt,af];split<;>(congr 2;rw[Bool.eq_iff_iff];simp;try omega)
  . exact Goes.fin fun k=>rfl
 have h0:∀ c,Goes qvE (.h0 a b c) (if c=true then b else if a=15/\b=2 then 2 else if a=16/\b=1 then 4 else if a=17/\b=4 then 2 else 0):=fun c=>by
  cases c
  . refine(h1 (decide (a=15/\b=2))).cast' (by simp) |>.go fun k=>?_;simp only[qvE,nt,zt,af];split<;>(congr 2;rw[Bool.eq_iff_iff];simp;try omega)
  . exact Goes.fin fun k=>rfl
 refine Goes.of2 (s:=S157.e ..) (qyR b) ((h0 (decide (a=6/\(b=1\/b=4)))).cast' (show _=qBy a b from ?_)) fun k q1 q2=>?_
 . simp only[aY,qBy]
   (repeat' split)<;>first|rfl|omega
 . rw[<- q2];simp only[qvE,nt,zt,q1,ae];split<;>(congr 2;rw[Bool.eq_iff_iff];simp;try omega)
def res2 (a b:Int):Prop:=((a=7\/a=8)/\1<=b/\b<=4)\/(9<=a/\a<=12/\(b=1\/b=4))\/((a=13\/a=14)/\b=2)
instance (a b:Int):Decidable (res2 a b):=by unfold res2;infer_instance
theorem qCi (a b:Int):Tot (fun k=>g158 k a b) (qBz a b):=by
 have h4:∀ c,Goes qvl (.h4 c) (if c=true then 2 else 0):=fun c=>Goes.fin fun k=>by cases c<;>rfl
 have h3:∀ c,Goes qvl (.h3 a b c) (if c=true\/((a=13\/a=14)/\b=2)then 2 else 0):=fun c=>by
  cases c
  . refine(h4 (decide ((a=13\/a=14)/\b=2))).cast' (by simp) |>.go fun k=>?_;simp only[qvl,nt,zt,af]
    (repeat' split)<;>(congr 2;rw[Bool.eq_iff_iff];simp;try omega)
  . exact Goes.fin fun k=>by simp[qvl]
 have h2:∀ c,Goes qvl (.h2 a b c) (if c=true\/(9<=a/\a<=12/\(b=1\/b=4))\/((a=13\/a=14)/\b=2)then 2 else 0):=fun c=>by
  cases c
  . refine Goes.cast' (r:=if decide (9<=a/\a<=12/\(b=1\/b=4))=true\/((a=13\/a=14)/\b=2)then 2 else 0) ?_ (by simp);refine Goes.of2 (qyR b) (h3 (decide (9<=a/\a<=12/\(b=1\/b=4)))) fun k q1 q2=>?_;rw[<- q2];simp only[qvl,nt,xe,af,q1,ae]
    (repeat' split)<;>(congr 2;rw[Bool.eq_iff_iff];simp;try omega)
  . refine Goes.go (s':=.h3 a b true) ?_ (fun k=>rfl);exact(h3 true).cast' (by simp)
 have h1:∀ c,Goes qvl (.h1 a b c) (if c=true then b else if res2 a b then 2 else 0):=fun c=>by
  cases c
  . refine(h2 (decide ((a=7\/a=8)/\1<=b/\b<=4))).cast' (by simp only[aY];rfl) |>.go fun k=>?_;simp only[qvl,nt,zt,xe,af]
    (repeat' split)<;>(congr 2;rw[Bool.eq_iff_iff];simp;try omega)
  . exact Goes.fin fun k=>rfl
 have h0:∀ c,Goes qvl (.h0 a b c) (if c=true\/(a=5/\b=1)then b else if res2 a b then 2 else 0):=fun c=>by
  cases c
  . refine(h1 (decide (a=5/\b=1))).cast' (by simp) |>.go fun k=>?_;simp only[qvl,nt,zt,af]
    (repeat' split)<;>(congr 2;rw[Bool.eq_iff_iff];simp;try omega)
  . refine Goes.go (s':=.h1 a b true) ?_ (fun k=>rfl);exact(h1 true).cast' (by simp)
 refine Goes.of2 (s:=S158.e ..) (qyR b) ((h0 (decide (1<=a/\a<=4/\(b=1\/b=4)))).cast' (show _=qBz a b by simp only[aY];rfl)) fun k q1 q2=>?_;rw[<- q2];simp only[qvl,nt,xe,q1,ae]
 (repeat' split)<;>(congr 2;rw[Bool.eq_iff_iff];simp;try omega)
theorem qCe (op:Int)(l:List Int)(h:l.length=1\/l.length=2):Tot (fun k=>g106 k op (l.map oneR)) (resF op l):=by
 match l,h with
 |[a],_=>exact Goes.of1 (s:=S106.e ..) (qCh op a) fun k h=>by simp[qwM,nt,ixR,qyC,oneR,un_i,h,resF]
 |[a,b],_=>
  by_cases hab:a=b
  . subst hab;exact Goes.of1 (s:=S106.e ..) (qCi op a) fun k h=>by simp[qwM,nt,ixR,oneR,un_i,h,resF]
  . have f:Goes qwM .h0 0:=Goes.fin fun k=>rfl;rw[show resF op [a,b]=0 by simp[resF,hab]];exact f.go (s:=S106.e ..) fun k=>by
     have:(a==b)=false:=by simpa using hab
     simp[qwM,nt,ixR,oneR,un_i,this]
theorem qtx (op:Int)(l:List Int)(h:l.length=1\/l.length=2):Tot (fun k=>g61 k op (l.map oneR)) (resF op l):=by
 match l,h with
 |[b],_=>
  have h4:∀ c,Goes qqt (.h4 c) (if c=true then 4 else 0):=fun c=>Goes.fin fun k=>by cases c<;>rfl
  have h2:∀ c,Goes qqt (.h2 op b c) (if c=true then 2 else if op=16/\b=1 then 4 else 0):=fun c=>by
   cases c
   . refine(h4 (decide (op=16/\b=1))).cast' (by simp) |>.go fun k=>?_;simp only[qqt,zt,af];split<;>(congr 2;rw[Bool.eq_iff_iff];simp;try omega)
   . exact Goes.fin fun k=>rfl
  have h0:∀ c,Goes qqt (.h0 op b c) (if c=true then b else if (op=15/\b=2)\/(op=17/\b=4)then 2 else if op=16/\b=1 then 4 else 0):=fun c=>by
   cases c
   . refine(h2 (decide ((op=15/\b=2)\/(op=17/\b=4)))).cast' (by simp) |>.go fun k=>?_;simp only[qqt,zt,af]
     (repeat' split)<;>(congr 2;rw[Bool.eq_iff_iff];simp;try omega)
   . exact Goes.fin fun k=>rfl
  refine Goes.go (s:=S61.e ..) ((h0 (decide (op=6/\(b=1\/b=4)))).cast' (show _=resF op [b]by simp only[aY];rfl)) fun k=>?_;simp only[qqt,List.map,List.length,ixR,oneR,un_i];simp only[Int.le_refl,decide_true,ah,Int.toNat_zero,aJ,ae,zt];rw[aF (by rfl)]
  (repeat' split)<;>(congr 2;rw[Bool.eq_iff_iff];simp;try omega)
 |[b,d],_=>
  have h5:∀ c,Goes qqt (.h5 c) (if c=true then 2 else 0):=fun c=>Goes.fin fun k=>by cases c<;>rfl
  have h3:∀ c,Goes qqt (.h3 op b c) (if c=true then b else if res2 op b then 2 else 0):=fun c=>by
   cases c
   . refine(h5 (decide (res2 op b))).cast' (by simp) |>.go fun k=>?_;simp only[qqt,zt,xe,af]
     (repeat' split)<;>(congr 2;rw[Bool.eq_iff_iff];simp;try (unfold res2;omega))
   . exact Goes.fin fun k=>rfl
  have h1:∀ c,Goes qqt (.h1 op [oneR b,oneR d] c) (if c=true then 0 else qBz op b):=fun c=>by
   cases c
   . refine(h3 (decide ((1<=op/\op<=4/\(b=1\/b=4))\/(op=5/\b=1)))).cast' (by simp only[aY];rfl) |>.go fun k=>?_;simp only[qqt,af,ixR,oneR,un_i];simp only[Int.le_refl,decide_true,ah,Int.toNat_zero,aJ,ae,zt,xe]
     (repeat' split)<;>(congr 2;rw[Bool.eq_iff_iff];simp;try omega)
   . exact Goes.fin fun k=>rfl
  refine Goes.go (s:=S61.e ..) ((h1 (b != d)).cast' (show _=resF op [b,d]from ?_)) fun k=>?_
  . by_cases hbd:b=d<;>simp[resF,hbd]
  . simp[qqt,ixR,oneR,un_i]
end Ab
end Go.Proofs.YtjnefcbeemkkeaaGreat
