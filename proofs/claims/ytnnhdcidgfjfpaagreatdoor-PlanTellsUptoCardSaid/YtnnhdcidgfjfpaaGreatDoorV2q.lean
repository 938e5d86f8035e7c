/-
  Numbers and tokens: the document's scanner ends, and its tokens are of the form. No claim stands here.
-/
import Derived.Test.YtnnhdcidgfjfpaaGreatDoorV1q
set_option linter.all false
namespace Go.Proofs.YtnnhdcidgfjfpaaGreatDoor
namespace Ab
theorem qBH {s:By}{i j:Nat}:(s.extract i j).size<=s.size:=by rw[ByteArray.size_extract];omega
def I118:S118->Prop
 |.e a=>a.size<=5000
 |.h0 _ b c=>b.size<=5000/\(c=true->0<b.size)
 |.h1 _ b=>b.size<=5000
 |.h2 _ b _ d=>b.size<=5000/\0<=d/\d<=b.size
 |.h3 _ b _ d _=>b.size<=5000/\0<=d/\d<b.size
 |.h4 ..=>True
def m118:S118->Nat
 |.e _=>20000
 |.h0 ..=>19999
 |.h1 ..=>19998
 |.h2 _ _ _ d=>12000-2*d.toNat
 |.h3 _ _ _ d _=>11999-2*d.toNat
 |.h4 ..=>0
instance {a:By}:Ends (λk=>g118 k a) (a.size<=5000) λ_=>True:=⟨λh=>.loop I118 m118 (λs h b=>by
 cases s<;>simp only[nt,qAb]<;>simp only[I118,m118]at h b
 . refine .br (λd=>?_) (λ_=>b (.h0 ..) ⟨h,λh=>by cases h⟩ (by simp[m118]));simp only[aW]at d;exact .sxI (Int.le_refl 0) d λc _ _ _=>b (.h0 ..) ⟨h,λ_=>by omega⟩ (by simp[m118])
 . refine .br (λi=>?_) (λ_=>b (.h1 ..) h.1 (by simp[m118]));have:=h.2 i;refine .gd (aO (by omega)) ?_;exact b (.h1 ..) (Nat.le_trans qBH h.1) (by simp only[m118];omega)
 . exact b (.h2 ..) ⟨h,Int.le_refl 0,by omega⟩ (by simp[m118])
 .
  obtain⟨f,e,g⟩:=h;refine .br (λd=>?_) (λ_=>?_)
  . simp only[aW]at d;refine .sxI e d λc _ _ _=>?_;refine .call trivial λ_ _=>?_;refine .br (λ_=>?_) (λ_=>?_)<;>exact b (.h3 ..) ⟨f,e,d⟩ (by simp only[m118];omega)
  . refine .br (λ_=>?_) (λ_=>?_)<;>exact b (.h4 ..) trivial (by simp only[m118];omega)
 . obtain⟨f,e,g⟩:=h;refine .br (λ_=>.ret trivial) λ_=>?_;refine .sxI e g λc _ _ _=>?_;rw[w1 e (by omega)];exact b (.h2 ..) ⟨f,by omega,by omega⟩ (by simp only[m118];omega)
 . refine .br (λ_=>?_) λ_=>.ret trivial;exact .call trivial λ_ _=>.ret trivial) _ h⟩
theorem qEC {x:By}{i:Nat}{row:List Cell}(e:(yH x)[i]? = some row):∃ n:Int,row=[.val (.int .u8 n)]:=by simp only[yH,aH,aG]at e;obtain⟨b,_,rfl⟩:=e;exact⟨_,rfl⟩
theorem qDG (x:By):(yH x).length=x.size:=by simp[yH]
def Q90 (at_:Int)(sz:Nat)(r:R90):Prop:=r.2.1.size<=4000/\0<=r.2.2.2.2.2/\at_+r.2.2.2.2.2<=sz
def I90 (at_:Int)(sz:Nat):S90->Prop
 |.e a b=>b=at_/\a.size=sz
 |.h0 a b c d e f ..=>b=at_/\a.size=sz/\0<=c/\b+c<=sz/\(d.size:Int)=c/\e=0/\(f=true->b+c<sz)
 |.h1 a b c d e ..=>b=at_/\a.size=sz/\0<=c/\b+c<=sz/\(d.size:Int)=c/\0<=e/\(e=0\/b+c+1+e<=sz)
 |.h2 a b c d e ..=>b=at_/\a.size=sz/\0<=c/\b+c<=sz/\(d.size:Int)=c/\0<=e/\(e=0\/b+c+1+e<=sz)
 |.h3 a b _ d e f ..=>0<=a/\0<=b/\at_+a+1+b<=sz/\(∃ x:By,d=yH x)/\e=d.length/\0<=f/\d.length<=8000
def m90:S90->Nat
 |.e ..=>20005
 |.h0 ..=>20004
 |.h1 ..=>20003
 |.h2 ..=>20002
 |.h3 _ _ _ d _ f ..=>d.length-f.toNat
theorem z90 {at_:Int}{sz:Nat}(h:0<=at_)(a:at_<sz):Q90 at_ sz (0,strB [],0,0,0,0):=⟨by show(0:Nat)<=4000;omega,Int.le_refl 0,by show at_+0<=_;omega⟩
theorem qDe {s:By}{i j:Int}(a:0<=i)(h:i<=j)(b:j<=s.size):((s.extract i.toNat j.toNat).size:Int)=j-i:=by rw[ByteArray.size_extract];omega
instance {a:By} {b:Int}:Ends (λk=>g90 k a b) (0<=b/\b<a.size/\a.size<=4000) (Q90 b a.size):=⟨λ⟨w,z,H⟩=>.loop (I90 b a.size) m90 (λs h g=>match s,h,g with
 |.e x y,⟨j,i⟩,g=>by
  simp only[qfL];(try delta wZ);rw[j]at *;refine .call ⟨w,by omega,by omega⟩ λc ⟨A,D⟩=>?_;have t:b+c<=a.size:=by omega
  rw[qes (x:=b+c) (by omega)];refine .gd (aO (by omega)) ?_;have hd:=qDe (s:=x) w (show b<=b+c by omega) (by omega);refine .br (λo=>?_) (λ_=>g (.h0 ..) ⟨rfl,i,A,t,by omega,rfl,λh=>by cases h⟩ (by simp[m90]));simp only[aW]at o;exact .sxI (by omega) o λc _ _ _=>g (.h0 ..) ⟨rfl,i,A,t,by omega,rfl,λ_=>by omega⟩ (by simp[m90])
 |.h0 x y c d e f ..,⟨j,i,l,m,q,p,r⟩,g=>by simp only[qfL];(try delta wZ);rw[j]at *;refine .br (λo=>?_) (λ_=>g (.h1 ..) ⟨rfl,i,l,m,q,by omega,.inl p⟩ (by simp[m90]));have:=r o;rw[qes (x:=b+c) (by omega),w1 (by omega) (by omega)];exact .call ⟨by omega,by omega,by omega⟩ λn ⟨E,F⟩=>g (.h1 ..) ⟨rfl,i,l,m,q,E,by omega⟩ (by simp[m90])
 |.h1 x y c d e ..,⟨j,i,l,m,q,p,r⟩,g=>by
  simp only[qfL];(try delta wZ);rw[j]at *;refine .br (λo=>?_) (λ_=>?_)
  . simp only[aW]at o;refine .sxI (Int.le_refl 0) (by omega) λ_ _ _ _=>?_
    repeat' first|exact g (.h2 ..) ⟨rfl,i,l,m,q,p,r⟩ (by simp[m90])|refine .br (λ_=>?_) (λ_=>?_)
  . repeat' first|exact g (.h2 ..) ⟨rfl,i,l,m,q,p,r⟩ (by simp[m90])|refine .br (λ_=>?_) (λ_=>?_)
 |.h2 x y c d e f ..,⟨j,i,l,m,q,p,r⟩,g=>by
  simp only[qfL];(try delta wZ);rw[j]at *;refine .br (λ_=>.ret (z90 w z)) (λ_=>.br (λ_=>?_) λB=>?_)
  . refine .call (by omega) λn _=>?_;exact .br (λ_=>.ret (z90 w z)) λ_=>.ret ⟨by show(0:Nat)<=4000;omega,l,m⟩
  . have B:e≠0:=by simpa using B
    rw[qes (x:=b+c) (by omega),w1 (by omega) (by omega),qes (x:=b+c+1+e) (by omega)];have I:=qDe (s:=x) (show 0<=b+c+1 by omega) (show b+c+1<=b+c+1+e by omega) (by omega);refine .gd (aO (by omega)) (.gd (aO (by omega)) ?_);have G:=qDG (d++x.extract (b+c+1).toNat (b+c+1+e).toNat);rw[ByteArray.size_append]at G;exact g (.h3 ..) ⟨l,p,by omega,⟨_,rfl⟩,rfl,Int.le_refl 0,by omega⟩ (by simp only[m90];omega)
 |.h3 u v c d e f ..,⟨j,i,l,⟨x,m⟩,q,p,r⟩,g=>by
  simp only[qfL];(try delta wZ);rw[q];refine .br (λo=>?_) (λ_=>?_)
  . simp only[aW]at o;refine .ixR p o λrow C=>?_;rw[m]at C;obtain⟨n,rfl⟩:=qEC C;show En _ λk=>itS qfL k _;rw[w1 p (by omega)];exact g (.h3 ..) ⟨j,i,l,⟨x,m⟩,rfl,by omega,r⟩ (by simp only[m90];omega)
  . rw[w1 j (by omega),qes (x:=u+1+v) (by omega)];exact .ret ⟨by show(0:Nat)<=4000;omega,by show 0<=u+1+v;omega,by show b+(u+1+v)<=_;omega⟩) _ ⟨rfl,rfl⟩⟩
def I45 (at_:Int)(sz:Nat):S45->Prop
 |.e a b=>b=at_/\a.size=sz
 |.h0 a b c ..=>c=true\/0<=a/\at_+a+2<=sz/\b.size<=4000
 |.h1 a b c d e ..=>b=at_/\a.size=sz/\AllS c/\d=c.length/\c.length=17/\0<=e
 |.h2 a b c d e f g ..=>b=at_/\a.size=sz/\AllS d/\e=d.length/\d.length=17/\0<=f/\f<17/\(g=true->at_+c.size<=sz)
def m45:S45->Nat
 |.e ..=>2000
 |.h0 ..=>0
 |.h1 _ _ _ _ e ..=>1000-2*e.toNat
 |.h2 _ _ _ _ _ f ..=>999-2*f.toNat
instance {a:By} {b:Int}:Ends (λk=>g45 k a b) (0<=b/\b<a.size/\a.size<=4000) (Q90 b a.size):=⟨λ⟨o,B,L⟩=>.loop (I45 b a.size) m45 (λs h l=>match s,h,l with
 |.e x y,⟨q,m⟩,l=>by
  simp only[qyz];(try delta wZ);(try simp only[nt]);rw[q]at *;refine .sxI o (by omega) λc _ _ _=>?_;refine .call trivial λ_ _=>.br (λ_=>?_) λ_=>?_
  . refine .call ⟨o,by omega,by omega⟩ λc ⟨w,E⟩=>?_;rw[qes (x:=b+c) (by omega)];refine .gd (aO (by omega)) ?_;have hd:=qBH (s:=x) (i:=b.toNat) (j:=(b+c).toNat);have u:∀ n,Q90 b a.size (n,x.extract b.toNat (b+c).toNat,0,0,0,c):=λn=>⟨Nat.le_trans hd (by omega),w,by show b+c<=_;omega⟩
    refine .call trivial λ_ _=>.br (λ_=>.ret (u 1)) λ_=>?_;exact .call trivial λ_ _=>.br (λ_=>.ret (u 2)) λ_=>.ret (z90 o B)
  .
   refine .call trivial λ_ _=>.br (λ_=>?_) λ_=>?_
   . refine .call ⟨o,by omega,by omega⟩ λr z=>?_;rw[m]at z;exact .ret z
   . refine .br (λ_=>?_) λ_=>?_
     . rw[w1 o (by omega)];refine .call ⟨by omega,by omega,by omega⟩ λf ⟨F,G⟩=>?_;rw[qes (x:=b+1+f) (by omega)];refine .gd (aO (by omega)) ?_;have hd:=qBH (s:=x) (i:=(b+1).toNat) (j:=(b+1+f).toNat);refine .call trivial λ_ _=>?_;refine .br (λ_=>l (.h0 ..) (.inl rfl) (by simp[m45])) λ_=>.br (λ_=>l (.h0 ..) (.inl rfl) (by simp[m45])) λH=>?_;simp only[decide_eq_false_iff_not]at H;exact .sxI (by omega) (by omega) λt _ _ _=>l (.h0 ..) (.inr ⟨F,by omega,by omega⟩) (by simp[m45])
     . exact l (.h1 ..) ⟨rfl,m,by simp[AllS,sc,quY],rfl,rfl,Int.le_refl 0⟩ (by simp[m45])
 |.h0 x y c ..,h,l=>by
  simp only[qyz];(try delta wZ);(try simp only[nt]);refine .br (λ_=>.ret (z90 o B)) λw=>?_;rcases h with h|⟨h,m,p⟩
  . rw[h]at w;cases w
  . rw[qes (x:=x+2) (by omega)];exact .ret ⟨p,by show 0<=x+2;omega,by show b+(x+2)<=_;omega⟩
 |.h1 x y c d e ..,⟨q,m,p,C,A,v⟩,l=>by simp only[qyz];(try delta wZ);(try simp only[nt]);rw[q,C]at *;refine .br (λD=>?_) λ_=>.ret (z90 o B);simp only[aW]at D;refine .ixR v D λrow z=>?_;obtain⟨s,rfl,M⟩:=p.at z;simp only[qwu];refine .br (λI=>?_) λ_=>l (.h2 ..) ⟨rfl,m,p,rfl,A,v,by omega,λh=>by cases h⟩ (by simp only[m45];omega);simp only[aW]at I;rw[qes (x:=b+(s.size:Int)) (by omega)]at *;refine .gd (aO (by omega)) ?_;exact l (.h2 ..) ⟨rfl,m,p,rfl,A,v,by omega,λ_=>by omega⟩ (by simp only[m45];omega)
 |.h2 x y c d e f g ..,⟨q,m,p,C,A,v,N,J⟩,l=>by
  simp only[qyz];(try delta wZ);(try simp only[nt]);refine .br (λK=>?_) λ_=>?_
  . have:=J K;exact .ret ⟨by show c.size<=4000;omega,by show(0:Int)<=c.size;omega,this⟩
  . rw[w1 v (by omega)];exact l (.h1 ..) ⟨q,m,p,C,A,by omega⟩ (by simp only[m45];omega)) _ ⟨rfl,rfl⟩⟩
end Ab
end Go.Proofs.YtnnhdcidgfjfpaaGreatDoor
