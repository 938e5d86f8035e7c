/-
  The program's scanner: what its functions tell, as plain functions of the text; tokens that are moved to another text.
-/
import Derived.Test.YtpdhhkfllkgahaaGreatDoorFQeq
import Derived.Lib.ItoaNum
set_option linter.all false
namespace Go.Proofs.YtpdhhkfllkgahaaGreatDoor
namespace Ab
theorem wrapN {n:Nat}(h:n<9223372036854775808):IntKind.i64.wrap (n:Int)=(n:Int):=by rw[IntKind.wrap_i64];omega
theorem qes {x:Int}{n:Nat}(e:x=n)(h:n<9223372036854775808):IntKind.i64.wrap x=(n:Int):=by rw[e];exact wrapN h
def Tot {α:Type}(f:Nat→Option α)(r:α):Prop:=∃ N,∀ k,N≤k→f k=some r
def Goes {S R:Type}(step:Nat→(S→Option R)→S→Option R)(s:S)(r:R):Prop:=Tot (fun k=>itS step k s) r
theorem Goes.rec {S R:Type}{step:Nat→(S→Option R)→S→Option R}{s s':S}{r:R}(h:Goes step s' r)(e:∃ N,∀ k,N≤k→∀ rec,step k rec s=rec s'):Goes step s r:=by
 obtain⟨N,hN⟩:=h;obtain⟨M,hM⟩:=e;refine⟨max N M+1,fun k hk=>?_⟩;obtain⟨j,rfl⟩:∃ j,k=j+1:=⟨k-1,by omega⟩
 show step j (itS step j) s=some r;rw[hM j (by omega)];exact hN j (by omega)
theorem Goes.rec0 {S R:Type}{step:Nat→(S→Option R)→S→Option R}{s s':S}{r:R}(h:Goes step s' r)(e:∀ k rec,step k rec s=rec s'):Goes step s r:=h.rec ⟨0,fun k _=>e k⟩
theorem Goes.fin {S R:Type}{step:Nat→(S→Option R)→S→Option R}{s:S}{r:R}(e:∃ N,∀ k,N≤k→∀ rec,step k rec s=some r):Goes step s r:=by
 obtain⟨M,hM⟩:=e;refine⟨M+1,fun k hk=>?_⟩;obtain⟨j,rfl⟩:∃ j,k=j+1:=⟨k-1,by omega⟩
 exact hM j (by omega) _
theorem Goes.fin0 {S R:Type}{step:Nat→(S→Option R)→S→Option R}{s:S}{r:R}(e:∀ k rec,step k rec s=some r):Goes step s r:=.fin ⟨0,fun k _=>e k⟩
theorem qjj {α:Type}{f:Nat→Option α}{r:α}(N:Nat)(h:∀ j,f (j+N)=some r):Tot f r:=⟨N,fun k hk=>by obtain⟨j,rfl⟩:∃ j,k=j+N:=⟨k-N,by omega⟩;exact h j⟩
theorem Goes.call {S R A:Type}{step:Nat→(S→Option R)→S→Option R}{s s':S}{r:R}{g:Nat→Option A}{a:A}(hg:Tot g a)(h:Goes step s' r)(e:∀ k rec,g k=some a→step k rec s=rec s'):Goes step s r:=by obtain⟨N,hN⟩:=hg;exact h.rec ⟨N,fun k hk rec=>e k rec (hN k hk)⟩
theorem Goes.done {S R A:Type}{step:Nat→(S→Option R)→S→Option R}{s:S}{r:R}{g:Nat→Option A}{a:A}(hg:Tot g a)(e:∀ k rec,g k=some a→step k rec s=some r):Goes step s r:=by obtain⟨N,hN⟩:=hg;exact .fin ⟨N,fun k hk rec=>e k rec (hN k hk)⟩
theorem Yi {α:Type}{rows:Rs}{i:Nat}{row:List Cell}(h:rows[i]? = some row)(k:List Cell→Option α):ixR rows (i:Int) k=k row:=by
 have:decide ((0:Int)≤(i:Int))=true:=by simp
 simp[ixR,h]
theorem zq (i:Nat)(h:i<4611686018427387904):IntKind.i64.wrap ((i:Int)+1)=((i+1:Nat):Int):=qes (by omega) (by omega)
theorem qk7 (i j:Nat)(h:i+j<4611686018427387904):IntKind.i64.wrap ((i:Int)+(j:Int))=((i+j:Nat):Int):=qes (by omega) (by omega)
section
variable [vo]
end
section
variable [vo]
theorem ltT {a b:Nat}(h:a<b):decide ((a:Int)<(b:Int))=true:=decide_eq_true (by omega)
theorem ltF {a b:Nat}(h:¬ a<b):decide ((a:Int)<(b:Int))=false:=decide_eq_false (by omega)
theorem ZW {α:Type}(x:Option α):gd true x=x:=rfl
end
def dg8 (c:UInt8):Nat:=c.toNat-48
def dvF (x:Nat)(l:List UInt8):Nat:=l.foldl (fun x c=>10*x+dg8 c) x
def dv (l:List UInt8):Nat:=dvF 0 l
section
variable [vo]
end
def pre (s:ByteArray)(i:Nat):Nat:=dv (s.data.toList.take i)
structure Tk where
 kind:Int
 text:ByteArray
 n:Int
 scale:Int
section
variable [vo]
end
section
variable [vo]
end
section
variable [vo]
end
section
variable [vo]
end
end Ab
end Go.Proofs.YtpdhhkfllkgahaaGreatDoor
