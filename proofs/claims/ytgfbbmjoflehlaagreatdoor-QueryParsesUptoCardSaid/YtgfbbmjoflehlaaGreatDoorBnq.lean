/-
  What the parser gives: an AND has two operands.
-/
import Derived.Test.YtgfbbmjoflehlaaGreatDoorPgq
import Derived.Test.YtgfbbmjoflehlaaGreatDoorPhq
set_option linter.all false
namespace Go.Proofs.YtgfbbmjoflehlaaGreatDoor
namespace Ab
inductive Bn:Ex->Prop where
 |one {x:Ex} (h:x.op≠13):Bn x
 |two {x y:Ex} {p:Int} (hx:Bn x) (hy:Bn y):Bn (Ab.two 13 x y p)
theorem qFZ {op p:Int}{x y:Ex}(hx:Bn x)(hy:Bn y):Bn (two op x y p):=by
 by_cases h:op=13
 . subst h;exact .two hx hy
 . exact .one h
theorem qF0 {L:List Tok}{i q:Nat}{x:Ex}{j:Nat}(h:agF L i q=.ok x j):x.op≠13:=by
 unfold agF at h;simp only at h;cases h1:isW (tkA L (i+1)) (strB [40])with
 |false=>rw[h1]at h;cases h
 |true=>
  rw[h1]at h;simp only[aj,af]at h;cases hq:q==0 with
  |true=>
   rw[hq]at h;simp only[ah]at h;split at h
   . cases h
   . cases h3:isW (tkA L (i+3)) (strB [41])with
     |false=>rw[h3]at h;cases h
     |true=>rw[h3]at h;cases h;simp[lit,Ex.op]
  |false=>
   rw[hq]at h;simp only[af]at h;split at h
   . cases h
   . cases h3:isW (tkA L (i+5)) (strB [41])with
     |false=>rw[h3]at h;cases h
     |true=>rw[h3]at h;cases h;show(25+(q:Int))≠13;omega
theorem qFX {L:List Tok}{i:Nat}:(∀ x j,vD L i=.con (.ok x j)->x.op≠13)/\∀ d f,vD L i=.brk d f->∀ x,Bn x->Bn (f x):=by
 unfold vD;simp only;cases (tkA L i).kind==3 with
 |true=>exact⟨fun x j h=>by cases h;simp[lit,Ex.op],fun d f h=>by cases h⟩
 |false=>
 cases (tkA L i).kind==4 with
 |true=>exact⟨fun x j h=>by cases h;simp[lit,Ex.op],fun d f h=>by cases h⟩
 |false=>
 cases (tkA L i).kind==5 with
 |true=>exact⟨fun x j h=>by cases h;simp[lit,Ex.op],fun d f h=>by cases h⟩
 |false=>
 cases (tkA L i).kind==2 with
 |true=>
  simp only[ah,af];split
  . exact⟨fun x j h=>(by cases h),fun d f h=>by cases h⟩
  . exact⟨fun x j h=>by cases h;simp[lit,Ex.op],fun d f h=>by cases h⟩
 |false=>
 cases (tkA L i).kind==6 with
 |true=>
  simp only[ah,af];cases (tkA L i).text.toList==(strB [40]).toList with
  |true=>exact⟨fun x j h=>(by cases h),fun d f h x hx=>by cases h;exact hx⟩
  |false=>exact⟨fun x j h=>(by cases h),fun d f h=>by cases h⟩
 |false=>
 cases (tkA L i).kind==1 with
 |false=>exact⟨fun x j h=>(by cases h),fun d f h=>by cases h⟩
 |true=>
  simp only[ah,af];cases (tkA L i).text.toList==(strB [84,82,85,69]).toList with
  |true=>exact⟨fun x j h=>by cases h;simp[lit,Ex.op],fun d f h=>by cases h⟩
  |false=>
  cases (tkA L i).text.toList==(strB [70,65,76,83,69]).toList with
  |true=>exact⟨fun x j h=>by cases h;simp[lit,Ex.op],fun d f h=>by cases h⟩
  |false=>
  cases (tkA L i).text.toList==(strB [82,69,65,76]).toList||(tkA L i).text.toList==(strB [73,83,78,65,78]).toList with
  |true=>
   simp only[ah,af];cases isW (tkA L (i+1)) (strB [40])with
   |true=>exact⟨fun x j h=>(by cases h),fun d f h x _=>by cases h;refine .one ?_;show(_:Int)≠13;simp only[una,Ex.op];cases (tkA L i).text.toList==(strB [73,83,78,65,78]).toList<;>decide⟩
   |false=>exact⟨fun x j h=>(by cases h),fun d f h=>by cases h⟩
  |false=>
   simp only[af];refine⟨fun x j h=>?_,fun d f h=>by cases h⟩;have h:=LK.con.inj h;unfold agO at h;split at h
   . cases h
   . exact qF0 h
theorem qFY (L:List Tok):∀ n,(∀ l i o x j,l<=7->pp L n (.p l i o)=some (.ok x j)->Bn x)/\∀ l y i o x j,l<7->Bn y->pp L n (.lp l y i o)=some (.ok x j)->Bn x
 |0=>⟨fun _ _ _ _ _ _ h=>(by cases h),fun _ _ _ _ _ _ _ _ h=>by cases h⟩
 |n+1=>by
  obtain⟨ih,ihl⟩:=qFY L n;have un:∀ (t:Tok) l i o w op x j,l<7->op≠13->unF t (pp L n) l w op i o=some (.ok x j)->Bn x:=by
   intro t l i o w op x j hl ho h;unfold unF at h;cases hb:isW t w with
   |false=>rw[hb]at h;exact ih _ _ _ _ _ (by omega) h
   |true=>rw[hb]at h;obtain⟨_,h⟩:=Xv h;obtain⟨y,k,h1,h2⟩:=yx h;cases h2;exact .one ho
  have bin:∀ l i o x j,l<7->(bnd (pp L n (.p (l+1) i o)) fun x j=>pp L n (.lp l x j o))=some (.ok x j)->Bn x:=by intro l i o x j hl h;obtain⟨y,k,h1,h2⟩:=yx h;exact ihl _ _ _ _ _ _ hl (ih _ _ _ _ _ (by omega) h1) h2
  refine⟨fun l i o x j hl h=>?_,fun l y i o x j hl hy h=>?_⟩
  .
   match l,hl with
   |0,_=>exact bin 0 i o x j (by omega) (by rw[<- pp0];exact h)
   |1,_=>exact bin 1 i o x j (by omega) (by rw[<- pp1];exact h)
   |4,_=>exact bin 4 i o x j (by omega) (by rw[<- pp4];exact h)
   |5,_=>exact bin 5 i o x j (by omega) (by rw[<- pp5];exact h)
   |2,_=>rw[pp2]at h;exact un _ _ _ _ _ _ _ _ (by omega) (by omega) h
   |6,_=>rw[pp6]at h;exact un _ _ _ _ _ _ _ _ (by omega) (by omega) h
   |3,_=>
    rw[pp3]at h;obtain⟨y,k,h1,h2⟩:=yx h;have a:=ih _ _ _ _ _ (by omega) h1;cases hb:opA 3 (tkA L k)!=0 with
    |false=>rw[hb]at h2;cases h2;exact a
    |true=>rw[hb]at h2;obtain⟨z,m,h3,h4⟩:=yx h2;have:=ih _ _ _ _ _ (by omega) h3;cases h4;exact qFZ a this
   |7,_=>
    rw[pp7]at h;unfold Qm at h;split at h
    . rename_i out hk;cases h;exact .one (qFX.1 _ _ hk)
    . obtain⟨_,h⟩:=Xv h;cases h
    . rename_i d f hk;obtain⟨_,h⟩:=Xv h;obtain⟨y,k,h1,h2⟩:=yx h;have a:=ih _ _ _ _ _ (by omega) h1;obtain⟨hw,rfl,rfl⟩:=qfy h2;exact qFX.2 _ _ hk _ a
  . rw[ppl]at h;cases hb:opA l (tkA L i)==0 with
    |true=>rw[hb]at h;cases h;exact hy
    |false=>rw[hb]at h;obtain⟨z,m,h3,h4⟩:=yx h;exact ihl _ _ _ _ _ _ hl (qFZ hy (ih _ _ _ _ _ (by omega) h3)) h4
end Ab
end Go.Proofs.YtgfbbmjoflehlaaGreatDoor
