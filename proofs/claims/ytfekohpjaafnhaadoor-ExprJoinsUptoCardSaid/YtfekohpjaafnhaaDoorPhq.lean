/-
  Texts put together: what is scanned of them; what is read of an expression in brackets.
-/
import Derived.Test.YtfekohpjaafnhaaDoorPgq
import Derived.KernelRfl
set_option linter.unusedVariables false
set_option linter.unusedSimpArgs false
set_option linter.unusedSectionVars false
namespace Go.Proofs.YtfekohpjaafnhaaDoor
namespace Ab
theorem qcP (a b:ByteArray) (i:Nat):bAt (a ++ b) i=if i < a.size then bAt a i else bAt b (i - a.size) := by
 unfold bAt
 rw [YO,List.getD_eq_getElem?_getD,List.getD_eq_getElem?_getD,List.getD_eq_getElem?_getD]
 split
 · rename_i h;rw [List.getElem?_append_left (by rw [qD];exact h)]
 · rename_i h;rw [List.getElem?_append_right (by rw [qD];omega),qD]
theorem yI (a b:ByteArray):(a ++ b).size=a.size+b.size := ByteArray.size_append
theorem ext1 {u:ByteArray} {z:Nat} (hz:z < u.size) {ch:Nat} (hc:ch < 256) (h:bAt u z=ch):u.extract z (z+1)=strB [ch] := by
 refine qcK ?_ fun i hi => ?_
 · rw [size_ext _ _ _ (by omega)];show z+1 - z=1;omega
 ·
  rw [size_ext _ _ _ (by omega)] at hi
  have:i=0 := by omega
  subst this
  rw [Qz (by omega) (by omega),Nat.add_zero,h]
  exact (qjq [ch] 0 (by simp) (by simpa using hc)).symm
def sgT (s:ByteArray) (p:Nat):Tok := ⟨6,s,0,0,p⟩
theorem qms {u:ByteArray} {z:Nat} (hz:z < u.size) {ch:Nat} (hc:ch=40∨ch=41) (h:bAt u z=ch):tok u z=some (⟨6,strB [ch],0,0⟩,z+1) := by
 have h1:isLe (bAt u z)=false := by rw [h];rcases hc with rfl | rfl <;> rfl
 have h2:isDi (bAt u z)=false := by rw [h];rcases hc with rfl | rfl <;> rfl
 have h3:¬ bAt u z=39 := by rw [h];rcases hc with rfl | rfl <;> omega
 have h4:vR u z=1 := by
  unfold vR
  rw [h]
  rcases hc with rfl | rfl <;> rfl
 unfold tok qav
 rw [h1,h2]
 simp only [Bool.false_eq_true,if_false,h3,h4]
 rw [ext1 hz (by rcases hc with rfl | rfl <;> omega) h]
 rfl
theorem qhz {u:ByteArray} {q z:Nat} (h1:q≤z) (h2:z≤u.size) (h3:∀ i,q≤i→i < z→isBl (bAt u i)=true) (h4:z < u.size→isBl (bAt u z)=false):stop isBl u q=z := qeN h1 h2 h3 h4
theorem qcA {u:ByteArray} {q z m:Nat} (h1:q≤z) (hz:z < u.size) (h3:∀ i,q≤i→i < z→isBl (bAt u i)=true) {ch:Nat} (hc:ch=40∨ch=41) (h:bAt u z=ch) :
  yn u (m+1) q=pfT (sgT (strB [ch]) z) (yn u m (z+1)) := by
 have hb:isBl (bAt u z)=false := by rw [h];rcases hc with rfl | rfl <;> rfl
 rw [yn,qhz h1 (by omega) h3 fun _ => hb,if_neg (by omega),qms hz hc h]
 rfl
theorem qcp {u:ByteArray} {q m:Nat} (h1:q≤u.size) (h3:∀ i,q≤i→i < u.size→isBl (bAt u i)=true):yn u (m+1) q=.inl [endT u] := by
 rw [yn,qhz h1 (Nat.le_refl _) h3 fun h => absurd h (Nat.lt_irrefl _),if_pos rfl]
theorem qkE (T:List Tok) (t:Tok):tkA (T ++ [t]) T.length=t := by simp [tkA]
theorem qle {T:List Tok} {R:List Tok} {i:Nat} (h:i < T.length):tkA (T ++ R) i=tkA T i := by
 unfold tkA;rw [List.getElem?_append_left h]
theorem qkK {T:List Tok} (h:∀ t∈T,t.kind≠0) {i:Nat} (hi:i < T.length):(tkA T i).kind≠0 := by
 unfold tkA;rw [List.getElem?_eq_getElem hi];exact h _ (List.getElem_mem hi)
theorem qka (T:List Tok) (s:ByteArray):Lm (T ++ [endT s])=T.length := by
 unfold Lm
 have:(T ++ [endT s]).length - 1=T.length := by simp
 rw [this,qkE];rfl
theorem qkC {s:ByteArray} {n:Nat} {x:Ex} {a:Int} (h:parT s n=some (x,a,0)):s.size≤4000∧∃ T,yn s (s.size+1) 0=.inl (T ++ [endT s])∧(∀ t∈T,t.kind≠0)∧T.length≤s.size ∧
  pp (T ++ [endT s]) n (.p 0 0 0)=some (.ok x T.length)∧cnt x≤200 := by
 unfold parT at h
 split at h
 ·
  rename_i hs
  refine ⟨hs,?_⟩
  cases hT:yn s (s.size+1) 0 with
  | inr z => rw [hT] at h;cases h
  | inl L =>
   rw [hT] at h
   obtain ⟨T,rfl,h2,h3⟩ := vE s _ _ _ (Nat.zero_le _) hT
   simp only at h
   cases hp:pp (T ++ [endT s]) n (.p 0 0 0) with
   | none => rw [hp] at h;cases h
   | some out =>
    rw [hp] at h
    cases out with
    | err p e =>
     cases h
     rcases qix _ _ _ _ _ hp with h | h <;> cases h
    | ok y j =>
     simp only [Option.map_some,outP] at h
     have hj := (qeh _ n).1 0 0 0 y j (by omega) hp
     rw [qka] at hj
     by_cases hk:(tkA (T ++ [endT s]) j).kind=0
     ·
      rw [if_pos hk] at h
      by_cases hc:cnt y≤200
      ·
       rw [if_pos hc] at h
       cases h
       have:j=T.length := by
        by_cases hlt:j < T.length
        · exact absurd (by rw [← qle (R := [endT s]) hlt];exact hk) (qkK h2 hlt)
        · omega
       subst this
       exact ⟨T,rfl,h2,by omega,hp,hc⟩
      · rw [if_neg hc] at h;cases h
     · rw [if_neg hk] at h;cases h
 · cases h
theorem qk0 (s:ByteArray) {n:Nat} (hn:70000≤n):∃ r,parT s n=some r := by
 unfold parT
 split
 ·
  rename_i hs
  cases hT:yn s (s.size+1) 0 with
  | inr z => exact ⟨_,rfl⟩
  | inl L =>
   obtain ⟨T,rfl,h2,h3⟩ := vE s _ _ _ (Nat.zero_le _) hT
   obtain ⟨out,ho⟩ := (qh7 (T ++ [endT s]) n).1 0 0 0 (by omega) (Nat.zero_le _) (by rw [qka];omega)
   exact ⟨outP (T ++ [endT s]) out,by simp only [ho,Option.map_some]⟩
 · exact ⟨_,rfl⟩
theorem up1 {L:List Tok} {n l i o:Nat} {out:PO} (hl:l≤6) (h:pp L (n+1) (.p (l+1) i o)=some out) (h6:l=6→isW (tkA L i) (strB [45])=false) (h2:l=2→isW (tkA L i) (strB [78,79,84])=false)
  (hs:∀ x j,out=.ok x j→opA l (tkA L j)=0):pp L (n+2) (.p l i o)=some out := by
 have bin:l < 7→(bnd (pp L (n+1) (.p (l+1) i o)) fun x j => pp L (n+1) (.lp l x j o))=some out := by
  intro hl
  rw [h]
  cases out with
  | err p e => rfl
  | ok x j =>
   show pp L (n+1) (.lp l x j o)=_
   rw [ppl,hs x j rfl];rfl
 match l,hl with
 | 0,_ => exact bin (by omega)
 | 1,_ => exact bin (by omega)
 | 4,_ => exact bin (by omega)
 | 5,_ => exact bin (by omega)
 | 2,_ => rw [pp2];unfold unF;rw [h2 rfl];exact h
 | 6,_ => rw [pp6];unfold unF;rw [h6 rfl];exact h
 | 3,_ =>
  rw [pp3,h]
  cases out with
  | err p e => rfl
  | ok x j =>
   show (bif _ then _ else _)=_
   rw [hs x j rfl];rfl
theorem qhF (s:ByteArray):Stp (endT s) := fun l => by unfold opA;split <;> rfl
theorem qjT (p:Nat):Stp (sgT (strB [41]) p) := fun l => by unfold opA;split <;> kernel_rfl
theorem qhv (p:Nat):isW (sgT (strB [40]) p) (strB [45])=false := by kernel_rfl
theorem qhY (p:Nat):isW (sgT (strB [40]) p) (strB [78,79,84])=false := by kernel_rfl
theorem qnt (p:Nat):isW (sgT (strB [41]) p) (strB [41])=true := by kernel_rfl
theorem qcY {L:List Tok} {i p:Nat} (h:tkA L i=sgT (strB [40]) p):vD L i=.brk 1 fun x => x := by
 unfold vD
 simp only [h]
 kernel_rfl
theorem qnz {L:List Tok} {n i o p q:Nat} {x:Ex} {j:Nat} (h:tkA L i=sgT (strB [40]) p) (ho:o < 30) (hp:pp L n (.p 0 (i+1) (o+1))=some (.ok x j)) (hr:tkA L j=sgT (strB [41]) q):pp L (n+1) (.p 7 i o)=some (.ok x (j+1)) := by
 rw [pp7]
 unfold Qm
 rw [qcY h]
 have:(o == 30)=false := by simp;omega
 simp only [nst,this,cond_false,hp,bnd,clo,hr,qnt,Bool.not_true]
theorem ql0 {L:List Tok} {n i o p:Nat} {a e:Int} (h:tkA L i=sgT (strB [40]) p) (ho:o < 30) (hp:pp L n (.p 0 (i+1) (o+1))=some (.err a e)):pp L (n+1) (.p 7 i o)=some (.err a e) := by
 rw [pp7]
 unfold Qm
 rw [qcY h]
 have:(o == 30)=false := by simp;omega
 simp only [nst,this,cond_false,hp,bnd]
end Ab
end Go.Proofs.YtfekohpjaafnhaaDoor
