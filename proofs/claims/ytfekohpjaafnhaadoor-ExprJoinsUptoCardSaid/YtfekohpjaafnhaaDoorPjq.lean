/-
  ExprJoins: two expressions in brackets with an operator between.
-/
import Derived.Test.YtfekohpjaafnhaaDoorPiq
set_option linter.unusedVariables false
set_option linter.unusedSimpArgs false
set_option linter.unusedSectionVars false
namespace Go.Proofs.YtfekohpjaafnhaaDoor
namespace Ab
structure OpT (kd:Int) (tx:ByteArray) (l:Nat) (op:Int):Prop where
 tk:tok tx 0=some (⟨kd,tx,0,0⟩,tx.size)
 sz:1≤tx.size∧tx.size≤3
 nb:isBl (bAt tx 0)=false
 at_:∀ p,opA l ⟨kd,tx,0,0,p⟩=op
 up:∀ p m,l < m→opA m ⟨kd,tx,0,0,p⟩=0
 op0:op≠0
 lv:l=0∨l=1∨l=3∨l=4∨l=5
theorem qov (tx:ByteArray) (l:Nat) (op:Int) (h1:tok tx 0=some (⟨6,tx,0,0⟩,tx.size)) (h2:1≤tx.size∧tx.size≤3) (h3:isBl (bAt tx 0)=false) (h4:opA l ⟨6,tx,0,0,0⟩=op) (h5:opA 3 ⟨6,tx,0,0,0⟩=0∨l=3)
  (h6:opA 4 ⟨6,tx,0,0,0⟩=0∨l=4) (h7:opA 5 ⟨6,tx,0,0,0⟩=0∨l=5) (h8:op≠0) (h9:l=3∨l=4∨l=5):OpT 6 tx l op := by
 have pos:∀ m p,opA m ⟨6,tx,0,0,p⟩=opA m ⟨6,tx,0,0,0⟩ := fun m p => by unfold opA;split <;> rfl
 refine ⟨h1,h2,h3,fun p => by rw [pos];exact h4,fun p m hm => ?_,h8,by omega⟩
 rw [pos]
 match m,hm with
 | 0,hm => omega
 | 1,hm => omega
 | 2,hm => rfl
 | 3,hm => omega
 | 4,hm => exact h6.resolve_right (by omega)
 | 5,hm => exact h7.resolve_right (by omega)
 | m+6,hm => rfl
def sgL:List (Int×ByteArray×Nat×Int) := [(6,strB [43],4,1),(6,strB [45],4,2),(6,strB [42],5,3),(6,strB [47],5,4),(6,strB [37],5,5),(6,strB [61],3,7),(6,strB [33,61],3,8),(6,strB [60],3,9),(6,strB [60,61],3,10),(6,strB [62],3,11),(6,strB [62,61],3,12),(1,strB [65,78,68],1,13),(1,strB [79,82],0,14)]
theorem qoE (k:Nat) (hk:k < 13):∃ kd tx l op,sgL[k]? = some (kd,tx,l,op)∧OpT kd tx l op := by
 match k,hk with
 | 0,_ => exact ⟨_,_,_,_,rfl,qov _ _ _ (by kernel_rfl) (by decide) (by kernel_rfl) (by kernel_rfl) (.inl (by kernel_rfl)) (.inr rfl) (.inl (by kernel_rfl)) (by decide) (by decide)⟩
 | 1,_ => exact ⟨_,_,_,_,rfl,qov _ _ _ (by kernel_rfl) (by decide) (by kernel_rfl) (by kernel_rfl) (.inl (by kernel_rfl)) (.inr rfl) (.inl (by kernel_rfl)) (by decide) (by decide)⟩
 | 2,_ => exact ⟨_,_,_,_,rfl,qov _ _ _ (by kernel_rfl) (by decide) (by kernel_rfl) (by kernel_rfl) (.inl (by kernel_rfl)) (.inl (by kernel_rfl)) (.inr rfl) (by decide) (by decide)⟩
 | 3,_ => exact ⟨_,_,_,_,rfl,qov _ _ _ (by kernel_rfl) (by decide) (by kernel_rfl) (by kernel_rfl) (.inl (by kernel_rfl)) (.inl (by kernel_rfl)) (.inr rfl) (by decide) (by decide)⟩
 | 4,_ => exact ⟨_,_,_,_,rfl,qov _ _ _ (by kernel_rfl) (by decide) (by kernel_rfl) (by kernel_rfl) (.inl (by kernel_rfl)) (.inl (by kernel_rfl)) (.inr rfl) (by decide) (by decide)⟩
 | 5,_ => exact ⟨_,_,_,_,rfl,qov _ _ _ (by kernel_rfl) (by decide) (by kernel_rfl) (by kernel_rfl) (.inr rfl) (.inl (by kernel_rfl)) (.inl (by kernel_rfl)) (by decide) (by decide)⟩
 | 6,_ => exact ⟨_,_,_,_,rfl,qov _ _ _ (by kernel_rfl) (by decide) (by kernel_rfl) (by kernel_rfl) (.inr rfl) (.inl (by kernel_rfl)) (.inl (by kernel_rfl)) (by decide) (by decide)⟩
 | 7,_ => exact ⟨_,_,_,_,rfl,qov _ _ _ (by kernel_rfl) (by decide) (by kernel_rfl) (by kernel_rfl) (.inr rfl) (.inl (by kernel_rfl)) (.inl (by kernel_rfl)) (by decide) (by decide)⟩
 | 8,_ => exact ⟨_,_,_,_,rfl,qov _ _ _ (by kernel_rfl) (by decide) (by kernel_rfl) (by kernel_rfl) (.inr rfl) (.inl (by kernel_rfl)) (.inl (by kernel_rfl)) (by decide) (by decide)⟩
 | 9,_ => exact ⟨_,_,_,_,rfl,qov _ _ _ (by kernel_rfl) (by decide) (by kernel_rfl) (by kernel_rfl) (.inr rfl) (.inl (by kernel_rfl)) (.inl (by kernel_rfl)) (by decide) (by decide)⟩
 | 10,_ => exact ⟨_,_,_,_,rfl,qov _ _ _ (by kernel_rfl) (by decide) (by kernel_rfl) (by kernel_rfl) (.inr rfl) (.inl (by kernel_rfl)) (.inl (by kernel_rfl)) (by decide) (by decide)⟩
 | 11,_ => exact ⟨_,_,_,_,rfl,by kernel_rfl,by decide,by kernel_rfl,fun p => by kernel_rfl,fun p m hm => (match m,hm with | 0,hm => by omega | 1,hm => by omega | 2,_ => rfl | 3,_ => rfl | 4,_ => rfl | 5,_ => rfl | m+6,_ => rfl),by decide,by decide⟩
 | 12,_ => exact ⟨_,_,_,_,rfl,by kernel_rfl,by decide,by kernel_rfl,fun p => by kernel_rfl,fun p m hm => (match m,hm with | 0,hm => by omega | 1,_ => by kernel_rfl | 2,_ => rfl | 3,_ => rfl | 4,_ => rfl | 5,_ => rfl | m+6,_ => rfl),by decide,by decide⟩
theorem qoB {u:ByteArray} {q z m:Nat} (h1:q≤z) (hz:z < u.size) (h3:∀ i,q≤i→i < z→isBl (bAt u i)=true) (hb:isBl (bAt u z)=false) {t:Tk} {e:Nat} (h:tok u z=some (t,e)):yn u (m+1) q=pfT (mkT t z) (yn u m e) := by
 rw [yn,qhz h1 (by omega) h3 fun _ => hb,if_neg (by omega),h]
def qou (s y t:ByteArray):ByteArray := ((((((strB [40]) ++ s) ++ (strB [41,32])) ++ y) ++ (strB [32,40])) ++ t) ++ (strB [41])
theorem qoy (s y t:ByteArray):(qou s y t).size=s.size+t.size+y.size+6 := by
 unfold qou
 simp only [yI,qd5,qln]
 show 1+s.size+2+y.size+2+t.size+1=_
 omega
theorem r_sz:(strB [41,32]).size=2 := rfl
theorem l_sz:(strB [32,40]).size=2 := rfl
theorem jc0:bAt (strB [41,32]) 0=41 := by kernel_rfl
theorem jc1:bAt (strB [41,32]) 1=32 := by kernel_rfl
theorem jd0:bAt (strB [32,40]) 0=32 := by kernel_rfl
theorem jd1:bAt (strB [32,40]) 1=40 := by kernel_rfl
theorem qoz {s y t:ByteArray} {T R:List Tok} (hT:yn s (s.size+1) 0=.inl (T ++ [endT s])) (hl:T.length≤s.size) (hR:yn t (t.size+1) 0=.inl (R ++ [endT t])) (hr:R.length≤t.size) {kd:Int} {l:Nat} {op:Int} (ho:OpT kd y l op) :
  yn (qou s y t) ((qou s y t).size+1) 0=.inl (sgT (strB [40]) 0 :: (T.map (shT 1) ++ sgT (strB [41]) (s.size+1) :: ⟨kd,y,0,0,((s.size+3:Nat):Int)⟩ :: sgT (strB [40]) (s.size+y.size+4) ::
   (R.map (shT ((s.size+y.size+5:Nat):Int)) ++ [sgT (strB [41]) (s.size+y.size+5+t.size),endT (qou s y t)]))) := by
 have hsz := qoy s y t
 have hb:∀ i,bAt (qou s y t) i=if i < s.size+y.size+5+t.size then (if i < s.size+y.size+5 then (if i < s.size+3+y.size then (if i < s.size+3 then (if i < s.size+1 then (if i < 1 then bAt (strB [40]) i else bAt s (i - 1)) else bAt (strB [41,32]) (i - (s.size+1))) else bAt y (i - (s.size+3))) else bAt (strB [32,40]) (i - (s.size+3+y.size))) else bAt t (i - (s.size+y.size+5))) else bAt (strB [41]) (i - (s.size+y.size+5+t.size)) := fun i => by
  unfold qou
  rw [qcP,qcP,qcP,qcP,qcP,qcP]
  simp only [yI,qd5,r_sz,l_sz]
  rw [show 1+s.size+2+y.size+2+t.size=s.size+y.size+5+t.size by omega,show 1+s.size+2+y.size+2=s.size+y.size+5 by omega,show 1+s.size+2+y.size=s.size+3+y.size by omega,show 1+s.size+2=s.size+3 by omega,show 1+s.size=s.size+1 by omega]
  rfl
 generalize qou s y t=u at hsz hb ⊢
 have hy := ho.sz
 have f1:bAt u 0=40 := by rw [hb,if_pos (by omega),if_pos (by omega),if_pos (by omega),if_pos (by omega),if_pos (by omega),if_pos (by omega)];exact b40
 have f2:∀ i,i < s.size→bAt u (1+i)=bAt s i := fun i hi => by rw [hb,if_pos (by omega),if_pos (by omega),if_pos (by omega),if_pos (by omega),if_pos (by omega),if_neg (by omega)];congr 1;omega
 have f3:bAt u (s.size+1)=41 := by rw [hb,if_pos (by omega),if_pos (by omega),if_pos (by omega),if_pos (by omega),if_neg (by omega),Nat.sub_self];exact jc0
 have f4:bAt u (s.size+2)=32 := by rw [hb,if_pos (by omega),if_pos (by omega),if_pos (by omega),if_pos (by omega),if_neg (by omega),show s.size+2 - (s.size+1)=1 by omega];exact jc1
 have f5:∀ i,i < y.size→bAt u (s.size+3+i)=bAt y i := fun i hi => by rw [hb,if_pos (by omega),if_pos (by omega),if_pos (by omega),if_neg (by omega)];congr 1;omega
 have f6:bAt u (s.size+3+y.size)=32 := by rw [hb,if_pos (by omega),if_pos (by omega),if_neg (by omega),Nat.sub_self];exact jd0
 have f7:bAt u (s.size+y.size+4)=40 := by rw [hb,if_pos (by omega),if_pos (by omega),if_neg (by omega),show s.size+y.size+4 - (s.size+3+y.size)=1 by omega];exact jd1
 have f8:∀ i,i < t.size→bAt u (s.size+y.size+5+i)=bAt t i := fun i hi => by rw [hb,if_pos (by omega),if_neg (by omega)];congr 1;omega
 have f9:bAt u (s.size+y.size+5+t.size)=41 := by rw [hb,if_neg (by omega),Nat.sub_self];exact b41
 have em1:Emb s u 1 := ⟨by omega,f2,fun _ => by rw [Nat.add_comm,f3];rfl⟩
 have em2:Emb t u (s.size+y.size+5) := ⟨by omega,f8,fun _ => by rw [f9];rfl⟩
 obtain ⟨q,q1,q2,q3,q4⟩ := qay em1 _ _ _ (Nat.zero_le _) hT
 obtain ⟨z,z1,z2,z3,z4⟩ := qay em2 _ _ _ (Nat.zero_le _) hR
 have tkO:tok u (s.size+3)=some (⟨kd,y,0,0⟩,s.size+3+y.size) := by
  have := qmu (s := y) (p := 0) (u := u) (q := s.size+3) (n := y.size) ⟨by omega,by omega,fun i hi => by rw [f5 i hi,Nat.zero_add],fun _ => by rw [f6];rfl⟩ (by omega) ho.tk (by omega)
  rw [this]
  congr 2
  omega
 have nbO:isBl (bAt u (s.size+3))=false := by
  have := f5 0 (by omega)
  rw [Nat.add_zero] at this
  rw [this];exact ho.nb
 rw [qcA (Nat.le_refl 0) (by omega) (fun i h1 h2 => by omega) (.inl rfl) f1]
 have e:u.size=(u.size - T.length - R.length - 5+2+R.length+1+1+1)+T.length := by omega
 rw [e]
 have q4' := q4 (u.size - T.length - R.length - 5+2+R.length+1+1+1)
 rw [show 1+0=0+1 by omega] at q4'
 rw [q4',qcA (z := s.size+1) (by omega) (by omega) (fun i a b => q3 i a (by omega)) (.inr rfl) f3,
  qoB (z := s.size+3) (by omega) (by omega) (fun i a b => by rw [show i=s.size+2 by omega,f4];rfl) nbO tkO,
  qcA (z := s.size+y.size+4) (by omega) (by omega) (fun i a b => by rw [show i=s.size+3+y.size by omega,f6];rfl) (.inl rfl) f7]
 have z4' := z4 (u.size - T.length - R.length - 5+2)
 rw [show s.size+y.size+5+0=s.size+y.size+4+1 by omega] at z4'
 rw [z4',qcA (z := s.size+y.size+5+t.size) (by omega) (by omega) (fun i a b => z3 i a (by omega)) (.inr rfl) f9,qcp (by omega) (fun i a b => by omega)]
 rw [show pfT (sgT (strB [41]) (s.size+y.size+5+t.size)) (.inl [endT u])=.inl [sgT (strB [41]) (s.size+y.size+5+t.size),endT u] from rfl,qeS]
 show pfT _ (pfs _ (pfT _ (pfT _ (pfT _ (.inl _)))))=_
 rw [show ∀ (a b c:Tok) (l:List Tok),pfT a (pfT b (pfT c (.inl l)))=.inl (a :: b :: c :: l) from fun _ _ _ _ => rfl,qeS]
 rfl
theorem upr {L:List Tok} {n i o:Nat} {out:PO} (a b:Nat) (hab:b≤a) (ha:a≤7) (h:pp L (n+1) (.p a i o)=some out) (h6:isW (tkA L i) (strB [45])=false) (h2:isW (tkA L i) (strB [78,79,84])=false)
  (hs:∀ x j,out=.ok x j→∀ m,b≤m→m < a→opA m (tkA L j)=0):pp L (n+1+(a - b)) (.p b i o)=some out := by
 obtain ⟨d,hd⟩:∃ d,d=a - b := ⟨_,rfl⟩
 rw [← hd]
 induction d generalizing b with
 | zero =>
  have:b=a := by omega
  subst this
  exact h
 | succ d ih =>
  have := ih (b+1) (by omega) (fun x j e m h1 h2 => hs x j e m (by omega) h2) (by omega)
  rw [show n+1+d=(n+d)+1 by omega] at this
  rw [show n+1+(d+1)=(n+d)+2 by omega]
  exact up1 (by omega) this (fun _ => h6) (fun _ => h2) fun x j e => hs x j e b (Nat.le_refl _) (by omega)
def midO (op:Int) (x:Ex) (p:Int):PO→PO
 | .err p e => .err p e
 | .ok y k => .ok (two op x y p) k
theorem mid {L:List Tok} {n l i o:Nat} {x:Ex} {j:Nat} {out:PO} (hl:l=0∨l=1∨l=3∨l=4∨l=5) (h1:pp L (n+2) (.p (l+1) i o)=some (.ok x j)) (h0:opA l (tkA L j)≠0) (h2:pp L (n+1) (.p (l+1) (j+1) o)=some out)
  (hs:∀ y k,out=.ok y k→opA l (tkA L k)=0):pp L (n+3) (.p l i o)=some (midO (opA l (tkA L j)) x (tkA L j).pos out) := by
 have h0':(opA l (tkA L j) == 0)=false := by simpa using h0
 have bin:(bnd (pp L (n+2) (.p (l+1) i o)) fun x j => pp L (n+2) (.lp l x j o))=some (midO (opA l (tkA L j)) x (tkA L j).pos out) := by
  rw [h1]
  show pp L (n+2) (.lp l x j o)=_
  rw [ppl,h0',cond_false,h2]
  cases out with
  | err p e => rfl
  | ok y k =>
   show pp L (n+1) (.lp l _ k o)=_
   rw [ppl,hs y k rfl];rfl
 rcases hl with rfl | rfl | rfl | rfl | rfl
 · exact bin
 · exact bin
 ·
  rw [pp3,h1]
  have h0'':(opA 3 (tkA L j) != 0)=true := by rw [bne,h0'];rfl
  show (bif opA 3 (tkA L j) != 0 then bnd (pp L (n+2) (.p 4 (j+1) o)) _ else _)=_
  rw [h0'',cond_true,qoA L _ _ _ h2]
  cases out with
  | err p e => rfl
  | ok y k => rfl
 · exact bin
 · exact bin
theorem joins {s y t:ByteArray} {n:Nat} {a b:Ex} {p q:Int} (h:parT s n=some (a,p,0)) (h':parT t n=some (b,q,0)) (hs:s.size+t.size≤3900) {kd:Int} {l:Nat} {op:Int} (ho:OpT kd y l op) :
  (∃ p:Int,parT (qou s y t) (n+20)=some (z0,p,14))∨parT (qou s y t) (n+20)=some (if cnt a+cnt b+1≤200 then (two op (shX 1 a) (shX ((s.size+y.size+5:Nat):Int) b) ((s.size+3:Nat):Int),0,0) else (z0,0,2)) := by
 obtain ⟨_,T,hT,hk,hl,hp,hc⟩ := qkC h
 obtain ⟨_,R,hR,hk2,hr,hp2,hc2⟩ := qkC h'
 have su := qoz hT hl hR hr ho
 have zu := qoy s y t
 have hy := ho.sz
 generalize qou s y t=u at su zu ⊢
 generalize hLu:(sgT (strB [40]) 0 :: (T.map (shT 1) ++ sgT (strB [41]) (s.size+1) :: (⟨kd,y,0,0,((s.size+3:Nat):Int)⟩:Tok) :: sgT (strB [40]) (s.size+y.size+4) :: (R.map (shT ((s.size+y.size+5:Nat):Int)) ++ [sgT (strB [41]) (s.size+y.size+5+t.size),endT u])))=Lu at su
 have a0:tkA Lu 0=sgT (strB [40]) 0 := by rw [← hLu];rfl
 have a1:∀ k,k < T.length→tkA Lu (k+1)=shT 1 (tkA T k) := fun k hk => by rw [← hLu,qbx,qhm T 1 _ hk]
 have a2:tkA Lu (T.length+1)=sgT (strB [41]) (s.size+1) := by rw [← hLu,qbx,qeT]
 have behind:∀ m,tkA Lu (T.length+2+m)=tkA ((⟨kd,y,0,0,((s.size+3:Nat):Int)⟩:Tok) :: sgT (strB [40]) (s.size+y.size+4) :: (R.map (shT ((s.size+y.size+5:Nat):Int)) ++ [sgT (strB [41]) (s.size+y.size+5+t.size),endT u])) m := fun m => by
  rw [← hLu,show T.length+2+m=(T.length+1+m)+1 by omega,qbx]
  unfold tkA
  rw [List.getElem?_append_right (by simp;omega)]
  simp only [List.length_map]
  rw [show T.length+1+m - T.length=m+1 by omega,List.getElem?_cons_succ]
 have a3:tkA Lu (T.length+2)=⟨kd,y,0,0,((s.size+3:Nat):Int)⟩ := behind 0
 have a4:tkA Lu (T.length+3)=sgT (strB [40]) (s.size+y.size+4) := behind 1
 have a5:∀ k,k < R.length→tkA Lu (k+(T.length+4))=shT ((s.size+y.size+5:Nat):Int) (tkA R k) := fun k hk => by
  rw [show k+(T.length+4)=T.length+2+(k+1+1) by omega,behind,qbx,qbx,qhm R _ _ hk]
 have a6:tkA Lu (R.length+(T.length+4))=sgT (strB [41]) (s.size+y.size+5+t.size) := by
  rw [show R.length+(T.length+4)=T.length+2+(R.length+1+1) by omega,behind,qbx,qbx,qeT]
 have a7:tkA Lu (R.length+(T.length+4)+1)=endT u := by
  rw [show R.length+(T.length+4)+1=T.length+2+(R.length+1+1+1) by omega,behind,qbx,qbx,qjI]
 have ag1:Agr (T ++ [endT s]) Lu 1 1 0 T.length := fun k _ h2 => by rw [a1 k h2,qle h2]
 have ag2:Agr (R ++ [endT t]) Lu (T.length+4) ((s.size+y.size+5:Nat):Int) 0 R.length := fun k _ h2 => by rw [a5 k h2,qle h2]
 have r1 := (qjL n).1 0 0 0 1 a T.length (by omega) (by omega) (by omega) hp ag1 (.inr (by rw [a2];exact qjT _))
 have r2 := (qjL n).1 0 0 0 1 b R.length (by omega) (by omega) (by omega) hp2 ag2 (.inr (by rw [a6];exact qjT _))
 rw [Nat.zero_add] at r1 r2
 have no6:isW (tkA Lu 0) (strB [45])=false := by rw [a0];exact qhv 0
 have no2:isW (tkA Lu 0) (strB [78,79,84])=false := by rw [a0];exact qhY 0
 have lv := ho.lv
 rcases r1 with r1 | ⟨_,p,r1⟩
 ·
  have b1 := qnz (i := 0) (o := 0) a0 (by omega) r1 a2
  have c1 := upr 7 (l+1) (by omega) (by omega) b1 no6 no2 fun x j e m h1 h2 => by
   cases e
   rw [a3]
   exact ho.up _ m (by omega)
  have e2:∃ out,pp Lu (n+9) (.p (l+1) (T.length+2+1) 0)=some out∧((∃ p,out=.err p 14)∨out=.ok (shX ((s.size+y.size+5:Nat):Int) b) (R.length+(T.length+4)+1)) := by
   have m6:isW (tkA Lu (T.length+3)) (strB [45])=false := by rw [a4];exact qhv _
   have m2:isW (tkA Lu (T.length+3)) (strB [78,79,84])=false := by rw [a4];exact qhY _
   rcases r2 with r2 | ⟨_,p,r2⟩
   ·
    have b2 := qnz (i := T.length+3) (o := 0) a4 (by omega) r2 a6
    have c2 := upr 7 (l+1) (by omega) (by omega) b2 m6 m2 fun x j e m _ _ => by
     cases e
     rw [a7]
     exact qhF u m
    exact ⟨_,qor (by omega) c2,.inr rfl⟩
   ·
    have b2 := ql0 (i := T.length+3) (o := 0) a4 (by omega) r2
    have c2 := upr 7 (l+1) (by omega) (by omega) b2 m6 m2 fun x j e m _ _ => by cases e
    exact ⟨_,qor (by omega) c2,.inl ⟨p,rfl⟩⟩
  obtain ⟨out,e2,e3⟩ := e2
  have c1' := qor (m := n+8+2) (by omega) c1
  have mm := mid (n := n+8) (o := 0) lv c1' (by rw [a3,ho.at_];exact ho.op0) e2 fun y k e => by
   rcases e3 with ⟨p,rfl⟩ | rfl
   · cases e
   · cases e;rw [a7];exact qhF u l
  rw [a3,ho.at_] at mm
  rcases e3 with ⟨p,rfl⟩ | rfl
  ·
   left
   have fin := upr l 0 (by omega) (by omega) mm no6 no2 fun x j e m _ _ => by cases e
   exact ⟨p,by rw [qfj (by omega) su (qor (m := n+20) (by omega) fin)];rfl⟩
  ·
   right
   have fin := upr l 0 (by omega) (by omega) mm no6 no2 fun x j e m _ _ => by
    cases e
    rw [a7]
    exact qhF u m
   rw [qfj (by omega) su (qor (m := n+20) (by omega) fin)]
   unfold outP
   simp only [midO,a7,qiA,qhc]
   rw [if_pos (show (endT u).kind=0 from rfl)]
 ·
  left
  have b := upr 7 0 (by omega) (by omega) (ql0 (i := 0) (o := 0) a0 (by omega) r1) no6 no2 fun y j e m _ _ => by cases e
  exact ⟨p,by rw [qfj (by omega) su (qor (m := n+20) (by omega) b)];rfl⟩
end Ab
end Go.Proofs.YtfekohpjaafnhaaDoor
