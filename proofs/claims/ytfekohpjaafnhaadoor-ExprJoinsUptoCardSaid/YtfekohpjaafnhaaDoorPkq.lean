/-
  ExprJoins' law.
-/
import Derived.Test.YtfekohpjaafnhaaDoorPjq
set_option linter.unusedVariables false
set_option linter.unusedSimpArgs false
set_option linter.unusedSectionVars false
namespace Go.Proofs.YtfekohpjaafnhaaDoor
namespace Ab
theorem qoD (c:Int):∃ k:Nat,k < 13∧IntKind.i64.wrap (Int.tmod (IntKind.u64.wrap c) 13)=(k:Int) := by
 have h1:0≤IntKind.u64.wrap c := by
  have:IntKind.u64.wrap c=c % 18446744073709551616 := rfl
  rw [this];omega
 refine ⟨(IntKind.u64.wrap c % 13).toNat,by omega,?_⟩
 rw [Int.tmod_eq_emod_of_nonneg h1,IntKind.wrap_i64]
 omega
theorem qoF {k:Nat} {kd:Int} {tx:ByteArray} {l:Nat} {op:Int} (h:sgL[k]? = some (kd,tx,l,op)):[[sc (strB [43])],[sc (strB [45])],[sc (strB [42])],[sc (strB [47])],[sc (strB [37])],[sc (strB [61])],[sc (strB [33,61])],[sc (strB [60])],[sc (strB [60,61])],[sc (strB [62])],[sc (strB [62,61])],[sc (strB [65,78,68])],[sc (strB [79,82])]][k]? = some [sc tx] ∧
  [[ic 1],[ic 2],[ic 3],[ic 4],[ic 5],[ic 7],[ic 8],[ic 9],[ic 10],[ic 11],[ic 12],[ic 13],[ic 14]][k]? = some [ic op] := by
 have e1:[[sc (strB [43])],[sc (strB [45])],[sc (strB [42])],[sc (strB [47])],[sc (strB [37])],[sc (strB [61])],[sc (strB [33,61])],[sc (strB [60])],[sc (strB [60,61])],[sc (strB [62])],[sc (strB [62,61])],[sc (strB [65,78,68])],[sc (strB [79,82])]]=sgL.map fun x => [sc x.2.1] := rfl
 have e2:[[ic 1],[ic 2],[ic 3],[ic 4],[ic 5],[ic 7],[ic 8],[ic 9],[ic 10],[ic 11],[ic 12],[ic 13],[ic 14]]=sgL.map fun x => [ic x.2.2.2] := rfl
 rw [e1,e2,List.getElem?_map,List.getElem?_map,h]
 exact ⟨rfl,rfl⟩
section
variable [vo]
theorem qox (s t:ByteArray) (c:Int):Tot (fun k => g6 k s t c) true := by
 obtain ⟨⟨x,a,e⟩,h⟩ := qk0 s (n := 90000) (by omega)
 obtain ⟨⟨y,b,e'⟩,h'⟩ := qk0 t (n := 90000) (by omega)
 have t1 := qdP h
 have t2 := qdP h'
 have t7:Tot (fun k => g7 k) true := qjj 100 awk
 have ends:Goes qn9 (.h0 s t c true y.op (qg y.args) y.n y.scale y.name y.attr y.pos x.op (qg x.args) x.n x.scale x.name x.attr x.pos) true := .of1 t7 fun k b => by simp only [qn9,cond_true,b,Option.bind_some]
 by_cases he:e=0
 ·
  by_cases he':e'=0
  ·
   subst he
   subst he'
   have hs4 := (qkC h).1
   have ht4 := (qkC h').1
   have hcx:cnt x≤200 := (qkC h).2.elim fun T h => h.2.2.2.2
   have hcy:cnt y≤200 := (qkC h').2.elim fun T h => h.2.2.2.2
   have wr:IntKind.i64.wrap ((s.size:Int)+(t.size:Int))=(s.size:Int)+(t.size:Int) := by rw [IntKind.wrap_i64];omega
   by_cases hs:s.size+t.size≤3900
   ·
    have into:Goes qn9 (.h0 s t c false y.op (qg y.args) y.n y.scale y.name y.attr y.pos x.op (qg x.args) x.n x.scale x.name x.attr x.pos) true→Goes qn9 (.e s t c) true := fun h0 => .of4 t1 t2 t7 h0 fun k b b2 b3 b4 => by
     simp only [qn9,b,b2,exT,Option.bind_some,tup9,b3,Bool.not_true,cond_false,wr,show decide ((s.size:Int)+(t.size:Int) > 3900)=false from decide_eq_false (by omega)]
     exact b4
    refine into ?_
    obtain ⟨k,hk,ek⟩ := qoD c
    obtain ⟨kd,tx,l,op,hsg,ho⟩ := qoE k hk
    obtain ⟨m1,m2⟩ := qoF hsg
    have hy := ho.sz
    have un1:∀ {α:Type} (f:ByteArray→Option α),un_s [sc tx] f=f tx := fun f => rfl
    have un2:∀ {α:Type} (f:Int→Option α),un_i [ic op] f=f op := fun f => rfl
    have G1:decide ((strB [40]).size+s.size≤1000000000)=true := decide_eq_true (by rw [qd5];omega)
    have G2:decide (((strB [40]) ++ s).size+(strB [41,32]).size≤1000000000)=true := decide_eq_true (by rw [yI,qd5,r_sz];omega)
    have G3:decide ((((strB [40]) ++ s) ++ (strB [41,32])).size+tx.size≤1000000000)=true := decide_eq_true (by rw [yI,yI,qd5,r_sz];omega)
    have G4:decide (((((strB [40]) ++ s) ++ (strB [41,32])) ++ tx).size+(strB [32,40]).size≤1000000000)=true := decide_eq_true (by rw [yI,yI,yI,qd5,r_sz,l_sz];omega)
    have G5:decide ((((((strB [40]) ++ s) ++ (strB [41,32])) ++ tx) ++ (strB [32,40])).size+t.size≤1000000000)=true := decide_eq_true (by rw [yI,yI,yI,yI,qd5,r_sz,l_sz];omega)
    have G6:decide (((((((strB [40]) ++ s) ++ (strB [41,32])) ++ tx) ++ (strB [32,40])) ++ t).size+(strB [41]).size≤1000000000)=true := decide_eq_true (by rw [yI,yI,yI,yI,yI,qd5,r_sz,l_sz,qln];omega)
    rcases joins h h' hs ho with ⟨p,h2⟩ | h2
    ·
     have s1:Goes qn9 (.h1 s (k:Int) [[ic 1],[ic 2],[ic 3],[ic 4],[ic 5],[ic 7],[ic 8],[ic 9],[ic 10],[ic 11],[ic 12],[ic 13],[ic 14]] 14 true 0 [] 0 0 (strB []) (strB []) 0 y.op (qg y.args) y.n y.scale y.name y.attr y.pos x.op (qg x.args) x.n x.scale x.name x.attr x.pos) true := .fin0 fun k rec => rfl
     refine .of2 (qdP h2) s1 fun j b b2 => ?_
     have b := show g13 j (((((((strB [40]) ++ s) ++ (strB [41,32])) ++ tx) ++ (strB [32,40])) ++ t) ++ (strB [41]))=_ from b
     simp only [qn9,cond_false,G1,G2,G3,G4,G5,G6,ZW,ek,Yi m1,un1,b,exT,Option.bind_some,tup9]
     exact b2
    ·
     by_cases hc:cnt x+cnt y+1≤200
     ·
      rw [if_pos hc] at h2
      have g8a := qmf _ (shX 1 x) x (Nat.le_refl _) (by rw [qhc];omega)
      rw [qiB] at g8a
      have g8b := qmf _ (shX ((s.size+tx.size+5:Nat):Int) y) y (Nat.le_refl _) (by rw [qhc];omega)
      rw [qiB] at g8b
      have t8a:Tot (fun k => g8 k (shX 1 x).op (qg (shX 1 x).args) (shX 1 x).n (shX 1 x).scale (shX 1 x).name (shX 1 x).attr (shX 1 x).pos x.op (qg x.args) x.n x.scale x.name x.attr x.pos) true := g8a
      generalize shX ((s.size+tx.size+5:Nat):Int) y=Y at h2 g8b
      generalize shX 1 x=X at h2 t8a
      have t8b:Tot (fun k => g8 k Y.op (qg Y.args) Y.n Y.scale Y.name Y.attr Y.pos y.op (qg y.args) y.n y.scale y.name y.attr y.pos) true := g8b
      have s1:Goes qn9 (.h1 s (k:Int) [[ic 1],[ic 2],[ic 3],[ic 4],[ic 5],[ic 7],[ic 8],[ic 9],[ic 10],[ic 11],[ic 12],[ic 13],[ic 14]] 0 false op (qg [X,Y]) 0 0 (strB []) (strB []) ((s.size+3:Nat):Int) y.op (qg y.args) y.n y.scale y.name y.attr y.pos x.op (qg x.args) x.n x.scale x.name x.attr x.pos) true := by
       have n0:∀ {α:Type} (f:List Cell→Option α),ixR (qg [X,Y]) 0 f=f (Xe X) := fun f => rfl
       have n1:∀ {α:Type} (f:List Cell→Option α),ixR (qg [X,Y]) 1 f=f (Xe Y) := fun f => rfl
       have w3:IntKind.i64.wrap ((s.size:Int)+3)=((s.size+3:Nat):Int) := by rw [IntKind.wrap_i64];omega
       refine .of2 t8a t8b fun j b b2 => ?_
       simp only [qn9,cond_false,cond_true,beq_self_eq_true,Yi m2,un2,show ((qg [X,Y]).length:Int)=2 from rfl,n0,n1,qkU,b,b2,Option.bind_some,w3]
      refine .of2 (qdP h2) s1 fun j b b2 => ?_
      have b := show g13 j (((((((strB [40]) ++ s) ++ (strB [41,32])) ++ tx) ++ (strB [32,40])) ++ t) ++ (strB [41]))=_ from b
      simp only [qn9,cond_false,G1,G2,G3,G4,G5,G6,ZW,ek,Yi m1,un1,b,exT,Option.bind_some,tup9]
      exact b2
     ·
      rw [if_neg hc] at h2
      have t10a:Tot (fun k => g10 k x.op (qg x.args) x.n x.scale x.name x.attr x.pos) (cnt x:Int) := qkz _ x (Nat.le_refl _) (by omega)
      have t10b:Tot (fun k => g10 k y.op (qg y.args) y.n y.scale y.name y.attr y.pos) (cnt y:Int) := qkz _ y (Nat.le_refl _) (by omega)
      have s1:Goes qn9 (.h1 s (k:Int) [[ic 1],[ic 2],[ic 3],[ic 4],[ic 5],[ic 7],[ic 8],[ic 9],[ic 10],[ic 11],[ic 12],[ic 13],[ic 14]] 2 true 0 [] 0 0 (strB []) (strB []) 0 y.op (qg y.args) y.n y.scale y.name y.attr y.pos x.op (qg x.args) x.n x.scale x.name x.attr x.pos) true := .of2 t10a t10b fun j b b2 => by
       simp only [qn9,cond_true,show ((2:Int) == 14)=false from rfl,cond_false,b,b2,Option.bind_some,qk7 (cnt x) (cnt y) (by omega),show decide (((cnt x+cnt y:Nat):Int)≥200)=true from decide_eq_true (by omega)]
      refine .of2 (qdP h2) s1 fun j b b2 => ?_
      have b := show g13 j (((((((strB [40]) ++ s) ++ (strB [41,32])) ++ tx) ++ (strB [32,40])) ++ t) ++ (strB [41]))=_ from b
      simp only [qn9,cond_false,G1,G2,G3,G4,G5,G6,ZW,ek,Yi m1,un1,b,exT,Option.bind_some,tup9]
      exact b2
   ·
    refine Goes.of4 (step := qn9) (s := .e s t c) t1 t2 t7 ends fun k b b2 b3 b4 => ?_
    simp only [qn9,b,b2,exT,Option.bind_some,tup9,b3,Bool.not_true,cond_false,wr,show decide ((s.size:Int)+(t.size:Int) > 3900)=true from decide_eq_true (by omega)]
    exact b4
  ·
   have hb:(e' != 0)=true := by simpa using he'
   subst he
   refine Goes.of4 (step := qn9) (s := .e s t c) t1 t2 t7 ends fun k b b2 b3 b4 => ?_
   simp only [qn9,b,b2,exT,Option.bind_some,tup9,b3,Bool.not_true,cond_false,hb,cond_true]
   exact b4
 ·
  have hb:(e != 0)=true := by simpa using he
  refine Goes.of4 (step := qn9) (s := .e s t c) t1 t2 t7 ends fun k b b2 b3 b4 => ?_
  simp only [qn9,b,b2,exT,Option.bind_some,tup9,b3,Bool.not_true,cond_false,hb,cond_true]
  exact b4
end
end Ab
end Go.Proofs.YtfekohpjaafnhaaDoor
