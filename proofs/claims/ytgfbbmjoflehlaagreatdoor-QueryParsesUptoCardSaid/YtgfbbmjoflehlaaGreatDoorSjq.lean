/-
  strings.Join, as a plain function.
-/
import Derived.Test.YtgfbbmjoflehlaaGreatDoorSfq
import Derived.Shelf.Strings.OnBuilder
set_option linter.all false
namespace Go.Proofs
theorem Tryz.bldX:Builder.Extra Tryz.prog Tryz.laysJN_ren where
  sizeBuilder:=by kernel_rfl
  liesBuilder:=by kernel_rfl
  t5:=by kernel_rfl
  a5:=fun w=>by kernel_rfl
  z5:=fun w=>by kernel_rfl
  v5:=fun w=>by kernel_rfl
  infoByte:=by kernel_rfl
  cellsByte:=by kernel_rfl
  sizeByte:=by kernel_rfl
  neB5:=by decide
namespace YtgfbbmjoflehlaaGreatDoor
namespace Ab
variable [vo]
def strs:Rs->Option (List ByteArray)
  |[]=>some []
  |[.val (.string s)]::l=>(strs l).map (s :: ·)
  |_=>none
theorem qAf:∀ {rows:Rs} {xs:List ByteArray},strs rows=some xs->xs.length=rows.length/\∀ (j:Nat) x,xs[j]? = some x->cellAt rows j 0=some (.val (.string x))
  |[],xs,h=>by simp only[strs,aa]at h;subst h;exact⟨rfl,by simp⟩
  | row::l,xs,h=>by
    unfold strs at h;split at h
    . rename_i he;cases he
    . rename_i s l' he;cases he;cases hl:strs l with
      |none=>simp[hl]at h
      | some ys=>
        simp only[hl,av,aa]at h;subst h;obtain⟨h1,h2⟩:=qAf hl;refine⟨by simp[h1],fun j x hx=>?_⟩;cases j with
        |zero=>simp only[aI,aa]at hx;subst hx;rfl
        |succ j=>have:=h2 j x (by simpa using hx);simpa [cellAt]using this
    . cases h
noncomputable def qAz (rows:Rs)(sep:ByteArray):Option ByteArray:=match strs rows with
  |some xs=>if xs.length<=140737488355328/\(Lib.join (xs.map (·.data.toList)) sep.data.toList).length<=140737488355328 then some ⟨(Lib.join (xs.map (·.data.toList)) sep.data.toList).toArray⟩else none
  |none=>none
theorem qAA {rows:Rs}{sep r:ByteArray}(h:qAz rows sep=some r):Ev Tryz.prog noHand 61 [.c (.imm rows),.c (sc sep)] [] (.ret (.c (sc r))) []:=by
  refine⟨⟨Tryz.f61,by kernel_rfl,by kernel_rfl,by kernel_rfl⟩,fun G w Vs hr=>?_⟩;unfold qAz at h;cases hx:strs rows with
  |none=>simp[hx]at h
  | some xs=>
    simp only[hx]at h;split at h
    . rename_i hc;simp only[aa]at h;subst h;obtain⟨hl,hat⟩:=qAf hx;have e1:=yG hr (k:=1) (x:=.string sep) rfl;obtain⟨V,e0,hV⟩:=hr.slots 0 _ rfl;obtain⟨u,hu,hs⟩:=hV.2 0 0 (.imm rows) rfl;have hVu:V=u:=by simpa [AV.c,qX]using hu
      subst hVu;have hs:RelI G.im w (.imm rows) V:=by
        rcases hs with hs|hs
        . cases hs
        . exact hs
      have hsz:=hr.size;have hVs:Vs = #[V,.string sep]:=by
        apply Array.ext_getElem?;intro i
        match i with
        |0=>rw[e0];rfl
        |1=>rw[e1];rfl
        | i+2=>
          have:Vs.size<=i+2:=by rw[<- hsz];simp
          rw[Array.getElem?_eq_none this];simp
      subst hVs;cases hs with
      |immE a cap=>have hx0:xs=[]:=List.length_eq_zero_iff.1 (by simpa using hl);subst hx0;refine(Any.strings_Join_none Tryz.laysJN Tryz.bldX a cap sep w).mono fun e w' he=>?_;obtain⟨rfl,rfl⟩:=he;exact qfA hr (Go.RowKit.Below.refl _ _) rfl
      | imm rows b off cap sz vs T fr us hb hi hcap hsz1 hv hrel=>
        have hblt:=hr.inv.imlt b hi;have cell:∀ (j:Nat) x,xs[j]? = some x->w.cell? ⟨b,off+j,none⟩=some (.string x):=by
          intro j x hj;have hc0:=hat j x hj;obtain⟨row,k1,k2⟩:=qc.1 hc0;have hrow:=hsz1 row (aM k1);have hone:sz=1:=by
            have hall:∀ {rows:Rs} {xs:List ByteArray},strs rows=some xs->∀ row∈rows,row.length=1:=by
              intro rows
              induction rows with
              |nil=>intro xs _ row hm;simp at hm
              | cons r0 l ih=>
                intro xs h row hm;unfold strs at h;split at h
                . rename_i he;cases he
                . rename_i s l' he;cases he;cases hl:strs l with
                  |none=>simp[hl]at h
                  | some ys=>
                    rcases List.mem_cons.1 hm with rfl|hm
                    . rfl
                    . exact ih hl row hm
                . cases h
            rw[<- hrow];exact hall hx row (aM k1)
          subst hone;have h1:=hv j 0 _ hc0;have h2:=hrel j 0 _ hc0;generalize us j 0=u0 at h1 h2;cases h2;unfold World.cell?;simp only[hb];simpa using h1
        have:=Any.strings_Join Tryz.laysJN Tryz.bldX b off cap xs sep w cell hblt hc.1 (by rw[hl];exact hcap) hc.2;rw[hl]at this;refine this.mono fun e w' he=>?_;obtain⟨rfl,hbw⟩:=he;exact qfA hr hbw rfl
    . cases h
end Ab
end YtgfbbmjoflehlaaGreatDoor
end Go.Proofs
