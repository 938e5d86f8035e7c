/-
  Whatever automaton is handed in (of bulk at most 1048576), MergeMakes returns true, and it reads as it did: what the program makes of any automaton that is of the form is the document's, and what was handed in stays.
  Conditions: the row's own alone (the bound on the arguments' bulk).
-/
import Derived.Test.YtgghingfdcmelaaGreatB4
set_option linter.unusedVariables false
set_option linter.unusedSimpArgs false
namespace Go.Proofs.YtgghingfdcmelaaGreat
namespace Ab
open Go.ChangeShapes Go.WideShapes Go.ChangeAt Go.RowKit

theorem own : ownKnob Tryz.prog.godebug = none := by kernel_rfl
def plainTypes : List TypeId := [25, 22, 23, 34, 30, 31, 32, 36, 77, 82, 80, 78, 3, 2, 4]

theorem st25 : structTs Tryz.prog 25 = some [3, 22, 23] := by kernel_rfl
theorem st34 : structTs Tryz.prog 34 = some [3, 3, 4, 2, 30, 31, 31, 32] := by kernel_rfl
theorem st36 : structTs Tryz.prog 36 = some [3, 31, 30] := by kernel_rfl
theorem st77 : structTs Tryz.prog 77 = some [3, 31] := by kernel_rfl
theorem st82 : structTs Tryz.prog 82 = some [3, 3, 31, 80, 3, 3] := by kernel_rfl
theorem st80 : structTs Tryz.prog 80 = some [3, 78] := by kernel_rfl
theorem ut2 : Tryz.prog.underlying 2 = some (.int .i64) := by kernel_rfl
theorem ut3 : Tryz.prog.underlying 3 = some (.int .i64) := by kernel_rfl
theorem ut78 : Tryz.prog.underlying 78 = some (.int .u64) := by kernel_rfl
theorem ut22 : Tryz.prog.underlying 22 = some (.slice 3) := by kernel_rfl
theorem ut23 : Tryz.prog.underlying 23 = some (.slice 34) := by kernel_rfl
theorem ut30 : Tryz.prog.underlying 30 = some (.slice 77) := by kernel_rfl
theorem ut31 : Tryz.prog.underlying 31 = some (.slice 82) := by kernel_rfl
theorem ut32 : Tryz.prog.underlying 32 = some (.slice 36) := by kernel_rfl
theorem ut4 : Tryz.prog.underlying 4 = some .bool := by kernel_rfl

/-! how much there is of it -/
mutual
theorem wt_ndRow : ∀ n : Nd, cnt n ≤ wtL (ndRow n)
  | .mk op kind args vk vb pos attr => by
    have := wt_ndRows args
    simp only [cnt, ndRow, wtL, wtC, ic]
    omega
theorem wt_ndRows : ∀ l : List Nd, cnts l ≤ wtRs (ndRows l)
  | [] => by simp [cnts]
  | n :: l => by
    have h1 := wt_ndRow n
    have h2 := wt_ndRows l
    simp only [cnts, ndRows, wtRs]
    omega
end
theorem wt_mem {α : Type} {f : α → List Cell} : ∀ {l : List α} {x : α}, x ∈ l → wtL (f x) ≤ wtRs (l.map f)
  | y :: l, x, h => by
    simp only [List.map_cons, wtRs]
    rcases List.mem_cons.1 h with rfl | h
    · omega
    · have := wt_mem (f := f) h; omega
theorem wt_len {α : Type} {f : α → List Cell} (hf : ∀ x, 1 ≤ wtL (f x)) : ∀ l : List α, l.length ≤ wtRs (l.map f)
  | [] => by simp
  | y :: l => by
    have := wt_len hf l
    have := hf y
    simp only [List.map_cons, wtRs, List.length_cons]
    omega
theorem wt_brR (x : Br) : 1 ≤ wtL (brR x) := by simp only [brR, wtL, wtC, ic]; omega
theorem wt_enR (x : En) : 1 ≤ wtL (enR x) := by simp only [enR, wtL, wtC, ic]; omega
theorem wt_saR (x : Sa) : 1 + x.e.length ≤ wtL (saR x) := by
  have := wt_len wt_enR x.e
  simp only [saR, wtL, wtC, ic, bc]; omega
theorem okBr_wt {x : Br} (h : wtL (brR x) ≤ 1048576) : okBr x := by
  have := wt_ndRows x.g
  simp only [brR, wtL, wtC, ic] at h
  unfold okBr; omega
theorem okBrs_wt {l : List Br} (h : wtRs (l.map brR) ≤ 1048576) : okBrs l :=
  ⟨by have := wt_len wt_brR l; omega, fun x hx => okBr_wt (by have := wt_mem (f := brR) hx; omega)⟩
theorem okEn_wt {x : En} (h : wtL (enR x) ≤ 1048576) : okEn x := by
  have := wt_ndRows x.c
  simp only [enR, wtL, wtC, ic] at h
  exact ⟨by omega, okBrs_wt (by omega)⟩
theorem okEns_wt {l : List En} (h : wtRs (l.map enR) ≤ 1048576) : okEns l :=
  ⟨by have := wt_len wt_enR l; omega, fun x hx => okEn_wt (by have := wt_mem (f := enR) hx; omega)⟩
theorem okSa_wt {x : Sa} (h : wtL (saR x) ≤ 1048576) : okSa x := by
  have h1 := wt_ndRows x.l
  have h2 := wt_ndRows x.g
  simp only [saR, wtL, wtC, ic, bc] at h
  exact ⟨okBrs_wt (by omega), by omega, by omega, okEns_wt (by omega)⟩
theorem okSas_wt {l : List Sa} (h : wtRs (l.map saR) ≤ 1048576) : okSas l :=
  ⟨by have := wt_len (f := saR) (fun x => by have := wt_saR x; omega) l; omega, fun x hx => okSa_wt (by have := wt_mem (f := saR) hx; omega)⟩
theorem tot_wt : ∀ l : List Sa, tot l ≤ wtRs (l.map saR)
  | [] => by simp [tot]
  | x :: l => by
    have := tot_wt l
    have := wt_saR x
    simp only [tot, List.map_cons, wtRs]; omega

/-! readings as data -/
theorem ShT.fieldsN {P : Program} {B n : Nat} {t : TypeId} {l : List Cell} {ts : List TypeId} (h : ShT P B (n + 1) t l) (hu : structTs P t = some ts) : ShFs P B n ts l := by
  unfold structTs at hu
  simp only [ShT] at h
  split at hu
  · rename_i fs he
    rw [he] at h
    simp only [Option.some.injEq] at hu
    subst hu
    obtain ⟨ls, rfl, hl, hs⟩ := h
    have key : ∀ (fl : List Field) (ls : List (List Cell)), ls.length = fl.length → (∀ (i : Nat) f x, fl[i]? = some f → ls[i]? = some x → ShT P B n f.type x) → ShFs P B n (fl.map (·.type)) ls.flatten := by
      intro fl
      induction fl with
      | nil =>
        intro ls hl _
        have : ls = [] := List.length_eq_zero_iff.1 hl
        rw [this]; rfl
      | cons f fl ih =>
        intro ls hl hs
        cases ls with
        | nil => simp at hl
        | cons x ls => exact ⟨x, ls.flatten, by simp, hs 0 f x rfl rfl, ih ls (by simpa using hl) (fun i f' x' h1 h2 => hs (i + 1) f' x' (by simpa using h1) (by simpa using h2))⟩
    exact key fs.toList ls (by simpa using hl) (fun i f x h1 h2 => hs i f x (by simpa using h1) h2)
  · cases hu
theorem ShT.sliceN {P : Program} {B n : Nat} {t e : TypeId} {l : List Cell} (h : ShT P B (n + 1) t l) (hu : P.underlying t = some (.slice e)) : ∃ rows, l = [.imm rows] ∧ rows.length ≤ B ∧ ∀ row ∈ rows, ShT P B n e row := by
  simpa only [ShT, hu] using h
theorem rows_nd : ∀ {rows : List (List Cell)}, (∀ row ∈ rows, ∃ x, row = ndRow x) → ∃ L : List Nd, rows = ndRows L
  | [], _ => ⟨[], rfl⟩
  | row :: rows, h => by
    obtain ⟨x, hx⟩ := h row List.mem_cons_self
    obtain ⟨L, hL⟩ := rows_nd fun r hr => h r (List.mem_cons_of_mem _ hr)
    exact ⟨x :: L, by rw [hx, hL]; rfl⟩
set_option maxRecDepth 100000 in
theorem nd_row {B : Nat} : ∀ (n : Nat) {row : List Cell}, ShT Tryz.prog B n 82 row → ∃ x, row = ndRow x
  | 0, _, h => h.elim
  | 1, _, h => by
    obtain ⟨x0, r0, e0, h0, _⟩ := h.fieldsN st82
    exact h0.elim
  | n + 2, row, h => by
    obtain ⟨x0, r0, e0, h0, x1, r1, e1, h1, x2, r2, e2, h2, x3, r3, e3, h3, x4, r4, e4, h4, x5, r5, e5, h5, hz⟩ := h.fieldsN st82
    obtain ⟨a, rfl, _⟩ := h0.int ut3
    obtain ⟨b, rfl, _⟩ := h1.int ut3
    obtain ⟨rows, rfl, _, hr⟩ := h2.sliceN ut31
    obtain ⟨L, rfl⟩ := rows_nd fun row hrow => nd_row n (hr row hrow)
    obtain ⟨m, y0, s0, f0, k0, y1, s1, f1, k1, hy⟩ := h3.fields st80
    obtain ⟨c, rfl, _⟩ := k0.int ut3
    obtain ⟨d, rfl, _⟩ := k1.int ut78
    obtain ⟨e, rfl, _⟩ := h4.int ut3
    obtain ⟨f, rfl, _⟩ := h5.int ut3
    subst hz; subst hy
    exact ⟨.mk a b L c d e f, by rw [e0, e1, e2, e3, e4, e5, f0, f1]; rfl⟩
theorem nds_cells {B n : Nat} {l : List Cell} (h : ShT Tryz.prog B n 31 l) : ∃ L : List Nd, l = [.imm (ndRows L)] := by
  obtain ⟨m, rows, rfl, _, hr⟩ := h.slice ut31
  obtain ⟨L, rfl⟩ := rows_nd fun row hrow => nd_row m (hr row hrow)
  exact ⟨L, rfl⟩
theorem br_row {B n : Nat} {row : List Cell} (h : ShT Tryz.prog B n 77 row) : ∃ x, row = brR x := by
  obtain ⟨m, x0, r0, e0, h0, x1, r1, e1, h1, hz⟩ := h.fields st77
  obtain ⟨a, rfl, _⟩ := h0.int ut3
  obtain ⟨L, rfl⟩ := nds_cells h1
  subst hz
  exact ⟨⟨a, L⟩, by rw [e0, e1]; rfl⟩
theorem brs_cells {B n : Nat} {l : List Cell} (h : ShT Tryz.prog B n 30 l) : ∃ L : List Br, l = [.imm (L.map brR)] := by
  obtain ⟨m, rows, rfl, _, hr⟩ := h.slice ut30
  obtain ⟨L, rfl⟩ := rows_map fun row hrow => br_row (hr row hrow)
  exact ⟨L, rfl⟩
theorem en_row {B n : Nat} {row : List Cell} (h : ShT Tryz.prog B n 36 row) : ∃ x, row = enR x := by
  obtain ⟨m, x0, r0, e0, h0, x1, r1, e1, h1, x2, r2, e2, h2, hz⟩ := h.fields st36
  obtain ⟨a, rfl, _⟩ := h0.int ut3
  obtain ⟨C, rfl⟩ := nds_cells h1
  obtain ⟨R, rfl⟩ := brs_cells h2
  subst hz
  exact ⟨⟨a, C, R⟩, by rw [e0, e1, e2]; rfl⟩
theorem ens_cells {B n : Nat} {l : List Cell} (h : ShT Tryz.prog B n 32 l) : ∃ L : List En, l = [.imm (L.map enR)] := by
  obtain ⟨m, rows, rfl, _, hr⟩ := h.slice ut32
  obtain ⟨L, rfl⟩ := rows_map fun row hrow => en_row (hr row hrow)
  exact ⟨L, rfl⟩
theorem sa_row {B n : Nat} {row : List Cell} (h : ShT Tryz.prog B n 34 row) : ∃ x, row = saR x := by
  obtain ⟨m, x0, r0, e0, h0, x1, r1, e1, h1, x2, r2, e2, h2, x3, r3, e3, h3, x4, r4, e4, h4, x5, r5, e5, h5, x6, r6, e6, h6, x7, r7, e7, h7, hz⟩ := h.fields st34
  obtain ⟨p, rfl, _⟩ := h0.int ut3
  obtain ⟨t, rfl, _⟩ := h1.int ut3
  obtain ⟨b, rfl⟩ := h2.bool ut4
  obtain ⟨w, rfl, _⟩ := h3.int ut2
  obtain ⟨R, rfl⟩ := brs_cells h4
  obtain ⟨L, rfl⟩ := nds_cells h5
  obtain ⟨G, rfl⟩ := nds_cells h6
  obtain ⟨E, rfl⟩ := ens_cells h7
  subst hz
  exact ⟨⟨p, t, b, w, R, L, G, E⟩, by rw [e0, e1, e2, e3, e4, e5, e6, e7]; rfl⟩
theorem int_row {B n : Nat} {row : List Cell} (h : ShT Tryz.prog B n 3 row) : ∃ x, row = intR x := by
  obtain ⟨x, rfl, _⟩ := h.int ut3
  exact ⟨x, rfl⟩
theorem auto_cells {B n : Nat} {l : List Cell} (h : ShT Tryz.prog B n 25 l) : ∃ (a : Int) (K : List Int) (L : List Sa), l = [ic a, .imm (K.map intR), .imm (L.map saR)] ∧ K.length ≤ B := by
  obtain ⟨m, x0, r0, e0, h0, x1, r1, e1, h1, x2, r2, e2, h2, hz⟩ := h.fields st25
  obtain ⟨a, rfl, _⟩ := h0.int ut3
  obtain ⟨m1, rows, rfl, hk, hr⟩ := h1.slice ut22
  obtain ⟨K, rfl⟩ := rows_map fun row hrow => int_row (hr row hrow)
  obtain ⟨m2, rows2, rfl, _, hr2⟩ := h2.slice ut23
  obtain ⟨L, rfl⟩ := rows_map fun row hrow => sa_row (hr2 row hrow)
  subst hz
  exact ⟨a, K, L, by rw [e0, e1, e2]; rfl, by simpa using hk⟩

theorem makes_ev (ls : List (List Cell)) (h : ShAll Tryz.prog 1048576 Tryz.f3.params.toList ls) (hw : wtRs ls ≤ 1048576) : Ev Tryz.prog noHand 3 (argAVs Tryz.prog Tryz.f3.params.toList ls) [] (.ret (.c (bc true))) [] := by
  have hp : Tryz.f3.params.toList = [25] := by kernel_rfl
  rw [hp] at h ⊢
  match ls, h with
  | [l], ⟨⟨n, hl⟩, _⟩ =>
    obtain ⟨a, K, L, rfl, hk⟩ := auto_cells hl
    simp only [wtRs, wtL, wtC, ic] at hw
    have ht := tot_wt L
    obtain ⟨N, hN⟩ := g3_true a K L (by omega) (okSas_wt (by omega)) (by omega)
    have := ev3 (hN N (Nat.le_refl _))
    have e : argAVs Tryz.prog [25] [[ic a, .imm (K.map intR), .imm (L.map saR)]] = [.ag [ic a, .imm (K.map intR), .imm (L.map saR)]] := by kernel_rfl
    rw [e]
    exact this

set_option maxRecDepth 100000 in
theorem makes_lifted (os : Os) (started : os.Started) (H : Type) (enc : TypeId × Value → H) (F : Stop.Interp) :
    ReturnsInHanded {} Tryz.checked os 3 .any ((Rows.OpenSpec.upto Rows.mergeMakesSpec).pre6 enc Tryz.prog Tryz.f3 Rows.mergeMakesUptoRow.domain false) (((Rows.OpenSpec.upto Rows.mergeMakesSpec).at F).post enc Tryz.prog Tryz.f3 false true false false) := by
  refine returnsInHanded_of_cond (C := Tryz.checked) (s := Rows.OpenSpec.upto Rows.mergeMakesSpec) (k := Rows.uptoSmall) rfl own started (by kernel_rfl) Tryz.func3
    (OpenSpec.witness (enc := enc) (C := Tryz.checked) (s := Rows.OpenSpec.upto Rows.mergeMakesSpec) (k := Rows.uptoSmall) rfl false ⟨#[], #[.agg #[.int .i64 0, .slice none 0 0, .slice none 0 0]], []⟩ 8 (by kernel_rfl) (by kernel_rfl) (by kernel_rfl)
      (x := ([.agg [.lit (.int .i64 0), .nil, .nil]], [], [])) (by kernel_rfl) rfl (by kernel_rfl)) ?_
  intro W base args ds gs before hval hW _ hk _
  have hb : Rows.uptoBulkAll (ds ++ gs) ≤ 1048576 := of_decide_eq_true hk
  exact law_post (hand := noHand) (T := plainTypes) (B := 1048576) (s := Rows.mergeMakesSpec) (by kernel_rfl) (by kernel_rfl) (by kernel_rfl) (by kernel_rfl) (by kernel_rfl) rfl
    (fun ds hd => by
      match ds, hd with
      | [d], _ => rfl
      | [], hd => cases hd
      | _ :: _ :: _, hd => simp at hd)
    ⟨4, by kernel_rfl, ut4⟩ hval hW hb (fun ls h1 h2 => makes_ev ls h1 h2)
end Ab

theorem mergeMakes_holds : Rows.MergeMakesUptoSaid :=
  OpenClaim.holds_of_cond 3 Tryz.f3 rfl rfl rfl rfl rfl rfl rfl ⟨rfl, rfl, rfl, rfl, rfl⟩ rfl rfl rfl rfl rfl (by kernel_rfl) Tryz.func3 (by kernel_rfl)
    (of_decide_eq_true (by kernel_rfl)) (by unfold Func.isWrapper; first | (rw [if_pos (by decide +kernel)]; kernel_rfl) | (rw [if_neg (by decide +kernel)]; exact ⟨rfl, rfl⟩))
    (fun os started H enc _ F => Ab.makes_lifted os started H enc F)
end Go.Proofs.YtgghingfdcmelaaGreat
