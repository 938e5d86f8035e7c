/-
  Whatever trees are handed in (of bulk at most 1048576), ExprTells returns true, and they read as they did: whether two trees are the same, and how many nodes one has, the program's and the document's alike; a tree is its twin.
  Conditions: the row's own alone (the bound on the arguments' bulk; the variables that the card ties to the program's text).
-/
import Derived.Test.YtfekohpjaafnhaaDoorEx2q
import Derived.Test.YtfekohpjaafnhaaDoorCdq
import Derived.SevenTiedAt
set_option linter.unusedVariables false
set_option linter.unusedSimpArgs false
set_option linter.unusedSectionVars false
namespace Go.Proofs.YtfekohpjaafnhaaDoor
namespace Ab
open Go.ChangeShapes Go.WideShapes Go.ChangeAt Go.RowKit
theorem st24 : structTs Tryd.prog 24 = some [3, 22, 2, 3, 9, 9, 3] := by kernel_rfl
theorem ut2 : Tryd.prog.underlying 2 = some (.int .i64) := by kernel_rfl
theorem ut3 : Tryd.prog.underlying 3 = some (.int .i64) := by kernel_rfl
theorem ut4 : Tryd.prog.underlying 4 = some .bool := by kernel_rfl
theorem ut9 : Tryd.prog.underlying 9 = some .string := by kernel_rfl
theorem ut22 : Tryd.prog.underlying 22 = some (.slice 24) := by kernel_rfl
mutual
theorem wt_exRow : ∀ n : Ex, cnt n ≤ wtL (exRow n)
  | .mk op args n scale name attr pos => by
    have := wt_exRows args
    simp only [cnt, exRow, wtL, wtC, ic, sc]
    omega
theorem wt_exRows : ∀ l : List Ex, cnts l ≤ wtRs (exRows l)
  | [] => by simp [cnts]
  | n :: l => by
    have h1 := wt_exRow n
    have h2 := wt_exRows l
    simp only [cnts, exRows, wtRs]
    omega
end
theorem ShT.fieldsN {P : Program} {B n : Nat} {t : TypeId} {l : List Cell} {ts : List TypeId} (h : ShT P B (n + 1) t l) (hu : structTs P t = some ts) : ShFs P B n ts l := by
  unfold structTs at hu
  simp only [ShT] at h
  split at hu
  · rename_i fs he
    rw [he] at h
    simp only [Option.some.injEq] at hu
    subst hu
    obtain ⟨ls, rfl, hl, hs⟩ := h
    have key : ∀ (fl : List Field) (ls : List (List Cell)), ls.length = fl.length → (∀ (i : Nat) f x, fl[i]? = some f → ls[i]? = some x → ShT P B n f.type x) → ShFs P B n (fl.map (·.type)) ls.flatten := by
      intro fl
      induction fl with
      | nil =>
        intro ls hl _
        have : ls = [] := List.length_eq_zero_iff.1 hl
        rw [this]; rfl
      | cons f fl ih =>
        intro ls hl hs
        cases ls with
        | nil => simp at hl
        | cons x ls => exact ⟨x, ls.flatten, by simp, hs 0 f x rfl rfl, ih ls (by simpa using hl) (fun i f' x' h1 h2 => hs (i + 1) f' x' (by simpa using h1) (by simpa using h2))⟩
    exact key fs.toList ls (by simpa using hl) (fun i f x h1 h2 => hs i f x (by simpa using h1) h2)
  · cases hu
theorem ShT.sliceN {P : Program} {B n : Nat} {t e : TypeId} {l : List Cell} (h : ShT P B (n + 1) t l) (hu : P.underlying t = some (.slice e)) : ∃ rows, l = [.imm rows] ∧ rows.length ≤ B ∧ ∀ row ∈ rows, ShT P B n e row := by
  simpa only [ShT, hu] using h
theorem rows_ex : ∀ {rows : List (List Cell)}, (∀ row ∈ rows, ∃ x, row = exRow x) → ∃ L : List Ex, rows = exRows L
  | [], _ => ⟨[], rfl⟩
  | row :: rows, h => by
    obtain ⟨x, hx⟩ := h row List.mem_cons_self
    obtain ⟨L, hL⟩ := rows_ex fun r hr => h r (List.mem_cons_of_mem _ hr)
    exact ⟨x :: L, by rw [hx, hL]; rfl⟩
section
variable [Laid3]
set_option maxRecDepth 100000 in
theorem ex_row {B : Nat} : ∀ (n : Nat) {row : List Cell}, ShT Tryd.prog B n 24 row → ∃ x, row = exRow x
  | 0, _, h => h.elim
  | 1, _, h => by
    obtain ⟨x0, r0, e0, h0, _⟩ := h.fieldsN st24
    exact h0.elim
  | n + 2, row, h => by
    obtain ⟨x0, r0, e0, h0, x1, r1, e1, h1, x2, r2, e2, h2, x3, r3, e3, h3, x4, r4, e4, h4, x5, r5, e5, h5, x6, r6, e6, h6, hz⟩ := h.fieldsN st24
    obtain ⟨a, rfl, _⟩ := h0.int ut3
    obtain ⟨rows, rfl, _, hr⟩ := h1.sliceN ut22
    obtain ⟨L, rfl⟩ := rows_ex fun row hrow => ex_row n (hr row hrow)
    obtain ⟨b, rfl, _⟩ := h2.int ut2
    obtain ⟨c, rfl, _⟩ := h3.int ut3
    obtain ⟨s, rfl, _⟩ := h4.string ut9
    obtain ⟨t, rfl, _⟩ := h5.string ut9
    obtain ⟨f, rfl, _⟩ := h6.int ut3
    subst hz
    exact ⟨.mk a L b c s t f, by rw [e0, e1, e2, e3, e4, e5, e6]; rfl⟩
theorem law_ev (ls : List (List Cell)) (h : ShAll Tryd.prog 1048576 Tryd.f3.params.toList ls) (hw : wtRs ls ≤ 1048576) : Ev Tryd.prog noHand 3 (argAVs Tryd.prog Tryd.f3.params.toList ls) [] (.ret (.c (bc true))) [] := by
  have hp : Tryd.f3.params.toList = [24, 24] := by kernel_rfl
  rw [hp] at h ⊢
  match ls, h with
  | [l, l2], ⟨⟨n, hl⟩, ⟨n2, hl2⟩, _⟩ =>
    obtain ⟨a, rfl⟩ := ex_row n hl
    obtain ⟨b, rfl⟩ := ex_row n2 hl2
    have ha := wt_exRow a
    simp only [wtRs] at hw
    obtain ⟨N, hN⟩ := tells_true a b (by omega)
    have := ev3 (hN N (Nat.le_refl _))
    have e : argAVs Tryd.prog [24, 24] [exRow a, exRow b] = [.ag [ic a.op, .imm (exRows a.args), ic a.n, ic a.scale, sc a.name, sc a.attr, ic a.pos], .ag [ic b.op, .imm (exRows b.args), ic b.n, ic b.scale, sc b.name, sc b.attr, ic b.pos]] := by
      rw [exRow_eq a, exRow_eq b]
      kernel_rfl
    rw [e]
    exact this
end
set_option maxRecDepth 100000 in
theorem law_lifted (os : Os) (started : os.Started) (H : Type) (enc : TypeId × Value → H) (F : Stop.Interp) :
    ReturnsInHanded {} Tryd.checked os 3 .any (Rows.exprTellsUptoRow.pre enc Tryd.prog Tryd.f3 (Rows.OpenSpec.upto Rows.exprTellsSpec)) (((Rows.OpenSpec.upto Rows.exprTellsSpec).at F).post enc Tryd.prog Tryd.f3 false true false false) := by
  refine returns_cond_laid (C := Tryd.checked) (s := Rows.OpenSpec.upto Rows.exprTellsSpec) (k := Rows.uptoSmall) (laid := laidL) rfl own started (by kernel_rfl) Tryd.func3
    (witness_cond_laid (enc := enc) (C := Tryd.checked) (s := Rows.OpenSpec.upto Rows.exprTellsSpec) (k := Rows.uptoSmall) rfl (World.doorLaid Tryd.prog 400 os) #[.agg #[.int .i64 0, .slice none 0 0, .int .i64 0, .int .i64 0, .string ⟨#[]⟩, .string ⟨#[]⟩, .int .i64 0], .agg #[.int .i64 0, .slice none 0 0, .int .i64 0, .int .i64 0, .string ⟨#[]⟩, .string ⟨#[]⟩, .int .i64 0]] 8 rfl (World.shaped_of_RefB (by kernel_rfl) (by kernel_rfl)) (by kernel_rfl)
      (x := ([.agg [.lit (.int .i64 0), .nil, .lit (.int .i64 0), .lit (.int .i64 0), .lit (.string []), .lit (.string []), .lit (.int .i64 0)], .agg [.lit (.int .i64 0), .nil, .lit (.int .i64 0), .lit (.int .i64 0), .lit (.string []), .lit (.string []), .lit (.int .i64 0)]], [], [])) (by kernel_rfl) rfl (by kernel_rfl) (by kernel_rfl) (door_met os _)) ?_
  intro W base args ds gs before hval hW hk hl
  have hb : Rows.uptoBulkAll (ds ++ gs) ≤ 1048576 := of_decide_eq_true hk
  letI := laidOf (laid_plain hl)
  exact law_post (hand := noHand) (T := [24, 22, 3, 2, 9, 4]) (B := 1048576) (s := Rows.exprTellsSpec) (by kernel_rfl) (by kernel_rfl) (by kernel_rfl) (by kernel_rfl) (by kernel_rfl) rfl
    (fun ds hd => by
      match ds, hd with
      | [d, d2], _ => rfl
      | [], hd => cases hd
      | [_], hd => simp at hd
      | _ :: _ :: _ :: _, hd => simp at hd)
    ⟨4, by kernel_rfl, ut4⟩ hval hW hb (laidOf_glob _) (fun ls h1 h2 => law_ev ls h1 h2)
theorem law_row : Rows.ExprTellsUptoSaid :=
  OpenClaim.holds_of_cond 3 Tryd.f3 rfl rfl rfl rfl rfl rfl rfl ⟨rfl, rfl, rfl, rfl, rfl⟩ rfl rfl rfl rfl rfl (by kernel_rfl) Tryd.func3 (by kernel_rfl)
    (of_decide_eq_true (by kernel_rfl)) (by unfold Func.isWrapper; first | (rw [if_pos (by decide +kernel)]; kernel_rfl) | (rw [if_neg (by decide +kernel)]; exact ⟨rfl, rfl⟩))
    (fun os started H enc _ F => law_lifted os started H enc F)
end Ab
theorem exprTells_holds : Rows.ExprTellsUptoCardSaid :=
  Claim7.holds_tied_plain_at .later [] [.data, .data, .data, .sentinel, .sentinel, .listed, .data] true (true, "f10f59190b95bca8cbcdf6c08c87619bb710f10d898c2f9c085b0434a8e81398") true
    Ab.law_row (fun _ h => by cases h) (by kernel_rfl) (fun _ h => by cases h) exprTellsUpto_row_tie rfl ⟨rfl, rfl⟩ (by kernel_rfl) rfl
    (fun f fn hf hfn => by
      obtain rfl : f = 3 := Option.some.inj ((show Tryd.prog.funcNamed "auspice/auspicelaw06.ExprTells" = some 3 by kernel_rfl).symm.trans hf) |>.symm
      obtain rfl : fn = Tryd.f3 := (Option.some.inj (Tryd.func3.symm.trans hfn)).symm
      exact ⟨by kernel_rfl, fun j t ht => by
        rw [Tryd.params3] at ht
        have hm : t ∈ [24, 24] := by simpa using Array.mem_of_getElem? ht
        have hall : ([24, 24].all fun u => !Tryd.prog.wantsStandIn u) = true := by kernel_rfl
        exact (show Tryd.prog.wantsStandIn t = false by simpa using List.all_eq_true.1 hall t hm)⟩)
    (by kernel_rfl)
end Go.Proofs.YtfekohpjaafnhaaDoor
