/-
  Whatever conditions and whatever code are handed in (of bulk at most 1048576), SsaNeeds returns true, and they read as they did: of what Make makes nothing is dropped; what was dropped once isn't dropped again, is plain, and isn't wider.
  Conditions: the row's own alone (the bound on the arguments' bulk).
-/
import Derived.Test.YtebmcaceklbopaaP4
set_option linter.unusedVariables false
set_option linter.unusedSimpArgs false
namespace Go.Proofs.Ytebmcaceklbopaa
namespace Ab
open Go.ChangeShapes Go.WideShapes Go.ChangeAt Go.RowKit

theorem g7_last {slots : Int} {ins : List In4} {cs : List Vl} {L : List Ins4} {rk : Nat} (hp : PlainP (rk : Int) slots ins.length cs.length L) (hk : rk < 1073741823) :
    Goes step7 (.h1 false (rk : Int) slots (ins.map inR) (cs.map vlR) (L.map insR)) true := by
  have hl : L.length = rk + 1 := by have := hp.2.2.1; omega
  obtain ⟨t, ht⟩ : ∃ t, L[rk]? = some t := ⟨_, List.getElem?_eq_getElem (by omega)⟩
  have ht52 : t.op = 52 := by
    obtain ⟨_, _, _, _, t', h1, h2⟩ := hp
    rw [Int.toNat_natCast, ht] at h1
    cases h1
    exact h2.1
  obtain ⟨N1, h1⟩ := drop_one hp hk ht
  obtain ⟨tg, fi⟩ := drop_tight hp ht
  have bd := dfold_bd (nd0 L rk) ins cs L rk
  have b1 := bd.I; have b2 := bd.C; have b3 := bd.O
  have hu : reads ⟨52, 0, (dfold (nd0 L rk) ins cs L rk).bec t.a, 0⟩ = (reads t).map (dfold (nd0 L rk) ins cs L rk).bec := by
    have e1 : reads t = [t.a] := by unfold reads; rw [if_pos (.inl ht52)]
    rw [e1]; rfl
  have hw := width_drop hp ht fi hu tg.plain
  have ed : dend (dfold (nd0 L rk) ins cs L rk) t = (((dfold (nd0 L rk) ins cs L rk).O.length : Int), 0, (dfold (nd0 L rk) ins cs L rk).I.map inR, (dfold (nd0 L rk) ins cs L rk).C.map vlR, ((dfold (nd0 L rk) ins cs L rk).O ++ [(⟨52, 0, (dfold (nd0 L rk) ins cs L rk).bec t.a, 0⟩ : Ins4)]).map insR) := rfl
  rw [ed] at h1
  generalize dfold (nd0 L rk) ins cs L rk = s at *
  generalize (⟨52, 0, s.bec t.a, 0⟩ : Ins4) = u at *
  obtain ⟨N2, h2⟩ := g15_plain (regs := (s.O.length : Int)) (slots := 0) (ins := s.I.map inR) (cs := s.C.map vlR) (L := s.O ++ [u]) (b := true) ⟨by omega, by omega⟩ (by simp; omega) ⟨fun _ => by simpa using tg.plain, fun _ => rfl⟩
  obtain ⟨N3, h3⟩ := drop_same tg (by omega)
  obtain ⟨N4, h4⟩ := g13_same (a := (s.O.length : Int)) (b := 0) s.I s.C (s.O ++ [u]) (by omega) (by omega) (by simp; omega)
  obtain ⟨N5, h5⟩ := g17_width (regs := (s.O.length : Int)) (slots := 0) (ins := s.I.map inR) (cs := s.C.map vlR) (L := s.O ++ [u]) (rk := s.O.length) rfl (by simpa using tg.plain) (by simp; omega) (by omega)
  obtain ⟨N6, h6⟩ := g17_width (regs := (rk : Int)) (slots := slots) (ins := ins.map inR) (cs := cs.map vlR) (L := L) (rk := rk) rfl (by simpa using hp) (by omega) (by omega)
  refine Goes.fin ⟨N1 + N2 + N3 + N4 + N5 + N6, fun k hk' rec => ?_⟩
  show t7_h1 k rec _ _ _ _ _ _ = _
  unfold t7_h1
  have q1 : g20 k (rk : Int) slots (ins.map inR) (cs.map vlR) (L.map insR) = _ := h1 k (by omega)
  have q2 : g15 k (s.O.length : Int) 0 (s.I.map inR) (s.C.map vlR) ((s.O ++ [u]).map insR) = _ := h2 k (by omega)
  have q3 : g20 k (s.O.length : Int) 0 (s.I.map inR) (s.C.map vlR) ((s.O ++ [u]).map insR) = _ := h3 k (by omega)
  have q4 : g13 k _ _ _ _ _ _ _ _ _ _ = _ := h4 k (by omega)
  have q5 : g17 k (s.O.length : Int) 0 (s.I.map inR) (s.C.map vlR) ((s.O ++ [u]).map insR) = _ := h5 k (by omega)
  have q6 : g17 k (rk : Int) slots (ins.map inR) (cs.map vlR) (L.map insR) = _ := h6 k (by omega)
  rw [cond_false, q1]
  simp only [Option.bind_some, tup5]
  rw [q2]
  simp only [Option.bind_some, cond_true]
  rw [q3]
  simp only [Option.bind_some, tup5]
  rw [q4]
  simp only [Option.bind_some, cond_true]
  rw [q5, q6]
  simp only [Option.bind_some]
  rw [decide_eq_true hw, cond_true, decide_eq_true (show (s.O.length : Int) ≤ (rk : Int) by omega)]

theorem g7_true (l : List Nd) (sh : Bool) (hb : cnts l < 1048577) {regs slots : Int} {ins : List In4} {cs : List Vl} {L : List Ins4} (hr : -9223372036854775808 ≤ regs ∧ regs ≤ 9223372036854775807) (hl : L.length < 1073741823) :
    Tot (fun k => g7 k (ndRows l) sh regs slots (ins.map inR) (cs.map vlR) (L.map insR)) true := by
  have g0 : Goes step7 (.h0 false regs slots (ins.map inR) (cs.map vlR) (L.map insR)) true := by
    open Classical in
    by_cases hp : PlainP regs slots ins.length cs.length L
    · obtain ⟨rk, rfl⟩ : ∃ rk : Nat, regs = (rk : Int) := ⟨regs.toNat, by have := hp.2.1; omega⟩
      have hlen := hp.2.2.1
      obtain ⟨N1, h1⟩ := g15_plain (regs := (rk : Int)) (slots := slots) (ins := ins.map inR) (cs := cs.map vlR) (L := L) (b := true) hr (by omega) ⟨fun _ => by simpa using hp, fun _ => rfl⟩
      have last : ∀ b : Bool, Goes step7 (.h1 b (rk : Int) slots (ins.map inR) (cs.map vlR) (L.map insR)) true := by
        intro b
        cases b with
        | true => exact Goes.fin0 fun k rec => rfl
        | false => exact g7_last hp (by omega)
      refine (last (decide (((L.map insR).length : Int) > 200))).rec ⟨N1, fun k hk rec => ?_⟩
      show t7_h0 k rec _ _ _ _ _ _ = _
      unfold t7_h0
      rw [show g15 k (rk : Int) slots (ins.map inR) (cs.map vlR) (L.map insR) = _ from h1 k hk]
      rfl
    · obtain ⟨N1, h1⟩ := g15_plain (regs := regs) (slots := slots) (ins := ins.map inR) (cs := cs.map vlR) (L := L) (b := false) hr (by omega) ⟨fun h => (by cases h), fun h => absurd (by simpa using h) hp⟩
      have last : Goes step7 (.h1 true regs slots (ins.map inR) (cs.map vlR) (L.map insR)) true := Goes.fin0 fun k rec => rfl
      refine last.rec ⟨N1, fun k hk rec => ?_⟩
      show t7_h0 k rec _ _ _ _ _ _ = _
      unfold t7_h0
      rw [show g15 k regs slots (ins.map inR) (cs.map vlR) (L.map insR) = _ from h1 k hk]
      rfl
  obtain ⟨N1, hN1⟩ := g11_make sh l hb
  by_cases ho : okL l = true ∧ ¬ 1024 < (goR sh l 0 0 t0).2.L.length + 1
  · obtain ⟨ho, hlen⟩ := ho
    have e : makeB sh l = (((goR sh l 0 0 t0).2.L.length : Int), 0, (goR sh l 0 0 t0).2.I.map inR, (goR sh l 0 0 t0).2.C.map vlR, ((goR sh l 0 0 t0).2.L ++ [(⟨52, 0, (goR sh l 0 0 t0).1, 0⟩ : Ins4)]).map insR, 0) := by
      unfold makeB endR; rw [if_pos ho, if_neg hlen]
    rw [e] at hN1
    have tg := made_tight (sh := sh) ho
    have bd := goR_bd sh l 0 0 t0
    have b1 := bd.I; have b2 := bd.C
    simp only [t0, List.length_nil] at b1 b2
    simp only [t0] at tg hlen hN1
    generalize goR sh l 0 0 ⟨[], [], []⟩ = x at *
    generalize (⟨52, 0, x.1, 0⟩ : Ins4) = u at *
    obtain ⟨N2, hN2⟩ := drop_same tg (by omega)
    obtain ⟨N3, hN3⟩ := g13_same (a := (x.2.L.length : Int)) (b := 0) x.2.I x.2.C (x.2.L ++ [u]) (by omega) (by omega) (by simp; omega)
    refine Tot.of_goes (s := S7.e _ _ _ _ _ _ _) (g0.rec ⟨N1 + N2 + N3, fun k hk rec => ?_⟩)
    show t7_e k rec _ _ _ _ _ _ _ = _
    unfold t7_e
    have q1 : g11 k (ndRows l) sh = _ := hN1 k (by omega)
    have q2 : g20 k (x.2.L.length : Int) 0 (x.2.I.map inR) (x.2.C.map vlR) ((x.2.L ++ [u]).map insR) = _ := hN2 k (by omega)
    have q3 : g13 k _ _ _ _ _ _ _ _ _ _ = _ := hN3 k (by omega)
    rw [q1]
    simp only [Option.bind_some, tup6, beq_self_eq_true, cond_true]
    rw [q2]
    simp only [Option.bind_some, tup5]
    rw [q3]
    rfl
  · obtain ⟨r0, r1, r2, r3, r4, r5, e, h5⟩ : ∃ r0 r1 r2 r3 r4 r5, makeB sh l = (r0, r1, r2, r3, r4, r5) ∧ (r5 == 0) = false := by
      unfold makeB endR
      by_cases h1 : okL l = true
      · have h2 : 1024 < (goR sh l 0 0 t0).2.L.length + 1 := by
          apply Classical.byContradiction
          intro h
          exact ho ⟨h1, h⟩
        exact ⟨_, _, _, _, _, _, by rw [if_pos h1, if_pos h2], rfl⟩
      · exact ⟨_, _, _, _, _, _, by rw [if_neg h1], rfl⟩
    rw [e] at hN1
    refine Tot.of_goes (s := S7.e _ _ _ _ _ _ _) (g0.rec ⟨N1, fun k hk rec => ?_⟩)
    show t7_e k rec _ _ _ _ _ _ _ = _
    unfold t7_e
    have q1 : g11 k (ndRows l) sh = _ := hN1 k hk
    rw [q1]
    simp only [Option.bind_some, tup6, h5, cond_false]

theorem own : ownKnob Try.prog.godebug = none := by kernel_rfl
def plainTypes : List TypeId := [22, 28, 35, 3, 31, 32, 33, 63, 26, 48, 24, 4]

theorem st35 : structTs Try.prog 35 = some [3, 3, 31, 32, 33] := by kernel_rfl
theorem st48 : structTs Try.prog 48 = some [3, 3, 3, 3] := by kernel_rfl
theorem st63 : structTs Try.prog 63 = some [3, 3, 3, 3] := by kernel_rfl
theorem st26 : structTs Try.prog 26 = some [3, 24] := by kernel_rfl
theorem ut3 : Try.prog.underlying 3 = some (.int .i64) := by kernel_rfl
theorem ut24 : Try.prog.underlying 24 = some (.int .u64) := by kernel_rfl
theorem ut31 : Try.prog.underlying 31 = some (.slice 63) := by kernel_rfl
theorem ut32 : Try.prog.underlying 32 = some (.slice 26) := by kernel_rfl
theorem ut33 : Try.prog.underlying 33 = some (.slice 48) := by kernel_rfl
theorem ut4 : Try.prog.underlying 4 = some .bool := by kernel_rfl

theorem ins_row {B n : Nat} {row : List Cell} (h : ShT Try.prog B n 48 row) : ∃ x, row = insR x := by
  obtain ⟨m, x0, r0, e0, h0, x1, r1, e1, h1, x2, r2, e2, h2, x3, r3, e3, h3, hz⟩ := h.fields st48
  obtain ⟨a, rfl, _⟩ := h0.int ut3
  obtain ⟨b, rfl, _⟩ := h1.int ut3
  obtain ⟨c, rfl, _⟩ := h2.int ut3
  obtain ⟨d, rfl, _⟩ := h3.int ut3
  subst hz
  exact ⟨⟨a, b, c, d⟩, by rw [e0, e1, e2, e3]; rfl⟩
theorem in_row {B n : Nat} {row : List Cell} (h : ShT Try.prog B n 63 row) : ∃ x, row = inR x := by
  obtain ⟨m, x0, r0, e0, h0, x1, r1, e1, h1, x2, r2, e2, h2, x3, r3, e3, h3, hz⟩ := h.fields st63
  obtain ⟨a, rfl, _⟩ := h0.int ut3
  obtain ⟨b, rfl, _⟩ := h1.int ut3
  obtain ⟨c, rfl, _⟩ := h2.int ut3
  obtain ⟨d, rfl, _⟩ := h3.int ut3
  subst hz
  exact ⟨⟨a, b, c, d⟩, by rw [e0, e1, e2, e3]; rfl⟩
theorem vl_row {B n : Nat} {row : List Cell} (h : ShT Try.prog B n 26 row) : ∃ x, row = vlR x := by
  obtain ⟨m, x0, r0, e0, h0, x1, r1, e1, h1, hz⟩ := h.fields st26
  obtain ⟨a, rfl, _⟩ := h0.int ut3
  obtain ⟨b, rfl, _⟩ := h1.int ut24
  subst hz
  exact ⟨⟨a, b⟩, by rw [e0, e1]; rfl⟩

theorem code_cells {B n : Nat} {l : List Cell} (h : ShT Try.prog B n 35 l) : ∃ regs slots, ∃ I : List In4, ∃ C : List Vl, ∃ L : List Ins4, l = [ic regs, ic slots, .imm (I.map inR), .imm (C.map vlR), .imm (L.map insR)] ∧ (-9223372036854775808 ≤ regs ∧ regs ≤ 9223372036854775807) ∧ I.length ≤ B ∧ C.length ≤ B ∧ L.length ≤ B := by
  obtain ⟨m, x0, r0, e0, h0, x1, r1, e1, h1, x2, r2, e2, h2, x3, r3, e3, h3, x4, r4, e4, h4, hz⟩ := h.fields st35
  obtain ⟨regs, rfl, hr⟩ := h0.int ut3
  obtain ⟨slots, rfl, _⟩ := h1.int ut3
  obtain ⟨_, li, rfl, hbi, hri⟩ := h2.slice ut31
  obtain ⟨_, lc, rfl, hbc, hrc⟩ := h3.slice ut32
  obtain ⟨_, lr, rfl, hb, hrows⟩ := h4.slice ut33
  obtain ⟨I, rfl⟩ := rows_map fun row hrow => in_row (hri row hrow)
  obtain ⟨C, rfl⟩ := rows_map fun row hrow => vl_row (hrc row hrow)
  obtain ⟨L, rfl⟩ := rows_map fun row hrow => ins_row (hrows row hrow)
  subst hz
  rw [List.length_map] at hb hbi hbc
  exact ⟨regs, slots, I, C, L, by rw [e0, e1, e2, e3, e4]; rfl, hr, hbi, hbc, hb⟩

theorem st28 : structTs Try.prog 28 = some [3, 3, 22, 26, 3, 3] := by kernel_rfl
theorem ut22 : Try.prog.underlying 22 = some (.slice 28) := by kernel_rfl
mutual
theorem wt_ndRow : ∀ n : Nd, cnt n ≤ wtL (ndRow n)
  | .mk op kind args vk vb pos attr => by
    have := wt_ndRows args
    simp only [cnt, ndRow, wtL, wtC, ic]
    omega
theorem wt_ndRows : ∀ l : List Nd, cnts l ≤ wtRs (ndRows l)
  | [] => by simp [cnts]
  | n :: l => by
    have h1 := wt_ndRow n
    have h2 := wt_ndRows l
    simp only [cnts, ndRows, wtRs]
    omega
end

/-- a struct's cells, of one depth less. -/
theorem ShT.fieldsN {P : Program} {B n : Nat} {t : TypeId} {l : List Cell} {ts : List TypeId} (h : ShT P B (n + 1) t l) (hu : structTs P t = some ts) : ShFs P B n ts l := by
  unfold structTs at hu
  simp only [ShT] at h
  split at hu
  · rename_i fs he
    rw [he] at h
    simp only [Option.some.injEq] at hu
    subst hu
    obtain ⟨ls, rfl, hl, hs⟩ := h
    have key : ∀ (fl : List Field) (ls : List (List Cell)), ls.length = fl.length → (∀ (i : Nat) f x, fl[i]? = some f → ls[i]? = some x → ShT P B n f.type x) → ShFs P B n (fl.map (·.type)) ls.flatten := by
      intro fl
      induction fl with
      | nil =>
        intro ls hl _
        have : ls = [] := List.length_eq_zero_iff.1 hl
        rw [this]; rfl
      | cons f fl ih =>
        intro ls hl hs
        cases ls with
        | nil => simp at hl
        | cons x ls => exact ⟨x, ls.flatten, by simp, hs 0 f x rfl rfl, ih ls (by simpa using hl) (fun i f' x' h1 h2 => hs (i + 1) f' x' (by simpa using h1) (by simpa using h2))⟩
    exact key fs.toList ls (by simpa using hl) (fun i f x h1 h2 => hs i f x (by simpa using h1) h2)
  · cases hu
theorem ShT.sliceN {P : Program} {B n : Nat} {t e : TypeId} {l : List Cell} (h : ShT P B (n + 1) t l) (hu : P.underlying t = some (.slice e)) : ∃ rows, l = [.imm rows] ∧ rows.length ≤ B ∧ ∀ row ∈ rows, ShT P B n e row := by
  simpa only [ShT, hu] using h

theorem rows_nd : ∀ {rows : List (List Cell)}, (∀ row ∈ rows, ∃ x, row = ndRow x) → ∃ L : List Nd, rows = ndRows L
  | [], _ => ⟨[], rfl⟩
  | row :: rows, h => by
    obtain ⟨x, hx⟩ := h row List.mem_cons_self
    obtain ⟨L, hL⟩ := rows_nd fun r hr => h r (List.mem_cons_of_mem _ hr)
    exact ⟨x :: L, by rw [hx, hL]; rfl⟩

theorem nd_row {B : Nat} : ∀ (n : Nat) {row : List Cell}, ShT Try.prog B n 28 row → ∃ x, row = ndRow x
  | 0, _, h => h.elim
  | 1, _, h => by
    obtain ⟨x0, r0, e0, h0, _⟩ := h.fieldsN st28
    exact h0.elim
  | n + 2, row, h => by
    obtain ⟨x0, r0, e0, h0, x1, r1, e1, h1, x2, r2, e2, h2, x3, r3, e3, h3, x4, r4, e4, h4, x5, r5, e5, h5, hz⟩ := h.fieldsN st28
    obtain ⟨a, rfl, _⟩ := h0.int ut3
    obtain ⟨b, rfl, _⟩ := h1.int ut3
    obtain ⟨rows, rfl, _, hr⟩ := h2.sliceN ut22
    obtain ⟨L, rfl⟩ := rows_nd fun row hrow => nd_row n (hr row hrow)
    obtain ⟨m, y0, s0, f0, k0, y1, s1, f1, k1, hy⟩ := h3.fields st26
    obtain ⟨c, rfl, _⟩ := k0.int ut3
    obtain ⟨d, rfl, _⟩ := k1.int ut24
    obtain ⟨e, rfl, _⟩ := h4.int ut3
    obtain ⟨f, rfl, _⟩ := h5.int ut3
    subst hz; subst hy
    exact ⟨.mk a b L c d e f, by rw [e0, e1, e2, e3, e4, e5, f0, f1]; rfl⟩
theorem nds_cells {B n : Nat} {l : List Cell} (h : ShT Try.prog B n 22 l) : ∃ L : List Nd, l = [.imm (ndRows L)] := by
  obtain ⟨m, rows, rfl, _, hr⟩ := h.slice ut22
  obtain ⟨L, rfl⟩ := rows_nd fun row hrow => nd_row m (hr row hrow)
  exact ⟨L, rfl⟩

theorem needs_ev (ls : List (List Cell)) (h : ShAll Try.prog 1048576 Try.f7.params.toList ls) (hw : wtRs ls ≤ 1048576) : Ev Try.prog noHand 7 (argAVs Try.prog Try.f7.params.toList ls) [] (.ret (.c (bc true))) [] := by
  have hp : Try.f7.params.toList = [22, 4, 35] := by kernel_rfl
  rw [hp] at h ⊢
  match ls, h with
  | [l, s, c], ⟨⟨n, hl⟩, ⟨m, hs⟩, ⟨o, hc⟩, _⟩ =>
    obtain ⟨L, rfl⟩ := nds_cells hl
    obtain ⟨sh, rfl⟩ := hs.bool ut4
    obtain ⟨regs, slots, I, C, O, rfl, hr, h1, h2, h3⟩ := code_cells hc
    have hcn : cnts L < 1048577 := by
      have := wt_ndRows L
      simp only [wtRs, wtL, wtC] at hw
      omega
    obtain ⟨N, hN⟩ := g7_true L sh hcn (slots := slots) (ins := I) (cs := C) (L := O) hr (by omega)
    have := ev7 (hN N (Nat.le_refl _))
    have e : argAVs Try.prog [22, 4, 35] [[.imm (ndRows L)], [bc sh], [ic regs, ic slots, .imm (I.map inR), .imm (C.map vlR), .imm (O.map insR)]] = [.c (.imm (ndRows L)), .c (bc sh), .ag [ic regs, ic slots, .imm (I.map inR), .imm (C.map vlR), .imm (O.map insR)]] := by kernel_rfl
    rw [e]
    exact this

set_option maxRecDepth 100000 in
theorem needs_lifted (os : Os) (started : os.Started) (H : Type) (enc : TypeId × Value → H) (F : Stop.Interp) :
    ReturnsInHanded {} Try.checked os 7 .any ((Rows.OpenSpec.upto Rows.ssaNeedsSpec).pre6 enc Try.prog Try.f7 Rows.ssaNeedsUptoRow.domain false) (((Rows.OpenSpec.upto Rows.ssaNeedsSpec).at F).post enc Try.prog Try.f7 false true false false) := by
  refine returnsInHanded_of_cond (C := Try.checked) (s := Rows.OpenSpec.upto Rows.ssaNeedsSpec) (k := Rows.uptoSmall) rfl own started (by kernel_rfl) Try.func7
    (OpenSpec.witness (enc := enc) (C := Try.checked) (s := Rows.OpenSpec.upto Rows.ssaNeedsSpec) (k := Rows.uptoSmall) rfl false ⟨#[], #[.slice none 0 0, .bool false, .agg #[.int .i64 0, .int .i64 0, .slice none 0 0, .slice none 0 0, .slice none 0 0]], []⟩ 8 (by kernel_rfl) (by kernel_rfl) (by kernel_rfl)
      (x := ([.nil, .lit (.bool false), .agg [.lit (.int .i64 0), .lit (.int .i64 0), .nil, .nil, .nil]], [], [])) (by kernel_rfl) rfl (by kernel_rfl)) ?_
  intro W base args ds gs before hval hW _ hk _
  have hb : Rows.uptoBulkAll (ds ++ gs) ≤ 1048576 := of_decide_eq_true hk
  exact law_post (hand := noHand) (T := plainTypes) (B := 1048576) (s := Rows.ssaNeedsSpec) (by kernel_rfl) (by kernel_rfl) (by kernel_rfl) (by kernel_rfl) (by kernel_rfl) rfl
    (fun ds hd => by
      match ds, hd with
      | [d, e, f], _ => rfl
      | [], hd => cases hd
      | [_], hd => cases hd
      | [_, _], hd => cases hd
      | _ :: _ :: _ :: _ :: _, hd => simp at hd)
    ⟨4, by kernel_rfl, ut4⟩ hval hW hb (fun ls h1 h2 => needs_ev ls h1 h2)
end Ab

theorem ssaNeeds_holds : Rows.SsaNeedsUptoSaid :=
  OpenClaim.holds_of_cond 7 Try.f7 rfl rfl rfl rfl rfl rfl rfl ⟨rfl, rfl, rfl, rfl, rfl⟩ rfl rfl rfl rfl rfl (by kernel_rfl) Try.func7 (by kernel_rfl)
    (of_decide_eq_true (by kernel_rfl)) (by unfold Func.isWrapper; first | (rw [if_pos (by decide +kernel)]; kernel_rfl) | (rw [if_neg (by decide +kernel)]; exact ⟨rfl, rfl⟩))
    (fun os started H enc _ F => Ab.needs_lifted os started H enc F)
end Go.Proofs.Ytebmcaceklbopaa
