/-
  LexBack's law.
-/
import Derived.Test.YtniibdfnijeaeaaDoorK18q
set_option linter.unusedVariables false
set_option linter.unusedSimpArgs false
set_option linter.unusedSectionVars false
namespace Go.Proofs.YtniibdfnijeaeaaDoor
namespace Ab
theorem bAt_app (a b : ByteArray) (i : Nat) : bAt (a ++ b) i = if i < a.size then bAt a i else bAt b (i - a.size) := by
  unfold bAt
  rw [toList_append', List.getD_eq_getElem?_getD]
  split
  · rename_i h
    rw [List.getElem?_append_left (by rw [size_toList]; exact h), List.getD_eq_getElem?_getD]
  · rename_i h
    rw [List.getElem?_append_right (by rw [size_toList]; omega), size_toList, List.getD_eq_getElem?_getD]
/-- words with blanks between. -/
def joinW (B : ByteArray) : List ByteArray → ByteArray
  | [] => strB []
  | w :: ws => (w ++ B) ++ joinW B ws
/-- a row of blanks. -/
def Blk (B : ByteArray) : Prop := 1 ≤ B.size ∧ B.size ≤ 2 ∧ ∀ i, i < B.size → isBl (bAt B i) = true
theorem stop_blanks {u : ByteArray} {q e : Nat} (h1 : q ≤ e) (h2 : e ≤ u.size) (h3 : ∀ i, q ≤ i → i < e → isBl (bAt u i) = true) (h4 : e < u.size → isBl (bAt u e) = false) : stop isBl u q = e := stop_is h1 h2 h3 h4
/-- tokens stand in rows, their places aside. -/
def Alike (PL : List TW) (M : Rs) : Prop := M.length = PL.length ∧ ∀ (i : Nat) (x : TW), PL[i]? = some x → ∃ b, M[i]? = some (tkRow x.t b)
theorem alike_cons {x : TW} {PL : List TW} {b : Nat} {M : Rs} (h : Alike PL M) : Alike (x :: PL) (tkRow x.t b :: M) := by
  refine ⟨by simp [h.1], fun i y hy => ?_⟩
  cases i with
  | zero =>
    simp only [List.getElem?_cons_zero, Option.some.injEq] at hy
    subst hy
    exact ⟨b, rfl⟩
  | succ i =>
    rw [List.getElem?_cons_succ] at hy ⊢
    exact h.2 i y hy
section
variable [Laid2]
theorem scan_again {s B : ByteArray} (hs : s.size ≤ 4000) (hB : Blk B) : ∀ (n p : Nat) L, p ≤ s.size → scanF s n p = .inl L → ∃ PL : List TW, L = PL.map TW.row ∧ (∀ x ∈ PL, WOk x) ∧
      ∀ (pre : ByteArray) (q m : Nat), q ≤ pre.size → (∀ i, q ≤ i → i < pre.size → isBl (bAt pre i) = true) → (pre ++ joinW B (PL.map TW.w)).size - q < m → ∃ M, scanF (pre ++ joinW B (PL.map TW.w)) m q = .inl M ∧ Alike PL M
  | 0, p, L, _, h => by cases h
  | n + 1, p, L, h2, h => by
    have hq := ge_stop isBl s p
    have hq2 := le_stop (f := isBl) h2
    unfold scanF at h
    by_cases he : stop isBl s p = s.size
    · rw [if_pos he] at h
      cases h
      refine ⟨[⟨endT, s.size, strB []⟩], rfl, fun x hx => ?_, fun pre q m hqp hbl hm => ?_⟩
      · rw [List.mem_singleton.1 hx]; exact wok_end _
      · obtain ⟨m, rfl⟩ : ∃ j, m = j + 1 := ⟨m - 1, by omega⟩
        have hu : (joinW B (([⟨endT, s.size, strB []⟩] : List TW).map TW.w)) = B := by
          show (strB [] ++ B) ++ strB [] = B
          rw [app_nil]
          exact bytes_ext (by rw [toList_append']; rfl)
        rw [hu]
        have hsz : (pre ++ B).size = pre.size + B.size := ByteArray.size_append
        have hst : stop isBl (pre ++ B) q = (pre ++ B).size := by
          refine stop_blanks (by omega) (Nat.le_refl _) (fun i a b => ?_) (fun x => by omega)
          rw [bAt_app]
          split
          · exact hbl i a (by assumption)
          · exact hB.2.2 _ (by omega)
        unfold scanF
        rw [if_pos hst]
        exact ⟨_, rfl, alike_cons (x := ⟨endT, s.size, strB []⟩) (b := (pre ++ B).size) ⟨rfl, fun i x hx => by simp at hx⟩⟩
    · rw [if_neg he] at h
      cases ht : tok s (stop isBl s p) with
      | none => rw [ht] at h; cases h
      | some x =>
        obtain ⟨t, e⟩ := x
        rw [ht] at h
        have hend := tok_end (by omega) ht
        simp only at h
        cases hq0 : scanF s n e with
        | inr z => rw [hq0] at h; cases h
        | inl L0 =>
          rw [hq0] at h
          obtain ⟨PL, hL, hP, hM⟩ := scan_again hs hB n e L0 hend.2 hq0
          have hL1 : tkRow t (stop isBl s p) :: L0 = L := by injection h
          have hnb : isBl (bAt s (stop isBl s p)) = false := end_stop (by omega)
          generalize hgA : stop isBl s p = A at *
          refine ⟨⟨t, A, s.extract A e⟩ :: PL, by rw [← hL1, hL]; rfl, fun x hx => ?_, fun pre q m hqp hbl hm => ?_⟩
          · rcases List.mem_cons.1 hx with rfl | hx
            · exact wok_tok hs (by omega) ht
            · exact hP x hx
          · obtain ⟨m, rfl⟩ : ∃ j, m = j + 1 := ⟨m - 1, by omega⟩
            have hW : (s.extract A e).size = e - A := size_ext _ _ _ hend.2
            have hu : pre ++ joinW B ((⟨t, A, s.extract A e⟩ :: PL : List TW).map TW.w) = (pre ++ (s.extract A e ++ B)) ++ joinW B (PL.map TW.w) := by
              show pre ++ ((s.extract A e ++ B) ++ joinW B (PL.map TW.w)) = _
              rw [app_assoc pre]
            rw [hu] at hm ⊢
            obtain ⟨R, hR⟩ : ∃ R, R = joinW B (PL.map TW.w) := ⟨_, rfl⟩
            rw [← hR] at hm hM ⊢
            obtain ⟨u, hdu⟩ : ∃ u, u = (pre ++ (s.extract A e ++ B)) ++ R := ⟨_, rfl⟩
            rw [← hdu] at hm ⊢
            have hp1 : (pre ++ (s.extract A e ++ B)).size = pre.size + (e - A) + B.size := by rw [ByteArray.size_append, ByteArray.size_append, hW]; omega
            have hsz : u.size = pre.size + (e - A) + B.size + R.size := by rw [hdu, ByteArray.size_append, hp1]
            have b0 : ∀ i, i < pre.size → bAt u i = bAt pre i := fun i hi => by rw [hdu, bAt_app, if_pos (by omega), bAt_app, if_pos hi]
            have b1 : ∀ i, i < e - A → bAt u (pre.size + i) = bAt s (A + i) := fun i hi => by
              rw [hdu, bAt_app, if_pos (by omega), bAt_app, if_neg (by omega), bAt_app, if_pos (by omega), show pre.size + i - pre.size = i by omega, bAt_ext hend.2 hi]
            have b2 : ∀ i, i < B.size → bAt (pre ++ (s.extract A e ++ B)) (pre.size + (e - A) + i) = bAt B i := fun i hi => by
              rw [bAt_app, if_neg (by omega), bAt_app, if_neg (by omega), hW, show pre.size + (e - A) + i - pre.size - (e - A) = i by omega]
            have b3 : ∀ i, i < B.size → bAt u (pre.size + (e - A) + i) = bAt B i := fun i hi => by rw [hdu, bAt_app, if_pos (by omega), b2 i hi]
            have hst : stop isBl u q = pre.size := by
              refine stop_blanks hqp (by omega) (fun i a b => by rw [b0 i b]; exact hbl i a b) (fun x => ?_)
              have := b1 0 (by omega)
              rw [Nat.add_zero, Nat.add_zero] at this
              rw [this]
              exact hnb
            have hlik : Lik s A u pre.size (e - A) := by
              refine ⟨by omega, by omega, b1, fun x => ?_⟩
              have := b3 0 (by have := hB.1; omega)
              rw [Nat.add_zero] at this
              rw [this]
              exact hB.2.2 0 (by have := hB.1; omega)
            have htk := tok_mv hlik (by omega) ht (by omega)
            obtain ⟨M, hM1, hM2⟩ := hM (pre ++ (s.extract A e ++ B)) (pre.size + (e - A)) m (by omega) (fun i a b => by
              have := b2 (i - (pre.size + (e - A))) (by omega)
              rw [show pre.size + (e - A) + (i - (pre.size + (e - A))) = i by omega] at this
              rw [this]
              exact hB.2.2 _ (by omega)) (by rw [← hdu]; omega)
            rw [← hdu] at hM1
            unfold scanF
            rw [hst, if_neg (by have := hB.1; omega), htk]
            simp only [show e - A + pre.size = pre.size + (e - A) by omega, hM1]
            exact ⟨_, rfl, alike_cons (x := ⟨t, A, s.extract A e⟩) (b := pre.size) hM2⟩
/-- the blank that is asked. -/
theorem blank_of (b : Int) : ∃ B, Blk B ∧ ∀ {α : Type} (k : List Cell → Option α), ixR [[sc (strB [32])], [sc (strB [10])], [sc (strB [9])], [sc (strB [13])], [sc (strB [32, 32])]] (IntKind.i64.wrap (Int.tmod (IntKind.u64.wrap b) 5)) k = k [sc B] := by
  obtain ⟨m, hm⟩ : ∃ m : Nat, IntKind.u64.wrap b = (m : Int) := by
    refine ⟨(IntKind.u64.wrap b).toNat, ?_⟩
    have : 0 ≤ IntKind.u64.wrap b := by
      unfold IntKind.wrap
      simp [IntKind.bits, IntKind.signed]
      omega
    omega
  rw [hm, show Int.tmod (m : Int) 5 = ((m % 5 : Nat) : Int) from rfl, wrapN (n := m % 5) (by omega)]
  have h5 : m % 5 < 5 := Nat.mod_lt _ (by omega)
  generalize m % 5 = j at h5
  have one : ∀ c : Nat, isBl (bAt (strB [c]) 0) = true → Blk (strB [c]) := fun c hc => ⟨Nat.le_refl 1, (by show 1 ≤ 2; omega), fun i hi => by
    have hi : i < 1 := hi
    obtain rfl : i = 0 := by omega
    exact hc⟩
  match j, h5 with
  | 0, _ => exact ⟨_, one 32 rfl, fun k => rfl⟩
  | 1, _ => exact ⟨_, one 10 rfl, fun k => rfl⟩
  | 2, _ => exact ⟨_, one 9 rfl, fun k => rfl⟩
  | 3, _ => exact ⟨_, one 13 rfl, fun k => rfl⟩
  | 4, _ =>
    refine ⟨strB [32, 32], ⟨(by show 1 ≤ 2; omega), Nat.le_refl 2, fun i hi => ?_⟩, fun k => rfl⟩
    have hi : i < 2 := hi
    match i, hi with
    | 0, _ => rfl
    | 1, _ => rfl
theorem g7_join {blank : Int} {B : ByteArray} (hB : Blk B) (hix : ∀ {α : Type} (k : List Cell → Option α), ixR [[sc (strB [32])], [sc (strB [10])], [sc (strB [9])], [sc (strB [13])], [sc (strB [32, 32])]] (IntKind.i64.wrap (Int.tmod (IntKind.u64.wrap blank) 5)) k = k [sc B])
    {PL : List TW} (hP : ∀ x ∈ PL, WOk x) (hl : PL.length ≤ 5000) {r : Bool} : ∀ (n i : Nat) (t8 : ByteArray), i + n = PL.length → t8.size ≤ 5000 * i →
      Goes step7 (.h1 blank (PL.map TW.row) (t8 ++ joinW B ((PL.drop i).map TW.w)) (PL.map TW.row) (PL.length : Int) (PL.length : Int)) r → Goes step7 (.h1 blank (PL.map TW.row) t8 (PL.map TW.row) (PL.length : Int) (i : Int)) r
  | 0, i, t8, h, h8, hr => by
    obtain rfl : i = PL.length := by omega
    rw [List.drop_length] at hr
    have : t8 ++ joinW B (([] : List TW).map TW.w) = t8 := app_nil t8
    rw [this] at hr
    exact hr
  | n + 1, i, t8, h, h8, hr => by
    have hi : i < PL.length := by omega
    have hrow := row_at hi
    have hx := hP _ (List.getElem_mem hi)
    rw [List.drop_eq_getElem_cons hi, List.map_cons] at hr
    generalize PL[i] = x at hrow hx hr
    obtain ⟨h14, _, hw⟩ := hx
    have hb := hB.2.1
    have hs : (x.w ++ B).size = x.w.size + B.size := ByteArray.size_append
    have hs2 : (t8 ++ (x.w ++ B)).size = t8.size + (x.w.size + B.size) := by rw [ByteArray.size_append, hs]
    have ih := g7_join hB hix hP hl n (i + 1) (t8 ++ (x.w ++ B)) (r := r) (by omega) (by omega) (by rw [app_assoc]; exact hr)
    refine Goes.call (h14 (x.a : Int)) ih fun k rec e1 => ?_
    simp only [step7, t7_h1, ltT hi, cond_true, ixR_at hrow, un_row, e1, Option.bind_some, hix]
    show gd _ (gd _ (rec _)) = _
    rw [show decide (x.w.size + B.size ≤ 1000000000) = true from decide_eq_true (by omega), show decide (t8.size + (x.w ++ B).size ≤ 1000000000) = true from decide_eq_true (by omega), gd_true, gd_true, wrap1 i (by omega)]
theorem g7_cmp {PL : List TW} (hl : PL.length ≤ 5000) {M : Rs} (hM : Alike PL M) : ∀ (n i : Nat), PL.length - i ≤ n → Goes step7 (.h4 (PL.map TW.row) M (M.length : Int) (i : Int)) true
  | 0, i, h => .fin0 fun k rec => by simp only [step7, t7_h4, ltF (show ¬ i < M.length by rw [hM.1]; omega), cond_false]
  | n + 1, i, h => by
    by_cases hi : i < PL.length
    · obtain ⟨b, hrow⟩ := hM.2 i _ (List.getElem?_eq_getElem hi)
      have hrow2 := row_at hi
      generalize PL[i] = x at hrow hrow2
      have h5 : Goes step7 (.h5 (PL.map TW.row) M (M.length : Int) (i : Int) false) true := Goes.rec0 (g7_cmp hl hM n (i + 1) (by omega)) fun k rec => by simp only [step7, t7_h5, cond_false, wrap1 i (by omega)]
      refine Goes.rec0 h5 fun k rec => ?_
      simp only [step7, t7_h4, ltT (show i < M.length by rw [hM.1]; exact hi), cond_true, ixR_at hrow, ixR_at hrow2, un_row]
      show (bif x.t.kind != x.t.kind then _ else bif !(x.t.text.toList == x.t.text.toList) then _ else bif x.t.n != x.t.n then _ else rec _) = _
      simp only [bne_self_eq_false, beq_self_eq_true, Bool.not_true, cond_false]
    · exact .fin0 fun k rec => by simp only [step7, t7_h4, ltF (show ¬ i < M.length by rw [hM.1]; omega), cond_false]
theorem back_true (s : ByteArray) (b : Int) : Tot (fun k => g7 k s b) true := by
  have bad : Goes step7 (.h0 b [] true) true := Goes.done awake6 fun k rec e => by simp only [step7, t7_h0, cond_true, e, Option.bind_some]
  by_cases hs : s.size ≤ 4000
  · have h8 := g8_is hs
    cases hq : scanF s (s.size + 1) 0 with
    | inl l =>
      obtain ⟨B, hB, hix⟩ := blank_of b
      obtain ⟨PL, hL, hP, hM⟩ := scan_again hs hB _ 0 l (Nat.zero_le _) hq
      have hi := imm_scan s _ _ l hq
      have hlen : PL.length ≤ 5000 := by
        have := scan_len s _ 0 l (Nat.zero_le _) hq
        rw [hL, List.length_map] at this
        omega
      rw [hq] at h8
      subst hL
      obtain ⟨U, hU⟩ : ∃ U, U = joinW B (PL.map TW.w) := ⟨_, rfl⟩
      have hU0 : strB [] ++ joinW B ((PL.drop 0).map TW.w) = U := by rw [List.drop_zero, ← hU]; exact bytes_ext (by rw [toList_append']; rfl)
      have hUs : strB [] ++ joinW B (PL.map TW.w) = U := by rw [← hU]; exact bytes_ext (by rw [toList_append']; rfl)
      have last : Goes step7 (.h1 b (PL.map TW.row) U (PL.map TW.row) (PL.length : Int) (PL.length : Int)) true := by
        by_cases hl : U.size ≤ 4000
        · obtain ⟨M, hM1, hM2⟩ := hM (strB []) 0 (U.size + 1) (Nat.zero_le _) (fun i x y => by have : i < 0 := y; omega) (by rw [hUs]; omega)
          rw [hUs] at hM1
          have h8u := g8_is hl
          rw [hM1] at h8u
          have hiM := imm_scan U _ _ M hM1
          have h4 := g7_cmp hlen hM2 _ 0 (Nat.le_refl _)
          have h3 : Goes step7 (.h3 (PL.map TW.row) M false) true := Goes.rec0 h4 fun k rec => by simp only [step7, t7_h3, cond_false]; rfl
          have h2 : Goes step7 (.h2 (PL.map TW.row) M 0 false) true := Goes.rec0 h3 fun k rec => by
            simp only [step7, t7_h2, cond_false, bne_self_eq_false, List.length_map, hM2.1]
          refine Goes.call h8u h2 fun k rec e => ?_
          simp only [step7, t7_h1, ltF (Nat.lt_irrefl PL.length), cond_false, e, Option.bind_some, res8of, altC, tup3, List.nil_append, hiM, show decide ((U.size : Int) > 4000) = false from decide_eq_false (by omega)]
        · have h2 : Goes step7 (.h2 (PL.map TW.row) [] 2 true) true := .fin0 fun k rec => rfl
          refine Goes.call (g8_long hl) h2 fun k rec e => ?_
          simp only [step7, t7_h1, ltF (Nat.lt_irrefl PL.length), cond_false, e, Option.bind_some, altC, tup3, show decide ((U.size : Int) > 4000) = true from decide_eq_true (by omega)]
      have h1 := g7_join hB hix hP hlen PL.length 0 (strB []) (by omega) (by show 0 ≤ _; omega) (by rw [hU0]; exact last)
      have h0 : Goes step7 (.h0 b (PL.map TW.row) false) true := Goes.rec0 h1 fun k rec => by
        simp only [step7, t7_h0, cond_false, List.length_map]
        rfl
      refine Goes.call2 (step := step7) (s := .e s b) h8 awake6 h0 fun k rec e1 e2 => ?_
      simp only [step7, t7_e, e1, e2, Option.bind_some, res8of, altC, tup3, List.nil_append, hi, Bool.not_true, cond_false]
      rfl
    | inr z =>
      rw [hq] at h8
      refine Goes.call2 (step := step7) (s := .e s b) h8 awake6 bad fun k rec e1 e2 => ?_
      simp only [step7, t7_e, e1, e2, Option.bind_some, res8of, altC, tup2, Bool.not_true, cond_false]
      rfl
  · refine Goes.call2 (step := step7) (s := .e s b) (g8_long hs) awake6 bad fun k rec e1 e2 => ?_
    simp only [step7, t7_e, e1, e2, Option.bind_some, altC, tup3, Bool.not_true, cond_false]
    rfl
end
end Ab
end Go.Proofs.YtniibdfnijeaeaaDoor
