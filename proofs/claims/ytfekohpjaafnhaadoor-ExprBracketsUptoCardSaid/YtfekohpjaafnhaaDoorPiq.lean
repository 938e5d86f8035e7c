/-
  ExprBrackets: an expression in brackets; one bracket too few, and one too many.
-/
import Derived.Test.YtfekohpjaafnhaaDoorPhq
set_option linter.unusedVariables false
set_option linter.unusedSimpArgs false
set_option linter.unusedSectionVars false
namespace Go.Proofs.YtfekohpjaafnhaaDoor
namespace Ab
theorem qd5 : (strB [40]).size = 1 := rfl
theorem qln : (strB [41]).size = 1 := rfl
theorem qlc : (strB [32, 41]).size = 2 := rfl
theorem b40 : bAt (strB [40]) 0 = 40 := by kernel_rfl
theorem b41 : bAt (strB [41]) 0 = 41 := by kernel_rfl
theorem b32 : bAt (strB [32, 41]) 0 = 32 := by kernel_rfl
theorem b321 : bAt (strB [32, 41]) 1 = 41 := by kernel_rfl
section
variable {s : ByteArray} {T : List Tok} (hT : yn s (s.size + 1) 0 = .inl (T ++ [endT s])) (hl : T.length ≤ s.size)
include hT hl
theorem qlg : ∃ m, yn ((strB [40] ++ s) ++ strB [41]) (((strB [40] ++ s) ++ strB [41]).size + 1) 0 = .inl (sgT (strB [40]) 0 :: (T.map (shT 1) ++ [sgT (strB [41]) (s.size + 1), endT ((strB [40] ++ s) ++ strB [41])])) ∧ m = 0 := by
 generalize hu : (strB [40] ++ s) ++ strB [41] = u
 have hsz : u.size = s.size + 2 := by rw [← hu, yI, yI, qd5, qln]; omega
 have hb : ∀ i, bAt u i = if i < s.size + 1 then (if i < 1 then bAt (strB [40]) i else bAt s (i - 1)) else bAt (strB [41]) (i - (s.size + 1)) := fun i => by
  rw [← hu, qcP, qcP, yI, qd5, Nat.add_comm 1 s.size]
 have h0 : bAt u 0 = 40 := by rw [hb, if_pos (by omega), if_pos (by omega)]; exact b40
 have h1 : bAt u (s.size + 1) = 41 := by rw [hb, if_neg (by omega), Nat.sub_self]; exact b41
 have em : Emb s u 1 := ⟨by omega, fun i hi => by rw [hb, if_pos (by omega), if_neg (by omega)]; congr 1; omega, fun _ => by rw [Nat.add_comm, h1]; rfl⟩
 obtain ⟨q, q1, q2, q3, q4⟩ := qay em _ _ _ (Nat.zero_le _) hT
 refine ⟨0, ?_, rfl⟩
 rw [qcA (Nat.le_refl 0) (by omega) (fun i h1 h2 => by omega) (.inl rfl) h0]
 have e : u.size = (u.size - T.length - 2 + 2) + T.length := by omega
 rw [e]
 have q4' := q4 (u.size - T.length - 2 + 2)
 rw [show 1 + 0 = 0 + 1 by omega] at q4'
 rw [q4', qcA (z := s.size + 1) (by omega) (by omega) (fun i a b => q3 i a (by omega)) (.inr rfl) h1, qcp (by omega) (fun i a b => by omega)]
 rw [show pfT (sgT (strB [41]) (s.size + 1)) (.inl [endT u]) = .inl [sgT (strB [41]) (s.size + 1), endT u] from rfl, qeS]
 rfl
theorem qkW : yn (strB [40] ++ s) ((strB [40] ++ s).size + 1) 0 = .inl (sgT (strB [40]) 0 :: (T.map (shT 1) ++ [endT (strB [40] ++ s)])) := by
 generalize hu : strB [40] ++ s = u
 have hsz : u.size = s.size + 1 := by rw [← hu, yI, qd5]; omega
 have hb : ∀ i, bAt u i = if i < 1 then bAt (strB [40]) i else bAt s (i - 1) := fun i => by rw [← hu, qcP, qd5]
 have h0 : bAt u 0 = 40 := by rw [hb, if_pos (by omega)]; exact b40
 have em : Emb s u 1 := ⟨by omega, fun i hi => by rw [hb, if_neg (by omega)]; congr 1; omega, fun h => by omega⟩
 obtain ⟨q, q1, q2, q3, q4⟩ := qay em _ _ _ (Nat.zero_le _) hT
 rw [qcA (Nat.le_refl 0) (by omega) (fun i h1 h2 => by omega) (.inl rfl) h0]
 have e : u.size = (u.size - T.length - 1 + 1) + T.length := by omega
 rw [e]
 have q4' := q4 (u.size - T.length - 1 + 1)
 rw [show 1 + 0 = 0 + 1 by omega] at q4'
 rw [q4', qcp (by omega) (fun i a b => q3 i a (by omega)), qeS]
 rfl
theorem qlk : yn (s ++ strB [32, 41]) ((s ++ strB [32, 41]).size + 1) 0 = .inl (T.map (shT 0) ++ [sgT (strB [41]) (s.size + 1), endT (s ++ strB [32, 41])]) := by
 generalize hu : s ++ strB [32, 41] = u
 have hsz : u.size = s.size + 2 := by rw [← hu, yI, qlc]
 have hb : ∀ i, bAt u i = if i < s.size then bAt s i else bAt (strB [32, 41]) (i - s.size) := fun i => by rw [← hu, qcP]
 have h0 : bAt u s.size = 32 := by rw [hb, if_neg (by omega), Nat.sub_self]; exact b32
 have h1 : bAt u (s.size + 1) = 41 := by rw [hb, if_neg (by omega), show s.size + 1 - s.size = 1 by omega]; exact b321
 have em : Emb s u 0 := ⟨by omega, fun i hi => by rw [Nat.zero_add, hb, if_pos hi], fun _ => by rw [Nat.zero_add, h0]; rfl⟩
 obtain ⟨q, q1, q2, q3, q4⟩ := qay em _ _ _ (Nat.zero_le _) hT
 have e : u.size + 1 = (u.size + 1 - T.length - 2 + 2) + T.length := by omega
 rw [e]
 have q4' := q4 (u.size + 1 - T.length - 2 + 2)
 rw [Nat.add_zero] at q4'
 rw [q4', qcA (z := s.size + 1) (by omega) (by omega) (fun i a b => by
  by_cases hi : i < s.size
  · exact q3 i a (by omega)
  ·
   have : i = s.size := by omega
   rw [this, h0]; rfl) (.inr rfl) h1, qcp (by omega) (fun i a b => by omega)]
 rw [show pfT (sgT (strB [41]) (s.size + 1)) (.inl [endT u]) = .inl [sgT (strB [41]) (s.size + 1), endT u] from rfl, qeS]
 rfl
end
theorem qhm (T : List Tok) (c : Int) (R : List Tok) {k : Nat} (hk : k < T.length) : tkA (T.map (shT c) ++ R) k = shT c (tkA T k) := by
 unfold tkA
 rw [List.getElem?_append_left (by simpa using hk), List.getElem?_map, List.getElem?_eq_getElem hk]
 rfl
theorem qeT (T : List Tok) (c : Int) (t : Tok) (R : List Tok) : tkA (T.map (shT c) ++ t :: R) T.length = t := by
 unfold tkA
 rw [List.getElem?_append_right (by simp)]
 simp
theorem qjI (T : List Tok) (c : Int) (t u : Tok) (R : List Tok) : tkA (T.map (shT c) ++ t :: u :: R) (T.length + 1) = u := by
 unfold tkA
 rw [List.getElem?_append_right (by simp)]
 simp
theorem qbx (t : Tok) (L : List Tok) (k : Nat) : tkA (t :: L) (k + 1) = tkA L k := by simp [tkA]
theorem qfj {u : ByteArray} {L : List Tok} {n : Nat} {out : PO} (hs : u.size ≤ 4000) (hL : yn u (u.size + 1) 0 = .inl L) (hp : pp L n (.p 0 0 0) = some out) : parT u n = some (outP L out) := by
 unfold parT
 rw [if_pos hs, hL]
 simp only [hp, Option.map_some]
theorem brackets {s : ByteArray} {n : Nat} {x : Ex} {a : Int} (h : parT s n = some (x, a, 0)) (hs : s.size ≤ 3990) :
  (∃ p : Int, parT ((strB [40] ++ s) ++ strB [41]) (n + 8) = some (z0, p, 14)) ∨
  (parT ((strB [40] ++ s) ++ strB [41]) (n + 8) = some (shX 1 x, 0, 0) ∧ parT (strB [40] ++ s) (n + 8) = some (z0, (s.size : Int) + 1, 13) ∧ parT (s ++ strB [32, 41]) n = some (z0, (s.size : Int) + 1, 13)) := by
 obtain ⟨hs4, T, hT, hk, hl, hp, hc⟩ := qkC h
 obtain ⟨_, su, _⟩ := qlg hT hl
 have sv := qkW hT hl
 have sw := qlk hT hl
 have zu : ((strB [40] ++ s) ++ strB [41]).size = s.size + 2 := by rw [yI, yI, qd5, qln]; omega
 have zv : (strB [40] ++ s).size = s.size + 1 := by rw [yI, qd5]; omega
 have zw : (s ++ strB [32, 41]).size = s.size + 2 := by rw [yI, qlc]
 generalize (strB [40] ++ s) ++ strB [41] = u at su zu ⊢
 generalize hv : strB [40] ++ s = v at sv zv ⊢
 generalize s ++ strB [32, 41] = w at sw zw ⊢
 generalize hLu : (sgT (strB [40]) 0 :: (T.map (shT 1) ++ [sgT (strB [41]) (s.size + 1), endT u])) = Lu at su
 have a0 : tkA Lu 0 = sgT (strB [40]) 0 := by rw [← hLu]; rfl
 have a1 : ∀ k, k < T.length → tkA Lu (k + 1) = shT 1 (tkA T k) := fun k hk => by rw [← hLu, qbx, qhm T 1 _ hk]
 have a2 : tkA Lu (T.length + 1) = sgT (strB [41]) (s.size + 1) := by rw [← hLu, qbx, qeT]
 have a3 : tkA Lu (T.length + 2) = endT u := by rw [← hLu, qbx, qjI]
 have agu : Agr (T ++ [endT s]) Lu 1 1 0 T.length := fun k _ h2 => by rw [a1 k h2, qle h2]
 have r := (qjL n).1 0 0 0 1 x T.length (by omega) (by omega) (by omega) hp agu (.inr (by rw [a2]; exact qjT _))
 rw [Nat.zero_add] at r
 rcases r with r | ⟨_, p, r⟩
 ·
  right
  refine ⟨?_, ?_, ?_⟩
  ·
   have b := ups 0 (by omega) (qnz (i := 0) (o := 0) a0 (by omega) r a2) (by rw [a0]; exact qhv 0) (by rw [a0]; exact qhY 0) fun y j e m _ => by
    cases e
    rw [a3]
    exact qhF u m
   rw [qfj (by omega) su b]
   unfold outP
   simp only [a3]
   rw [if_pos (show (endT u).kind = 0 from rfl), if_pos (by rw [qhc]; exact hc)]
  ·
   generalize hLv : (sgT (strB [40]) 0 :: (T.map (shT 1) ++ [endT v])) = Lv at sv
   have c0 : tkA Lv 0 = sgT (strB [40]) 0 := by rw [← hLv]; rfl
   have c1 : ∀ k, k < T.length → tkA Lv (k + 1) = shT 1 (tkA T k) := fun k hk => by rw [← hLv, qbx, qhm T 1 _ hk]
   have c2 : tkA Lv (T.length + 1) = endT v := by rw [← hLv, qbx, qeT]
   have agv : Agr Lu Lv 0 0 1 (T.length + 1) := fun k h1 h2 => by
    obtain ⟨m, rfl⟩ : ∃ m, k = m + 1 := ⟨k - 1, by omega⟩
    rw [Nat.add_zero, c1 m (by omega), a1 m (by omega)]
    show Tok.mk _ _ _ _ _ = Tok.mk _ _ _ _ _
    congr 1
    show (tkA T m).pos + 1 = (tkA T m).pos + 1 + 0
    omega
   have r2 := (qjL n).1 0 1 1 1 (shX 1 x) (T.length + 1) (by omega) (by omega) (by omega) r agv (.inr (by rw [Nat.add_zero, c2]; exact qhF _))
   rcases r2 with r2 | ⟨h, _⟩
   ·
    rw [Nat.add_zero, Nat.add_zero] at r2
    have b := ups 0 (by omega) (qoo (i := 0) (o := 0) c0 (by omega) r2 (by rw [c2]; rfl)) (by rw [c0]; exact qhv 0) (by rw [c0]; exact qhY 0) fun y j e m _ => by cases e
    rw [qfj (by omega) sv b, c2]
    unfold outP
    show some (z0, ((v.size : Nat) : Int), (13 : Int)) = _
    rw [zv]; rfl
   · omega
  ·
   generalize hLw : (T.map (shT 0) ++ [sgT (strB [41]) (s.size + 1), endT w]) = Lw at sw
   have c1 : ∀ k, k < T.length → tkA Lw k = shT 0 (tkA T k) := fun k hk => by rw [← hLw, qhm T 0 _ hk]
   have c2 : tkA Lw T.length = sgT (strB [41]) (s.size + 1) := by rw [← hLw, qeT]
   have agw : Agr (T ++ [endT s]) Lw 0 0 0 T.length := fun k _ h2 => by rw [Nat.add_zero, c1 k h2, qle h2]
   have r2 := (qjL n).1 0 0 0 0 x T.length (by omega) (by omega) (by omega) hp agw (.inr (by rw [Nat.add_zero, c2]; exact qjT _))
   rcases r2 with r2 | ⟨h, _⟩
   ·
    rw [Nat.add_zero, Nat.add_zero] at r2
    rw [qfj (by omega) sw r2]
    unfold outP
    simp only [c2]
    rfl
   · omega
 ·
  left
  have b := ups 0 (by omega) (ql0 (i := 0) (o := 0) a0 (by omega) r) (by rw [a0]; exact qhv 0) (by rw [a0]; exact qhY 0) fun y j e m _ => by cases e
  exact ⟨p, by rw [qfj (by omega) su b]; rfl⟩
section
variable [vo]
theorem qcH (s : ByteArray) : Tot (fun k => g5 k s) true := by
 obtain ⟨⟨x, a, e⟩, h⟩ := qk0 s (n := 90000) (by omega)
 have t1 := qdP h
 have t7 : Tot (fun k => g7 k) true := qjj 100 awk
 have out : ∀ c d e f g i j, Goes Qq (.h0 s true c d e f g i j) true := fun c d e f g i j => .of1 t7 fun k b => by simp only [Qq, cond_true, b, Option.bind_some]
 by_cases he : e = 0
 ·
  subst he
  by_cases hs : s.size ≤ 3990
  ·
   have hd : decide ((s.size : Int) > 3990) = false := decide_eq_false (by omega)
   have g1 : decide ((strB [40]).size + s.size ≤ 1000000000) = true := decide_eq_true (by rw [qd5]; omega)
   have g2 : decide (((strB [40]) ++ s).size + (strB [41]).size ≤ 1000000000) = true := decide_eq_true (by rw [yI, qd5, qln]; omega)
   have g3 : decide (s.size + (strB [32, 41]).size ≤ 1000000000) = true := decide_eq_true (by rw [qlc]; omega)
   have wr : IntKind.i64.wrap ((s.size : Int) + 1) = (s.size : Int) + 1 := by rw [IntKind.wrap_i64]; omega
   have into : Goes Qq (.h0 s false x.op (qg x.args) x.n x.scale x.name x.attr x.pos) true → Goes Qq (.e s) true := fun h0 => .of3 t1 t7 h0 fun k b b2 b3 => by
    simp only [Qq, b, exT, Option.bind_some, tup9, b2, Bool.not_true, cond_false, hd]
    exact b3
   refine into ?_
   rcases brackets h hs with ⟨p, h2⟩ | ⟨h2, h3, h4⟩
   ·
    refine .of1 (qdP h2) fun k b => ?_
    simp only [Qq, cond_false, g1, g2, ZW, b, exT, Option.bind_some, tup9]
    rfl
   ·
    have hc : cnt (shX 1 x) ≤ 200 := by
     rw [qhc]
     exact (qkC h).2.elim fun T h => h.2.2.2.2
    have t8 : Tot (fun k => g8 k (shX 1 x).op (qg (shX 1 x).args) (shX 1 x).n (shX 1 x).scale (shX 1 x).name (shX 1 x).attr (shX 1 x).pos x.op (qg x.args) x.n x.scale x.name x.attr x.pos) true := by
     have := qmf _ (shX 1 x) x (Nat.le_refl _) (by omega)
     rw [qiB] at this
     exact this
    refine .of4 (qdP h2) (qdP h3) (qdP h4) t8 fun k b b2 b3 b4 => ?_
    simp only [Qq, cond_false, g1, g2, g3, ZW, b, b2, b3, b4, exT, Option.bind_some, tup9, wr, beq_self_eq_true, cond_true]
    rfl
  ·
   refine Goes.of3 (step := Qq) (s := .e s) t1 t7 (out x.op (qg x.args) x.n x.scale x.name x.attr x.pos) fun k b b2 b3 => ?_
   simp only [Qq, b, exT, Option.bind_some, tup9, b2, Bool.not_true, cond_false, show decide ((s.size : Int) > 3990) = true from decide_eq_true (by omega)]
   exact b3
 ·
  have hb : (e != 0) = true := by simpa using he
  refine Goes.of3 (step := Qq) (s := .e s) t1 t7 (out x.op (qg x.args) x.n x.scale x.name x.attr x.pos) fun k b b2 b3 => ?_
  simp only [Qq, b, exT, Option.bind_some, tup9, b2, Bool.not_true, cond_false, hb, cond_true]
  exact b3
end
end Ab
end Go.Proofs.YtfekohpjaafnhaaDoor
