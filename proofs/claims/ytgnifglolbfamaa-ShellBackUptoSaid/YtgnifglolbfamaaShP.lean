/- Plain: quoted words with a blank between each two are read back. -/
import Derived.Test.YtgnifglolbfamaaShG
set_option linter.unusedVariables false
set_option linter.unusedSimpArgs false
namespace Go.Proofs.Ytgnifglolbfamaa

theorem hexv_hexd : ∀ n : Nat, n < 16 → hexv (hexd n) = n := by
  intro n h
  have : ∀ n : Fin 16, hexv (hexd n.1) = n.1 := by decide
  exact this ⟨n, h⟩
theorem esc_hex (c : UInt8) (X : List UInt8) : esc (120 :: hexd (c.toNat / 16) :: hexd (c.toNat % 16) :: X) = ((c.toNat : Int), 3) := by
  have hc := c.toNat_lt
  simp only [esc, hexv_hexd _ (show c.toNat / 16 < 16 by omega), hexv_hexd _ (show c.toNat % 16 < 16 by omega)]
  rw [if_neg (by decide), if_neg (by decide), if_neg (by decide), if_neg (by decide), if_pos (by decide), if_pos ⟨by omega, by omega⟩]
  congr 1
  omega
theorem toUInt8_self (c : UInt8) : ((c.toNat : Int)).toNat.toUInt8 = c := by simp

theorem qread_byte (c : UInt8) (f : Nat) (acc X : List UInt8) (hf : X.length < f) : qread (f + 1) acc (qbyte c ++ X) = qread f (acc ++ [c]) X := by
  unfold qbyte
  split
  · rename_i h
    simp only [List.cons_append, List.nil_append, qread]
    rw [if_neg (by decide), if_pos (by decide)]
    have e : esc (c :: X) = ((c.toNat : Int), 1) := by
      simp only [esc]
      rcases h with h | h
      · rw [if_pos h]
      · rw [if_neg (by omega), if_pos h]
    rw [e]
    simp
  · rename_i h
    split
    · rename_i h2
      simp only [List.cons_append, List.nil_append, qread]
      rw [if_neg (by decide), if_pos (by decide)]
      have e : esc (110 :: X) = (10, 1) := by simp [esc]
      have hc : c = 10 := UInt8.toNat_inj.1 h2
      rw [e]
      simp [hc]
    · split
      · rename_i h2
        simp only [List.cons_append, List.nil_append, qread]
        rw [if_neg (by decide), if_pos (by decide)]
        have e : esc (116 :: X) = (9, 1) := by simp [esc]
        have hc : c = 9 := UInt8.toNat_inj.1 h2
        rw [e]
        simp [hc]
      · split
        · simp only [List.cons_append, List.nil_append, qread]
          rw [if_neg (by decide), if_pos (by decide), esc_hex]
          simp
        · simp only [List.cons_append, List.nil_append, qread]
          rw [if_neg (by omega), if_neg (by omega)]
theorem qbyte_pos (c : UInt8) : 0 < (qbyte c).length := by unfold qbyte; (repeat' split) <;> simp

/-- What stands behind a word: nothing, or a blank. -/
def Behind (r : List UInt8) : Prop := r = [] ∨ ∃ r', r = 32 :: r'

theorem qread_flat : ∀ (w acc : List UInt8) (r : List UInt8) (f : Nat), Behind r → (w.flatMap qbyte ++ 34 :: r).length < f → qread f acc (w.flatMap qbyte ++ 34 :: r) = some (acc ++ w, r) := by
  intro w
  induction w with
  | nil =>
    intro acc r f hr hf
    obtain ⟨f, rfl⟩ : ∃ g, f = g + 1 := ⟨f - 1, by omega⟩
    simp only [List.flatMap_nil, List.nil_append, qread]
    rw [if_pos (by decide)]
    rcases hr with rfl | ⟨r', rfl⟩
    · simp
    · simp
  | cons c w ih =>
    intro acc r f hr hf
    have hp := qbyte_pos c
    simp only [List.flatMap_cons, List.append_assoc, List.length_append] at hf ⊢
    obtain ⟨f, rfl⟩ : ∃ g, f = g + 1 := ⟨f - 1, by omega⟩
    rw [qread_byte c f acc _ (by simp only [List.length_append]; omega), ih (acc ++ [c]) r f hr (by simp only [List.length_append]; omega)]
    simp

theorem bare_flat : ∀ (w acc r : List UInt8), w.all okc = true → Behind r → bare acc (w ++ r) = some (acc ++ w, r) := by
  intro w
  induction w with
  | nil =>
    intro acc r _ hr
    rcases hr with rfl | ⟨r', rfl⟩
    · simp [bare]
    · simp [bare]
  | cons c w ih =>
    intro acc r ha hr
    simp only [List.all_cons, Bool.and_eq_true, okc, decide_eq_true_eq] at ha
    simp only [List.cons_append, bare]
    rw [if_neg (by omega), if_neg (by omega), ih (acc ++ [c]) r ha.2 hr]
    simp

theorem isBare_cons {w : List UInt8} (h : isBare w = true) : ∃ c r, w = c :: r ∧ w.all okc = true := by
  unfold isBare at h
  simp only [Bool.and_eq_true] at h
  match w, h with
  | [], h => simp [bare0] at h
  | c :: r, h => exact ⟨c, r, rfl, h.2⟩

/-- One word is read back. -/
theorem wread_quote (w r : List UInt8) (acc : List (List UInt8)) (f : Nat) (hr : Behind r) (hf : r.length < f) : wread (f + 1) acc (quoteOf w ++ r) = wread f (acc ++ [w]) r := by
  unfold quoteOf
  by_cases hb : isBare w = true
  · rw [if_pos hb]
    obtain ⟨c, t, rfl, ha⟩ := isBare_cons hb
    have hh := bare_flat (c :: t) [] r ha hr
    simp only [List.all_cons, Bool.and_eq_true, okc, decide_eq_true_eq] at ha
    simp only [List.cons_append, wread] at hh ⊢
    rw [if_neg (by omega), if_neg (by omega), hh]
    simp
  · rw [if_neg hb]
    have e : 34 :: List.flatMap qbyte w ++ [34] ++ r = 34 :: (List.flatMap qbyte w ++ 34 :: r) := by simp
    rw [e]
    simp only [wread]
    rw [if_neg (by decide), if_pos (by decide), qread_flat w [] r _ hr (by omega)]
    simp
theorem quote_pos (w : List UInt8) : 0 < (quoteOf w).length := by
  unfold quoteOf
  by_cases hb : isBare w = true
  · rw [if_pos hb]
    obtain ⟨c, t, rfl, _⟩ := isBare_cons hb
    simp
  · rw [if_neg hb]; simp

/-- The words, quoted, a blank between each two. -/
def lineOf : List (List UInt8) → List UInt8
  | [] => []
  | [w] => quoteOf w
  | w :: w' :: ws => quoteOf w ++ 32 :: lineOf (w' :: ws)
theorem wread_line : ∀ (ws acc : List (List UInt8)) (f : Nat), (lineOf ws).length < f → wread f acc (lineOf ws) = some (acc ++ ws) := by
  intro ws
  induction ws with
  | nil =>
    intro acc f hf
    obtain ⟨f, rfl⟩ : ∃ g, f = g + 1 := ⟨f - 1, by omega⟩
    simp [lineOf, wread]
  | cons w ws ih =>
    intro acc f hf
    have hp := quote_pos w
    obtain ⟨f, rfl⟩ : ∃ g, f = g + 1 := ⟨f - 1, by omega⟩
    match ws, ih, hf with
    | [], ih, hf =>
      simp only [lineOf] at hf ⊢
      have := wread_quote w [] acc f (Or.inl rfl) (by simp; omega)
      rw [List.append_nil] at this
      rw [this]
      obtain ⟨f, rfl⟩ : ∃ g, f = g + 1 := ⟨f - 1, by omega⟩
      simp [wread]
    | w' :: ws, ih, hf =>
      simp only [lineOf, List.length_append, List.length_cons] at hf ⊢
      rw [wread_quote w _ acc f (Or.inr ⟨_, rfl⟩) (by simp only [List.length_cons]; omega)]
      obtain ⟨f, rfl⟩ : ∃ g, f = g + 1 := ⟨f - 1, by omega⟩
      simp only [wread]
      rw [if_pos (by decide), ih (acc ++ [w]) f (by omega)]
      simp

theorem qbyte_nl (c : UInt8) : (10 : UInt8) ∉ qbyte c := by
  have : ∀ n : Fin 256, (10 : UInt8) ∉ qbyte (UInt8.ofNat n.1) := by decide +kernel
  have := this ⟨c.toNat, c.toNat_lt⟩
  simpa using this
theorem quote_nl (w : List UInt8) : (10 : UInt8) ∉ quoteOf w := by
  unfold quoteOf
  by_cases hb : isBare w = true
  · rw [if_pos hb]
    obtain ⟨c, t, hw, ha⟩ := isBare_cons hb
    intro h
    have := List.all_eq_true.1 ha _ h
    simp [okc] at this
  · rw [if_neg hb]
    simp only [List.cons_append, List.mem_cons, List.mem_append, List.mem_flatMap, List.not_mem_nil, or_false]
    rintro (h | ⟨c, _, h⟩ | h)
    · exact absurd h (by decide)
    · exact qbyte_nl c h
    · exact absurd h (by decide)
theorem line_nl : ∀ ws : List (List UInt8), (10 : UInt8) ∉ lineOf ws := by
  intro ws
  induction ws with
  | nil => simp [lineOf]
  | cons w ws ih =>
    match ws, ih with
    | [], _ => simp only [lineOf]; exact quote_nl w
    | w' :: ws, ih =>
      simp only [lineOf, List.mem_append, List.mem_cons]
      rintro (h | h | h)
      · exact quote_nl w h
      · exact absurd h (by decide)
      · exact ih h
theorem index_none (l : List UInt8) (h : (10 : UInt8) ∉ l) : ¬ 0 ≤ Lib.indexByte l 10 := by
  intro h0
  obtain ⟨o, ho⟩ := Int.eq_ofNat_of_zero_le h0
  obtain ⟨e, _⟩ := Lib.indexByte_some ho
  exact h (List.mem_of_getElem? e)

theorem words_line (ws : List (List UInt8)) (h : (lineOf ws).length ≤ 8192) : wordsOf (lineOf ws) = (ws, 0) := by
  unfold wordsOf
  rw [if_neg (by omega), if_neg (index_none _ (line_nl ws)), wread_line ws [] _ (by omega)]
  simp
theorem words_quote (w : List UInt8) (h : (quoteOf w).length ≤ 8192) : wordsOf (quoteOf w) = ([w], 0) := words_line [w] h
theorem words_long (l : List UInt8) (h : 8192 < l.length) : wordsOf l = ([], 2) := by unfold wordsOf; rw [if_pos h]

/-! What the law lays. -/
def laidStep (L : List UInt8) (i : Nat) (q : List UInt8) : List UInt8 := if L.length ≤ 100000 then (if 0 < i then L ++ [32] else L) ++ q.take 100000 else L
def laidOf : List (List UInt8) → Nat → List UInt8 → List UInt8
  | [], _, L => L
  | w :: ws, i, L => laidOf ws (i + 1) (laidStep L i (quoteOf w))
theorem step_len (L : List UInt8) (i : Nat) (q : List UInt8) : L.length ≤ (laidStep L i q).length := by
  unfold laidStep
  split
  · split <;> simp only [List.length_append, List.length_cons] <;> omega
  · omega
theorem laid_len : ∀ (ws : List (List UInt8)) (i : Nat) (L : List UInt8), L.length ≤ (laidOf ws i L).length := by
  intro ws
  induction ws with
  | nil => intro i L; exact Nat.le_refl _
  | cons w ws ih => intro i L; exact Nat.le_trans (step_len L i _) (ih _ _)
theorem laid_snoc : ∀ (ws : List (List UInt8)) (w : List UInt8) (i : Nat) (L : List UInt8), laidOf (ws ++ [w]) i L = laidStep (laidOf ws i L) (i + ws.length) (quoteOf w) := by
  intro ws
  induction ws with
  | nil => intro w i L; rfl
  | cons v ws ih =>
    intro w i L
    simp only [List.cons_append, laidOf, ih, List.length_cons]
    congr 1
    omega
theorem step_short (L : List UInt8) (i : Nat) (q : List UInt8) (h : (laidStep L i q).length ≤ 8192) : laidStep L i q = (if 0 < i then L ++ [32] else L) ++ q := by
  unfold laidStep at h ⊢
  by_cases hl : L.length ≤ 100000
  · rw [if_pos hl] at h ⊢
    simp only [List.length_append, List.length_take] at h
    rw [List.take_of_length_le (by omega)]
  · rw [if_neg hl] at h
    omega
theorem laid_line : ∀ (ws : List (List UInt8)) (i : Nat) (L : List UInt8), (laidOf ws i L).length ≤ 8192 → laidOf ws i L = L ++ (if 0 < i ∧ ws ≠ [] then [32] else []) ++ lineOf ws := by
  intro ws
  induction ws with
  | nil => intro i L _; simp [laidOf, lineOf]
  | cons w ws ih =>
    intro i L h
    simp only [laidOf] at h ⊢
    have h1 := laid_len ws (i + 1) (laidStep L i (quoteOf w))
    rw [ih _ _ h, step_short _ _ _ (by omega)]
    match ws with
    | [] => by_cases hi : 0 < i <;> simp [lineOf, hi]
    | w' :: ws => by_cases hi : 0 < i <;> simp [lineOf, hi]
theorem laid_words (ws : List (List UInt8)) (h : (laidOf ws 0 []).length ≤ 8192) : wordsOf (laidOf ws 0 []) = (ws, 0) := by
  have e : laidOf ws 0 [] = lineOf ws := by
    have := laid_line ws 0 [] h
    simpa using this
  rw [e] at h ⊢
  exact words_line ws h
end Go.Proofs.Ytgnifglolbfamaa
