/- The walk of shell.Quote. -/
import Derived.Test.YtgikkibiinanjaaDoorShC
set_option linter.unusedVariables false
set_option linter.unusedSimpArgs false
namespace Go.Proofs.YtgikkibiinanjaaDoor
open Go.RowKit

def okc (c : UInt8) : Bool := decide (33 ≤ c.toNat) && (decide (c.toNat ≤ 126) && decide (c.toNat ≠ 34))
def bare0 : List UInt8 → Bool
  | [] => false
  | c :: _ => decide (c.toNat ≠ 35)
def isBare (l : List UInt8) : Bool := bare0 l && l.all okc
def hexd (n : Nat) : UInt8 := ([48, 49, 50, 51, 52, 53, 54, 55, 56, 57, 97, 98, 99, 100, 101, 102] : List UInt8).getD n 0
def qbyte (c : UInt8) : List UInt8 :=
  if c.toNat = 34 ∨ c.toNat = 92 then [92, c]
  else if c.toNat = 10 then [92, 110]
  else if c.toNat = 9 then [92, 116]
  else if c.toNat < 32 ∨ 126 < c.toNat then [92, 120, hexd (c.toNat / 16), hexd (c.toNat % 16)]
  else [c]
def quoteOf (l : List UInt8) : List UInt8 := if isBare l then l else 34 :: l.flatMap qbyte ++ [34]

theorem qbyte_len (c : UInt8) : (qbyte c).length ≤ 4 := by unfold qbyte; (repeat' split) <;> simp
theorem flat_len (l : List UInt8) : (l.flatMap qbyte).length ≤ 4 * l.length := by
  induction l with
  | nil => simp
  | cons c r ih => have := qbyte_len c; simp only [List.flatMap_cons, List.length_append, List.length_cons]; omega
theorem take_succ (s : ByteArray) (k : Nat) (h : k < s.size) : s.data.toList.take (k + 1) = s.data.toList.take k ++ [s[k]] := by
  obtain ⟨h', e⟩ := get_list s k h
  rw [e, List.take_succ_eq_append_getElem]
theorem take_all (s : ByteArray) (k : Nat) (h : s.size ≤ k) : s.data.toList.take k = s.data.toList := List.take_of_length_le (by rw [Array.length_toList]; exact h)

theorem bare0_facts (s : ByteArray) : (bare0 s.data.toList = false ∧ s.toList.isEmpty = true) ∨ (s.toList.isEmpty = false ∧ ∃ h : 0 < s.size, bare0 s.data.toList = !decide (s[0].toNat = 35)) := by
  rcases hl : s.data.toList with _ | ⟨c, r⟩
  · exact Or.inl ⟨rfl, by rw [Lib.toList_data, hl]; rfl⟩
  · obtain ⟨e0, z, e⟩ := cons_facts hl
    exact Or.inr ⟨e0, by omega, by rw [e]; simp [bare0]⟩

/-- The first loop, from its head on: what it comes to. -/
def B1 (s : ByteArray) (k : Nat) : Bool := bare0 s.data.toList && (s.data.toList.take k).all okc
theorem B1_succ (s : ByteArray) (k : Nat) (h : k < s.size) : B1 s (k + 1) = (B1 s k && okc s[k]) := by
  unfold B1
  rw [take_succ s k h, List.all_append, Bool.and_assoc]
  simp

theorem okc_cases (c : UInt8) : (decide (33 ≤ (c.toNat : Int)) = false ∧ okc c = false) ∨ (decide (33 ≤ (c.toNat : Int)) = true ∧ decide ((c.toNat : Int) ≤ 126) = false ∧ okc c = false) ∨
    (decide (33 ≤ (c.toNat : Int)) = true ∧ decide ((c.toNat : Int) ≤ 126) = true ∧ okc c = ((c.toNat : Int) != 34)) := by
  by_cases h1 : 33 ≤ c.toNat
  · by_cases h2 : c.toNat ≤ 126
    · refine Or.inr (Or.inr ⟨by simp; omega, by simp; omega, ?_⟩)
      rw [Bool.eq_iff_iff]; simp [okc]; omega
    · exact Or.inr (Or.inl ⟨by simp; omega, by simp; omega, by simp [okc]; omega⟩)
  · exact Or.inl ⟨by simp; omega, by simp [okc]; omega⟩

theorem qcases (c : UInt8) :
    (((c.toNat : Int) == 34) = true ∧ qbyte c = [92, c]) ∨
    (((c.toNat : Int) == 34) = false ∧ ((c.toNat : Int) == 92) = true ∧ qbyte c = [92, c]) ∨
    (((c.toNat : Int) == 34) = false ∧ ((c.toNat : Int) == 92) = false ∧ ((c.toNat : Int) == 10) = true ∧ qbyte c = [92, 110]) ∨
    (((c.toNat : Int) == 34) = false ∧ ((c.toNat : Int) == 92) = false ∧ ((c.toNat : Int) == 10) = false ∧ ((c.toNat : Int) == 9) = true ∧ qbyte c = [92, 116]) ∨
    (((c.toNat : Int) == 34) = false ∧ ((c.toNat : Int) == 92) = false ∧ ((c.toNat : Int) == 10) = false ∧ ((c.toNat : Int) == 9) = false ∧ decide ((c.toNat : Int) < 32) = true ∧ qbyte c = [92, 120, hexd (c.toNat / 16), hexd (c.toNat % 16)]) ∨
    (((c.toNat : Int) == 34) = false ∧ ((c.toNat : Int) == 92) = false ∧ ((c.toNat : Int) == 10) = false ∧ ((c.toNat : Int) == 9) = false ∧ decide ((c.toNat : Int) < 32) = false ∧ decide (126 < (c.toNat : Int)) = true ∧ qbyte c = [92, 120, hexd (c.toNat / 16), hexd (c.toNat % 16)]) ∨
    (((c.toNat : Int) == 34) = false ∧ ((c.toNat : Int) == 92) = false ∧ ((c.toNat : Int) == 10) = false ∧ ((c.toNat : Int) == 9) = false ∧ decide ((c.toNat : Int) < 32) = false ∧ decide (126 < (c.toNat : Int)) = false ∧ qbyte c = [c]) := by
  simp only [beq_iff_eq, beq_eq_false_iff_ne, decide_eq_true_eq, decide_eq_false_iff_not]
  unfold qbyte
  by_cases h1 : c.toNat = 34
  · exact Or.inl ⟨by omega, by simp [h1]⟩
  refine Or.inr ?_
  by_cases h2 : c.toNat = 92
  · exact Or.inl ⟨by omega, by omega, by simp [h2]⟩
  refine Or.inr ?_
  rw [if_neg (by omega)]
  by_cases h3 : c.toNat = 10
  · exact Or.inl ⟨by omega, by omega, by omega, by simp [h3]⟩
  refine Or.inr ?_
  rw [if_neg h3]
  by_cases h4 : c.toNat = 9
  · exact Or.inl ⟨by omega, by omega, by omega, by omega, by simp [h4]⟩
  refine Or.inr ?_
  rw [if_neg h4]
  by_cases h5 : c.toNat < 32
  · exact Or.inl ⟨by omega, by omega, by omega, by omega, by omega, by rw [if_pos (Or.inl h5)]⟩
  refine Or.inr ?_
  by_cases h6 : 126 < c.toNat
  · exact Or.inl ⟨by omega, by omega, by omega, by omega, by omega, by omega, by rw [if_pos (Or.inr h6)]⟩
  · exact Or.inr ⟨by omega, by omega, by omega, by omega, by omega, by omega, by rw [if_neg (by omega)]⟩
theorem bc2 (bs : List Value) (a b : UInt8) : bs ++ Lib.byteCells [a, b] = bs ++ [.int .u8 a.toNat] ++ [.int .u8 b.toNat] := by simp [Lib.byteCells]
theorem bc4 (bs : List Value) (a b c d : UInt8) : bs ++ Lib.byteCells [a, b, c, d] = bs ++ Lib.strCells ⟨#[a, b]⟩ ++ [.int .u8 c.toNat] ++ [.int .u8 d.toNat] := by simp [Lib.byteCells, Lib.strCells]
theorem hexd_get (n : Nat) (h : n < (⟨#[48, 49, 50, 51, 52, 53, 54, 55, 56, 57, 97, 98, 99, 100, 101, 102]⟩ : ByteArray).size) : (⟨#[48, 49, 50, 51, 52, 53, 54, 55, 56, 57, 97, 98, 99, 100, 101, 102]⟩ : ByteArray)[n] = hexd n := by
  have : ∀ n : Fin 16, (⟨#[48, 49, 50, 51, 52, 53, 54, 55, 56, 57, 97, 98, 99, 100, 101, 102]⟩ : ByteArray)[n.1]'(n.2) = hexd n := by decide
  exact this ⟨n, h⟩
theorem flat_succ (s : ByteArray) (k : Nat) (h : k < s.size) : Lib.byteCells (34 :: (s.data.toList.take (k + 1)).flatMap qbyte) = Lib.byteCells (34 :: (s.data.toList.take k).flatMap qbyte) ++ Lib.byteCells (qbyte s[k]) := by
  rw [take_succ s k h, ← Lib.byteCells_append]
  simp

set_option maxHeartbeats 1000000 in
set_option maxRecDepth 100000 in
theorem quote_any (s : ByteArray) (w : World) (hs : s.size ≤ 1000000000000) :
    Calls Tryd.prog 11 #[.string s] w fun e w' => e = .returned (.string ⟨(quoteOf s.data.toList).toArray⟩) ∧ Below w.heap.size w w' := by
  have hstart : ∃ b, Hid (b = B1 s 0) ∧ ((b = false ∧ s.toList.isEmpty = true) ∨ (s.toList.isEmpty = false ∧ ∃ h : 0 < s.size, ((s[0].toNat : Int) != 35) = b)) := by
    rcases bare0_facts s with ⟨h, e⟩ | ⟨e, h, f⟩
    · exact ⟨false, Lib.hid (by simp [B1, h]), Or.inl ⟨rfl, e⟩⟩
    · exact ⟨_, Lib.hid (by simp only [B1, f, List.take_zero, List.all_nil, Bool.and_true]; rw [Bool.eq_iff_iff]; simp; omega), Or.inr ⟨e, h, rfl⟩⟩
  obtain ⟨b, HB, hst⟩ := hstart
  have hst' : ((b = false ∧ s.toList.isEmpty = true) ∨ (b = false ∧ s.toList.isEmpty = false ∧ ∃ h : 0 < s.size, ((s[0].toNat : Int) != 35) = false)) ∨ (b = true ∧ s.toList.isEmpty = false ∧ ∃ h : 0 < s.size, ((s[0].toNat : Int) != 35) = true) := by
    rcases hst with ⟨h, e⟩ | ⟨e, h, f⟩
    · exact Or.inl (Or.inl ⟨h, e⟩)
    · cases b
      · exact Or.inl (Or.inr ⟨rfl, e, h, f⟩)
      · exact Or.inr ⟨rfl, e, h, f⟩
  clear hst
  rcases hst' with (⟨rfl, he⟩ | ⟨rfl, he, h0, hb⟩) | ⟨rfl, he, h0, hb⟩
  all_goals
    go_enter Tryd.func11, Tryd.ntmps11
    go_wp2_with fail
    go_loop [3, 4, 17] (fun t3 _ t17 => ∃ (k : Nat) (b : Bool), k ≤ s.size ∧ t17 = .int .i64 k ∧ t3 = .bool b ∧ Hid (b = B1 s k)) (fun _ _ t17 => s.size - (intOf t17).toNat)
    case atStart => exact ⟨0, _, by omega, rfl, rfl, HB⟩
    case round =>
      clear HB
      obtain ⟨k, b, hk, rfl, rfl, hb1⟩ := hrel
      by_cases hlt : k < s.size
      · have HB := Lib.hid (B1_succ s k hlt)
        cases b
        · go_wp2_with fail
          go_round
          case rel => exact ⟨k + 1, false, by omega, by go_num, rfl, Lib.hid (by rw [HB.out, ← hb1.out]; rfl)⟩
          case measure => first | (simp [intOf]; omega) | (simp only [intOf]; omega)
        · have hk3 : s[k].toNat < 256 := s[k].toNat_lt
          rcases okc_cases s[k] with ⟨a1, e⟩ | ⟨a1, a2, e⟩ | ⟨a1, a2, e⟩
          all_goals
            have HE := Lib.hid e
            clear e
            go_wp2_with fail
            go_round
            case rel => exact ⟨k + 1, _, by omega, by go_num, rfl, Lib.hid (by rw [HB.out, ← hb1.out, HE.out]; rfl)⟩
            case measure => first | (simp [intOf]; omega) | (simp only [intOf]; omega)
      · obtain rfl : k = s.size := by omega
        have HQ : Hid (b = isBare s.data.toList) := Lib.hid (by rw [hb1.out, B1, take_all s _ (Nat.le_refl _)]; rfl)
        clear hb1
        cases b
        · go_wp2_with fail
          refine (Builder_WriteByte w.heap.size w.heap.size (Lib.byteCells []) _ _ (by exact Lib.fresh_isBuilder 43 5 w) (by simp [Lib.byteCells]) (by simp)).mono ?_
          rintro e w1 ⟨rfl, hI0, hb0⟩
          have hB0 : Below w.heap.size w w1 := ((Below.refl _ _).alloc (Nat.le_refl _) _).trans hb0
          clear hb0
          go_wp2_with fail
          go_loopw [6, 7, 45] (fun _ _ t45 wr => ∃ (k : Nat), k ≤ s.size ∧ t45 = .int .i64 k ∧ Lib.BuilderAt 43 5 w.heap.size w.heap.size (.pointer (some ⟨w.heap.size, 0, none⟩)) (Lib.byteCells (34 :: (s.data.toList.take k).flatMap qbyte)) wr ∧ Below w.heap.size w wr) (fun _ _ t45 wr => s.size - (intOf t45).toNat)
          case atStart => exact ⟨0, by omega, rfl, hI0, hB0⟩
          case round =>
            clear hI0 hB0
            obtain ⟨k, hk, rfl, hI, hB⟩ := hrel
            have hsz := hB.size
            by_cases hlt : k < s.size
            · have HT := Lib.hid (flat_succ s k hlt)
              have hfl := flat_len (s.data.toList.take k)
              have htl : (s.data.toList.take k).length ≤ k := List.length_take_le _ _
              have hbl : (Lib.byteCells (34 :: (s.data.toList.take k).flatMap qbyte)).length ≤ 4 * k + 1 := by rw [Lib.byteCells_length, List.length_cons]; omega
              generalize hbs : Lib.byteCells (34 :: (s.data.toList.take k).flatMap qbyte) = bs at *
              clear hbs hfl htl
              have hc := s[k].toNat_lt
              rcases qcases s[k] with ⟨e1, q⟩ | ⟨e1, e2, q⟩ | ⟨e1, e2, e3, q⟩ | ⟨e1, e2, e3, e4, q⟩ | ⟨e1, e2, e3, e4, e5, q⟩ | ⟨e1, e2, e3, e4, e5, e6, q⟩ | ⟨e1, e2, e3, e4, e5, e6, q⟩
              all_goals
                have HQ2 := Lib.hid q
                clear q
                go_wp2_with fail
              iterate 2
                · refine (Builder_WriteByte w.heap.size w.heap.size bs _ _ (Or.inr hI) (by omega) (by omega)).mono ?_
                  rintro e w1 ⟨rfl, hI1, hb1⟩
                  have hs1 := hb1.size
                  go_wp2_with fail
                  refine (Builder_WriteByte w.heap.size w.heap.size _ _ _ (Or.inr hI1) (by first | omega | (simp; omega) | (simp [Lib.strCells]; omega)) (by omega)).mono ?_
                  rintro e w2 ⟨rfl, hI2, hb2⟩
                  go_wp2_with fail
                  go_roundw
                  case rel => exact ⟨k + 1, by omega, by go_num, by rw [HT.out, HQ2.out, bc2]; exact hI2, (hB.trans hb1).trans hb2⟩
                  case measure => first | (simp [intOf]; omega) | (simp only [intOf]; omega)
              iterate 2
                · refine (Builder_WriteString w.heap.size w.heap.size bs ⟨#[92, _]⟩ _ (Or.inr hI) (by show bs.length + 2 ≤ _; omega) (by omega)).mono ?_
                  rintro e w1 ⟨rfl, hI1, hb1⟩
                  go_wp2_with fail
                  go_roundw
                  case rel => exact ⟨k + 1, by omega, by go_num, by rw [HT.out, HQ2.out]; exact hI1, (hB.trans hb1)⟩
                  case measure => first | (simp [intOf]; omega) | (simp only [intOf]; omega)
              iterate 2
                · refine (Builder_WriteString w.heap.size w.heap.size bs ⟨#[92, _]⟩ _ (Or.inr hI) (by show bs.length + 2 ≤ _; omega) (by omega)).mono ?_
                  rintro e w1 ⟨rfl, hI1, hb1⟩
                  have hs1 := hb1.size
                  go_wp2_with fail
                  refine (Builder_WriteByte w.heap.size w.heap.size _ _ _ (Or.inr hI1) (by simp [Lib.strCells]; omega) (by omega)).mono ?_
                  rintro e w2 ⟨rfl, hI2, hb2⟩
                  have hs2 := hb2.size
                  go_wp2_with fail
                  refine (Builder_WriteByte w.heap.size w.heap.size _ _ _ (Or.inr hI2) (by simp [Lib.strCells]; omega) (by omega)).mono ?_
                  rintro e w3 ⟨rfl, hI3, hb3⟩
                  go_wp2_with fail
                  go_roundw
                  case rel => exact ⟨k + 1, by omega, by go_num, by rw [HT.out, HQ2.out, bc4]; simp only [hexd_get] at hI3; exact hI3, ((hB.trans hb1).trans hb2).trans hb3⟩
                  case measure => first | (simp [intOf]; omega) | (simp only [intOf]; omega)
              · refine (Builder_WriteByte w.heap.size w.heap.size bs _ _ (Or.inr hI) (by omega) (by omega)).mono ?_
                rintro e w1 ⟨rfl, hI1, hb1⟩
                go_wp2_with fail
                go_roundw
                case rel => exact ⟨k + 1, by omega, by go_num, by rw [HT.out, HQ2.out]; exact hI1, (hB.trans hb1)⟩
                case measure => first | (simp [intOf]; omega) | (simp only [intOf]; omega)
            · obtain rfl : k = s.size := by omega
              go_wp2_with fail
              have hfl := flat_len (s.data.toList.take s.size)
              have htl : (s.data.toList.take s.size).length ≤ s.size := List.length_take_le _ _
              refine (Builder_WriteByte w.heap.size w.heap.size _ _ _ (Or.inr hI) (by simp [Lib.byteCells_length] at *; omega) (by omega)).mono ?_
              rintro e w2 ⟨rfl, hI2, hb2⟩
              go_wp2_with fail
              refine (Tryd.Builder_String_any w.heap.size w.heap.size (34 :: (s.data.toList.take s.size).flatMap qbyte ++ [34]) _ (by rw [Lib.byteCells_append]; exact Or.inr hI2) (by have := hb2.size; omega)).mono ?_
              rintro e w3 ⟨rfl, hb3⟩
              go_wp2_with fail
              go_ret
              refine ⟨?_, (hB.trans hb2).trans hb3⟩
              rw [quoteOf, ← HQ.out, take_all s _ (Nat.le_refl _)]
              rfl
        · go_wp2_with fail
          go_ret
          refine ⟨?_, Below.refl _ _⟩
          rw [quoteOf, ← HQ.out]
          rfl
end Go.Proofs.YtgikkibiinanjaaDoor
