/- The reference's Quote. -/
import Derived.Test.YtgnifglolbfamaaShG
set_option linter.unusedVariables false
set_option linter.unusedSimpArgs false
namespace Go.Proofs.Ytgnifglolbfamaa
open Go.RowKit

theorem own_lit (W : World) (base : Nat) (ys : Array Value) (hb : base ≤ W.heap.size) (hm : ys.size ≤ maxLen) (hys : ∀ u ∈ ys.toList, u.oneCell' = true) : (W.alloc (.cells ys 5)).ownsRow base 5 1 (.slice (some ⟨W.heap.size, 0, none⟩) ys.size ys.size) ys.size ys.toList := by
  exact ⟨by simp, .inr ⟨W.heap.size, ys.size, ys, rfl, hb, heap_alloc_new W _, Nat.le_refl _, hm, by simp, by rw [Nat.mul_one, ← Array.length_toList, List.take_length]⟩⟩

theorem one_cell2 (m n : Int) : ∀ u ∈ (#[Value.int .u8 m, Value.int .u8 n] : Array Value).toList, u.oneCell' = true := by simp [Value.oneCell']
theorem one_cell4 (m n a b : Int) : ∀ u ∈ (#[Value.int .u8 m, Value.int .u8 n, Value.int .u8 a, Value.int .u8 b] : Array Value).toList, u.oneCell' = true := by simp [Value.oneCell']
/-- A row of bytes of the call's own, its length not named. -/
def OwnB (w : World) (base : Nat) (v : Value) (xs : List Value) : Prop := w.ownsRow base 5 1 v xs.length xs
theorem own_cast {w : World} {base : Nat} {v : Value} {xs ys : List Value} {n : Nat} (h : w.ownsRow base 5 1 v n (xs ++ ys)) : OwnB w base v (xs ++ ys) := by
  have : n = (xs ++ ys).length := by rw [h.1]; omega
  rw [this] at h; exact h
theorem own_bytes {w : World} {base : Nat} {v : Value} {l : List UInt8} {n : Nat} (h : w.ownsRow base 5 1 v n (Lib.byteCells l ++ [Value.int .u8 34])) : w.ownsRow base 5 1 v (l ++ [34]).length (Lib.byteCells (l ++ [34])) := by
  have e : Lib.byteCells (l ++ [34]) = Lib.byteCells l ++ [Value.int .u8 34] := by rw [Lib.byteCells_append]; rfl
  rw [e]
  have := own_cast h
  unfold OwnB at this
  have e2 : (Lib.byteCells l ++ [Value.int .u8 34]).length = (l ++ [34]).length := by simp [Lib.byteCells_length]
  rw [← e2]; exact this
theorem bcases (b : Bool) (c : UInt8) : (b = false ∧ (b && okc c) = false) ∨ (b = true ∧ decide (33 ≤ (c.toNat : Int)) = false ∧ (b && okc c) = false) ∨
    (b = true ∧ decide (33 ≤ (c.toNat : Int)) = true ∧ decide ((c.toNat : Int) ≤ 126) = false ∧ (b && okc c) = false) ∨
    (b = true ∧ decide (33 ≤ (c.toNat : Int)) = true ∧ decide ((c.toNat : Int) ≤ 126) = true ∧ (b && okc c) = ((c.toNat : Int) != 34)) := by
  cases b
  · exact Or.inl ⟨rfl, rfl⟩
  · rcases okc_cases c with ⟨h1, h2⟩ | ⟨h1, h2, h3⟩ | ⟨h1, h2, h3⟩
    · exact Or.inr (Or.inl ⟨rfl, h1, by rw [h2]; rfl⟩)
    · exact Or.inr (Or.inr (Or.inl ⟨rfl, h1, h2, by rw [h3]; rfl⟩))
    · exact Or.inr (Or.inr (Or.inr ⟨rfl, h1, h2, by rw [h3]; rfl⟩))

set_option maxHeartbeats 2000000 in
set_option maxRecDepth 100000 in
theorem rquote_any (s : ByteArray) (w : World) (hs : s.size ≤ 1000000000000) :
    Calls Try.prog 34 #[.string s] w fun e w' => e = .returned (.string ⟨(quoteOf s.data.toList).toArray⟩) ∧ Below w.heap.size w w' := by
  have hst : (Hid (false = B1 s 0) ∧ s.size = 0) ∨ (∃ h : 0 < s.size, Hid (((s[0].toNat : Int) != 35) = B1 s 0)) := by
    rcases bare0_facts s with ⟨h, e⟩ | ⟨e, h, f⟩
    · refine Or.inl ⟨Lib.hid (by simp [B1, h]), ?_⟩
      rw [Lib.toList_data] at e
      have : s.data.toList.length = s.size := by rw [Array.length_toList]; rfl
      rw [← this, List.isEmpty_iff.1 e]; rfl
    · exact Or.inr ⟨h, Lib.hid (by simp only [B1, f, List.take_zero, List.all_nil, Bool.and_true]; rw [Bool.eq_iff_iff]; simp; omega)⟩
  rcases hst with ⟨HB, hz⟩ | ⟨h0, HB⟩
  all_goals
    go_enter Try.func34, Try.ntmps34
    go_wp2_with fail
    go_loopw [3, 4, 6, 7] (fun t3 t4 t6 _ wr => ∃ (k : Nat) (b : Bool), k ≤ s.size ∧ t6 = .int .i64 k ∧ t3 = .bool b ∧ Hid (b = B1 s k) ∧ OwnB wr w.heap.size t4 (Lib.byteCells (34 :: (s.data.toList.take k).flatMap qbyte)) ∧ Below w.heap.size w wr) (fun _ _ t6 _ wr => s.size - (intOf t6).toNat)
    case atStart => exact ⟨0, _, by omega, rfl, rfl, HB, own_lit w w.heap.size #[.int .u8 34] (Nat.le_refl _) (by simp [maxLen]) (one_cell1 _), (Below.refl _ _).alloc (Nat.le_refl _) _⟩
    case round =>
      clear HB
      try clear hz
      obtain ⟨k, b, hk, rfl, rfl, hb1, hO, hB⟩ := hrel
      have hsz := hB.size
      by_cases hlt : k < s.size
      · have HT := Lib.hid (flat_succ s k hlt)
        have hfl := flat_len (s.data.toList.take k)
        have htl : (s.data.toList.take k).length ≤ k := List.length_take_le _ _
        have hbl : (Lib.byteCells (34 :: (s.data.toList.take k).flatMap qbyte)).length ≤ 4 * k + 1 := by rw [Lib.byteCells_length, List.length_cons]; omega
        generalize hbs : Lib.byteCells (34 :: (s.data.toList.take k).flatMap qbyte) = bs at *
        clear hbs hfl htl
        have hc := s[k].toNat_lt
        have hB1 := B1_succ s k hlt
        rw [← hb1.out] at hB1
        rcases bcases b s[k] with ⟨rfl, q0⟩ | ⟨rfl, a1, q0⟩ | ⟨rfl, a1, a2, q0⟩ | ⟨rfl, a1, a2, q0⟩
        all_goals
          rw [q0] at hB1
          have HN := Lib.hid hB1.symm
          clear hB1 q0 hb1
          rcases qcases s[k] with ⟨e1, q⟩ | ⟨e1, e2, q⟩ | ⟨e1, e2, e3, q⟩ | ⟨e1, e2, e3, e4, q⟩ | ⟨e1, e2, e3, e4, e5, q⟩ | ⟨e1, e2, e3, e4, e5, e6, q⟩ | ⟨e1, e2, e3, e4, e5, e6, q⟩
          all_goals
            have HQ2 := Lib.hid q
            clear q
          iterate 2
            · have hlen : bs.length + #[Value.int .u8 92, Value.int .u8 s[k].toNat].size ≤ 140737488355328 := by show bs.length + 2 ≤ _; omega
              go_wp2_with (at_builtin; go_must (refine app_bytes (W := wr) (w0 := w) w.heap.size (by rfl) _ _ (by rfl) _ bs #[.int .u8 92, .int .u8 s[k].toNat] (one_cell2 _ _) (by rfl) (by rfl) hO hB hsz hlen ?_))
              intro v1 w1 HO2 hB2
              go_wp2_with fail
              go_roundw
              case rel => exact ⟨k + 1, _, by omega, by go_num, rfl, HN, by rw [HT.out, HQ2.out]; exact own_cast HO2.out, hB2⟩
              case measure => simp [intOf]; omega
          iterate 2
            · go_wp2_with (at_builtin; go_must (refine app_bytes (W := wr) (w0 := w) w.heap.size (by rfl) _ _ (by rfl) _ bs #[.int .u8 92, .int .u8 _] (one_cell2 _ _) (by rfl) (by rfl) hO hB hsz (by show bs.length + 2 ≤ _; omega) ?_))
              intro v1 w1 HO2 hB2
              go_wp2_with fail
              go_roundw
              case rel => exact ⟨k + 1, _, by omega, by go_num, rfl, HN, by rw [HT.out, HQ2.out]; exact own_cast HO2.out, hB2⟩
              case measure => simp [intOf]; omega
          iterate 2
            · have hlen : bs.length + #[Value.int .u8 92, Value.int .u8 120, Value.int .u8 (hexd (s[k].toNat / 16)).toNat, Value.int .u8 (hexd (s[k].toNat % 16)).toNat].size ≤ 140737488355328 := by show bs.length + 4 ≤ _; omega
              have W1 : IntKind.u8.wrap ((s[k].toNat : Int) / 16) = (s[k].toNat : Int) / 16 := IntWalk.u8_in _ (by omega)
              have W2 : IntKind.u8.wrap ((s[k].toNat : Int) % 16) = (s[k].toNat : Int) % 16 := IntWalk.u8_in _ (by omega)
              have W2b : (s[k].toNat : Int).tmod 16 = (s[k].toNat : Int) % 16 := by rw [Int.tmod_eq_emod_of_nonneg (by omega)]
              have W7 : (0 : Int) ≤ (s[k].toNat : Int) / 16 := by omega
              have W8 : (0 : Int) ≤ (s[k].toNat : Int) % 16 := by omega
              have W3 : (s[k].toNat : Int) / 16 < 16 := by omega
              have W4 : (s[k].toNat : Int) % 16 < 16 := by omega
              have W5 : ((s[k].toNat : Int) / 16).toNat = s[k].toNat / 16 := by omega
              have W6 : ((s[k].toNat : Int) % 16).toNat = s[k].toNat % 16 := by omega
              have G1 := hexd_get (s[k].toNat / 16)
              have G2 := hexd_get (s[k].toNat % 16)
              go_wp2_with fail
              go_region_held3 (fun w' => True) (trivial) ((refine step_bytes (W := wr) (w0 := w) w.heap.size (by rfl) _ _ (by rfl) _ bs #[.int .u8 92, .int .u8 120, .int .u8 (hexd (s[k].toNat / 16)).toNat, .int .u8 (hexd (s[k].toNat % 16)).toNat] (one_cell4 _ _ _ _) (Nat.zero_lt_succ _) (by rfl) (by rfl) hO hB hsz hlen ?_; intro v1 w1 HO2 hB2))
              all_goals
                clear W1 W2 W2b W3 W4
                go_wp2_with fail
                go_roundw
                case rel => exact ⟨k + 1, _, by omega, by go_num, rfl, HN, by rw [HT.out, HQ2.out]; exact own_cast HO2.out, hB2⟩
                case measure => simp [intOf]; omega
          · go_wp2_with (at_builtin; go_must (refine app_bytes (W := wr) (w0 := w) w.heap.size (by rfl) _ _ (by rfl) _ bs #[.int .u8 s[k].toNat] (one_cell1 _) (by rfl) (by rfl) hO hB hsz (by show bs.length + 1 ≤ _; omega) ?_))
            intro v1 w1 HO2 hB2
            go_wp2_with fail
            go_roundw
            case rel => exact ⟨k + 1, _, by omega, by go_num, rfl, HN, by rw [HT.out, HQ2.out]; exact own_cast HO2.out, hB2⟩
            case measure => simp [intOf]; omega
      · obtain rfl : k = s.size := by omega
        have HQ : Hid (b = isBare s.data.toList) := Lib.hid (by rw [hb1.out, B1, take_all s _ (Nat.le_refl _)]; rfl)
        clear hb1
        have hfl := flat_len (s.data.toList.take s.size)
        have htl : (s.data.toList.take s.size).length ≤ s.size := List.length_take_le _ _
        have hbl : (Lib.byteCells (34 :: (s.data.toList.take s.size).flatMap qbyte)).length ≤ 4 * s.size + 1 := by rw [Lib.byteCells_length, List.length_cons]; omega
        cases b
        · go_wp2_with (at_builtin; go_must (refine app_bytes (W := wr) (w0 := w) w.heap.size (by rfl) _ _ (by rfl) _ (Lib.byteCells (34 :: (s.data.toList.take s.size).flatMap qbyte)) #[.int .u8 34] (one_cell1 _) (by rfl) (by rfl) hO hB hsz (by show (Lib.byteCells (34 :: (s.data.toList.take s.size).flatMap qbyte)).length + 1 ≤ _; omega) ?_))
          intro v1 w1 HO2 hB2
          have hcv := conv_own (acc := 34 :: (s.data.toList.take s.size).flatMap qbyte ++ [34]) (own_bytes HO2.out)
          go_wp2_with fail
          go_ret
          refine ⟨?_, hB2⟩
          rw [quoteOf, ← HQ.out, take_all s _ (Nat.le_refl _)]
          rfl
        · go_wp2_with fail
          go_ret
          refine ⟨?_, hB⟩
          rw [quoteOf, ← HQ.out]
          rfl
end Go.Proofs.Ytgnifglolbfamaa
