/- The reference's Words. -/
import Derived.Test.YtgnifglolbfamaaShF
set_option linter.unusedVariables false
set_option linter.unusedSimpArgs false
namespace Go.Proofs.Ytgnifglolbfamaa
open Go.RowKit

theorem nl_none (s : ByteArray) (h : ∀ i (hi : i < s.size), s[i].toNat ≠ 10) : ¬ 0 ≤ Lib.indexByte s.data.toList 10 := by
  intro h0
  obtain ⟨o, ho⟩ := Int.eq_ofNat_of_zero_le h0
  obtain ⟨e, _⟩ := Lib.indexByte_some ho
  obtain ⟨hi, e⟩ := List.getElem?_eq_some_iff.1 e
  have hi' : o < s.size := by rw [Array.length_toList] at hi; exact hi
  obtain ⟨_, g⟩ := get_list s o hi'
  exact h o hi' (by rw [g, e]; rfl)
theorem nl_some (s : ByteArray) (i : Nat) (hi : i < s.size) (h : s[i].toNat = 10) : 0 ≤ Lib.indexByte s.data.toList 10 := by
  have h1 := Lib.indexByte_ge s.data.toList 10
  rcases Int.lt_or_le (Lib.indexByte s.data.toList 10) 0 with h0 | h0
  · exfalso
    have e : Lib.indexByte s.data.toList 10 = -1 := by omega
    obtain ⟨g1, g⟩ := get_list s i hi
    refine Lib.indexByte_none e i ?_
    rw [List.getElem?_eq_getElem g1, ← g]
    congr 1
    exact UInt8.toNat_inj.1 h
  · exact h0

set_option maxRecDepth 100000 in
set_option maxHeartbeats 1000000 in
theorem rwords_any (s : ByteArray) (w : World) : Calls Try.prog 31 #[.string s] w (WPost (wordsOf s.data.toList) w) := by
  have hlen : s.data.toList.length = s.size := by rw [Array.length_toList]; rfl
  by_cases hl : 8192 < s.size
  · have h1 : wordsOf s.data.toList = ([], 2) := by unfold wordsOf; rw [hlen, if_pos hl]
    rw [h1]
    clear h1 hlen
    go_enter Try.func31, Try.ntmps31
    go_wp2_with fail
    go_ret2
    exact ⟨Below.refl _ _, _, rfl, World.ownsRow_nil _ _ _ _⟩
  · have hl' : s.size ≤ 8192 := by omega
    have HL := Lib.hid hlen
    have HN := Lib.hid hl
    clear hlen hl
    go_enter Try.func31, Try.ntmps31
    go_wp2_with fail
    go_loop [4] (fun t4 => ∃ i : Nat, i ≤ s.size ∧ t4 = .int .i64 i ∧ Hid (∀ j (hj : j < s.size), j < i → s[j].toNat ≠ 10)) (fun t4 => s.size - (intOf t4).toNat)
    case atStart => exact ⟨0, by omega, rfl, Lib.hid (by omega)⟩
    case round =>
      obtain ⟨i, hi, rfl, hno⟩ := hrel
      by_cases hil : i < s.size
      · by_cases h10 : s[i].toNat = 10
        · have d : ((s[i].toNat : Int) == 10) = true := by rw [h10]; rfl
          have H10 := Lib.hid h10
          clear h10
          go_wp2_with fail
          go_ret2
          have h1 : wordsOf s.data.toList = ([], 250) := by unfold wordsOf; rw [HL.out, if_neg HN.out, if_pos (nl_some s i hil H10.out)]
          rw [h1]
          exact ⟨Below.refl _ _, _, rfl, World.ownsRow_nil _ _ _ _⟩
        · have d : ((s[i].toNat : Int) == 10) = false := by simp; omega
          have H10 := Lib.hid h10
          clear h10
          go_wp2_with fail
          go_round
          case rel => exact ⟨i + 1, by omega, by go_num, Lib.hid (fun j hj hji => if h : j = i then by subst h; exact H10.out else hno.out j hj (by omega))⟩
          case measure => simp [intOf]; omega
      · have HS : Hid (wordsOf s.data.toList = match wread (s.size + 1) [] s.data.toList with
          | some ws => (ws, 0)
          | none => ([], 40)) := Lib.hid (by unfold wordsOf; rw [HL.out, if_neg HN.out, if_neg (nl_none s (fun j hj => hno.out j hj (by omega)))]; rfl)
        clear hno
        go_wp2_with fail
        go_loopw [5, 6] (fun t5 t6 wr => ∃ (k : Nat) (acc : List (List UInt8)), k ≤ s.size ∧ acc.length ≤ k ∧ t6 = .int .i64 k ∧ wr.ownsRow w.heap.size 9 1 t5 acc.length (acc.map strv) ∧ Below w.heap.size w wr ∧
          Hid (wread (s.size + 1 - k) acc (s.data.toList.drop k) = wread (s.size + 1) [] s.data.toList)) (fun _ t6 wr => s.size - (intOf t6).toNat)
        case atStart => exact ⟨0, [], by omega, by simp, rfl, World.ownsRow_nil _ _ _ _, Below.refl _ _, Lib.hid rfl⟩
        case round =>
          obtain ⟨k, acc, hk1, ha, rfl, hO, hB, hq⟩ := hrel
          have hsz := hB.size
          by_cases hlt : k < s.size
          · have hr := Lib.hid (drop_cons s k hlt)
            obtain ⟨f, hf0⟩ : ∃ f, s.size + 1 - k = f + 1 := ⟨s.size - k, by omega⟩
            have hf := Lib.hid hf0
            clear hf0
            by_cases h32 : s[k].toNat = 32
            · have e1 : ((s[k].toNat : Int) == 32) = true := by rw [h32]; rfl
              have H32 := Lib.hid h32
              clear h32
              go_wp2_with fail
              go_roundw
              case rel =>
                refine ⟨k + 1, acc, by omega, by omega, by go_num, hO, hB, ?_⟩
                have e := hq.out
                rw [hr.out, hf.out] at e
                simp only [wread] at e
                rw [if_pos H32.out] at e
                refine Lib.hid ?_
                rw [← e]
                have := hf.out
                rw [show s.size + 1 - (k + 1) = f by omega]
              case measure => simp [intOf]; omega
            · have e1 : ((s[k].toNat : Int) == 32) = false := by simp; omega
              have H32 := Lib.hid h32
              clear h32
              by_cases h34 : s[k].toNat = 34
              · have e2 : ((s[k].toNat : Int) == 34) = true := by rw [h34]; rfl
                have H34 := Lib.hid h34
                clear h34
                have hl2 : (s.data.toList.drop (k + 1)).length + 1 = s.size + 1 - (k + 1) := by rw [drop_len]; omega
                rcases hE : qread ((s.data.toList.drop (k + 1)).length + 1) [] (s.data.toList.drop (k + 1)) with _ | ⟨wd, rest⟩
                · have HE := Lib.hid hE
                  have hk2 := rquoted_any s k wr (by omega) hlt _ (Lib.hid (hl2 ▸ hE))
                  have HQ := Lib.hid hk2
                  clear hE hl2 hk2
                  go_wp2_with fail
                  refine (HQ.out).mono ?_
                  rintro e w' ⟨hb, rfl⟩
                  go_wp2_with fail
                  go_ret2
                  have e := HS.out
                  have e2 := hq.out
                  rw [hr.out, hf.out] at e2
                  simp only [wread] at e2
                  rw [if_neg H32.out, if_pos H34.out, HE.out] at e2
                  rw [← e2] at e
                  rw [e]
                  exact ⟨hB.trans (hb.mono hsz), _, rfl, World.ownsRow_nil _ _ _ _⟩
                · obtain ⟨z1, p, hp⟩ := qread_size _ _ _ _ _ hE
                  have hk2 := rquoted_any s k wr (by omega) hlt _ (Lib.hid (hl2 ▸ hE))
                  have HQ := Lib.hid hk2
                  have z2 := suffix_drop hp
                  rw [drop_len, List.drop_drop] at z2
                  rw [drop_len] at z1
                  have Z2 := Lib.hid z2
                  have HE := Lib.hid hE
                  simp only [List.length_nil] at z1
                  clear hE hp z2 hk2 hl2
                  obtain ⟨m, hm⟩ : ∃ m : Nat, m = s.size - rest.length := ⟨_, rfl⟩
                  have hm' : ((s.size : Int) - rest.length) = m := by omega
                  go_wp2_with fail
                  refine (HQ.out).mono ?_
                  simp only [RQPost, hm']
                  rintro e w' ⟨hb, rfl⟩
                  have HM := Lib.hid hm
                  clear hm hm'
                  have hsz2 := hb.size
                  have hO1 := hO.kept (grown_of_below' hb) (Classical.em _)
                  go_wp2_with (at_builtin; go_must (refine app_str (W := w') (w0 := w) w.heap.size (by rfl) _ _ (by rfl) _ acc _ wd (by rfl) (by rfl) (by rfl) hO1 (hB.trans (hb.mono hsz)) (by omega) (by omega) ?_))
                  intro v1 w1 HO2 hB2
                  go_wp2_with fail
                  go_roundw
                  case rel =>
                    have hM := HM.out
                    refine ⟨m, acc ++ [wd], by omega, by simp; omega, rfl, by simpa using HO2.out, hB2, ?_⟩
                    have e := hq.out
                    rw [hr.out, hf.out] at e
                    simp only [wread] at e
                    rw [if_neg H32.out, if_pos H34.out, HE.out] at e
                    refine Lib.hid ?_
                    rw [← e]
                    have z2 := Z2.out
                    have hf1 := hf.out
                    have hd2 : List.drop m s.data.toList = rest := by rw [z2]; congr 1; omega
                    rw [hd2]
                    exact wread_fuel _ _ _ _ (by omega) (by omega)
                  case measure => have hM := HM.out; simp [intOf]; omega
              · have e2 : ((s[k].toNat : Int) == 34) = false := by simp; omega
                have H34 := Lib.hid h34
                clear h34
                go_wp2_with fail
                go_loop [6] (fun t6 => ∃ j : Nat, k ≤ j ∧ j ≤ s.size ∧ t6 = .int .i64 j ∧ Hid (bare ((s.data.toList.drop k).take (j - k)) (s.data.toList.drop j) = bare [] (s.data.toList.drop k)) ∧ Hid (j = k ∨ k < j)) (fun t6 => s.size - (intOf t6).toNat)
                case atStart => exact ⟨k, by omega, by omega, rfl, Lib.hid (by simp), Lib.hid (Or.inl rfl)⟩
                case round =>
                  obtain ⟨j, hj1, hj2, rfl, hb, hj3⟩ := hrel
                  by_cases hjl : j < s.size
                  · have hrj := Lib.hid (drop_cons s j hjl)
                    by_cases g32 : s[j].toNat = 32
                    · have d1 : ((s[j].toNat : Int) != 32) = false := by rw [g32]; rfl
                      have d2 : ((s[j].toNat : Int) == 32) = true := by rw [g32]; rfl
                      have G32 := Lib.hid g32
                      have hkj : k < j := by
                        have hj := hj3.out
                        rcases hj with rfl | hj
                        · exact absurd g32 H32.out
                        · exact hj
                      clear g32
                      go_wp2_with (at_builtin; go_must (refine app_str (W := wr) (w0 := w) w.heap.size (by rfl) _ _ (by rfl) _ acc _ ((s.data.toList.drop k).take (j - k)) (by rfl) (by rfl) (extract_take s k j) hO hB hsz (by omega) ?_))
                      intro v1 w1 HO2 hB2
                      go_wp2_with fail
                      go_roundw
                      case rel =>
                        refine ⟨j, acc ++ [(s.data.toList.drop k).take (j - k)], by omega, by simp; omega, rfl, by simpa using HO2.out, hB2, ?_⟩
                        have e := hq.out
                        have eb := hb.out
                        rw [hrj.out] at eb
                        simp only [bare] at eb
                        rw [if_pos G32.out, ← hrj.out] at eb
                        rw [hr.out, hf.out] at e
                        simp only [wread] at e
                        rw [if_neg H32.out, if_neg H34.out, ← hr.out, ← eb] at e
                        refine Lib.hid ?_
                        rw [← e]
                        have hf1 := hf.out
                        exact wread_fuel _ _ _ _ (by rw [drop_len]; omega) (by rw [drop_len]; omega)
                      case measure => simp [intOf]; omega
                    · have d1 : ((s[j].toNat : Int) != 32) = true := by simp; omega
                      have d2 : ((s[j].toNat : Int) == 32) = false := by simp; omega
                      have G32 := Lib.hid g32
                      clear g32
                      by_cases g34 : s[j].toNat = 34
                      · have d3 : ((s[j].toNat : Int) == 34) = true := by rw [g34]; rfl
                        have G34 := Lib.hid g34
                        clear g34
                        go_wp2_with fail
                        go_ret2
                        have e := HS.out
                        have e2 := hq.out
                        have eb := hb.out
                        rw [hrj.out] at eb
                        simp only [bare] at eb
                        rw [if_neg G32.out, if_pos G34.out] at eb
                        rw [hr.out, hf.out] at e2
                        simp only [wread] at e2
                        rw [if_neg H32.out, if_neg H34.out, ← hr.out, ← eb] at e2
                        rw [← e2] at e
                        rw [e]
                        exact ⟨hB, _, rfl, World.ownsRow_nil _ _ _ _⟩
                      · have d3 : ((s[j].toNat : Int) == 34) = false := by simp; omega
                        have G34 := Lib.hid g34
                        clear g34
                        go_wp2_with fail
                        go_round
                        case rel =>
                          refine ⟨j + 1, by omega, by omega, by go_num, ?_, Lib.hid (Or.inr (by omega))⟩
                          have eb := hb.out
                          rw [hrj.out] at eb
                          simp only [bare] at eb
                          rw [if_neg G32.out, if_neg G34.out] at eb
                          refine Lib.hid ?_
                          rw [← eb, take_more s k j hj1 hjl]
                        case measure => simp [intOf]; omega
                  · go_wp2_with (at_builtin; go_must (refine app_str (W := wr) (w0 := w) w.heap.size (by rfl) _ _ (by rfl) _ acc _ ((s.data.toList.drop k).take (j - k)) (by rfl) (by rfl) (extract_take s k j) hO hB hsz (by omega) ?_))
                    intro v1 w1 HO2 hB2
                    go_wp2_with fail
                    go_roundw
                    case rel =>
                      refine ⟨j, acc ++ [(s.data.toList.drop k).take (j - k)], by omega, by simp; omega, rfl, by simpa using HO2.out, hB2, ?_⟩
                      have e := hq.out
                      have eb := hb.out
                      rw [drop_none s j (by omega)] at eb
                      simp only [bare] at eb
                      rw [hr.out, hf.out] at e
                      simp only [wread] at e
                      rw [if_neg H32.out, if_neg H34.out, ← hr.out, ← eb] at e
                      refine Lib.hid ?_
                      rw [drop_none s j (by omega), ← e]
                      have hf1 := hf.out
                      exact wread_fuel _ _ _ _ (by simp; omega) (by simp; omega)
                    case measure => simp [intOf]; omega
          · go_wp2_with fail
            go_ret2
            have e := HS.out
            have e2 := hq.out
            rw [drop_none s k (by omega), show s.size + 1 - k = (s.size - k) + 1 by omega] at e2
            simp only [wread] at e2
            rw [← e2] at e
            rw [e]
            exact ⟨hB, _, rfl, hO⟩
end Go.Proofs.Ytgnifglolbfamaa
