/- The reference's quoted. -/
import Derived.Test.YtgnifglolbfamaaShE
set_option linter.unusedVariables false
set_option linter.unusedSimpArgs false
namespace Go.Proofs.Ytgnifglolbfamaa
open Go.RowKit

/-- What the reference's quoted hands back. -/
def RQPost (n : Nat) (o : Option (List UInt8 × List UInt8)) (w : World) (e : Ending) (w' : World) : Prop :=
  Below w.heap.size w w' ∧
  match o with
  | some (wd, rest) => e = .returned (.tuple #[.string ⟨wd.toArray⟩, .int .i64 ((n : Int) - rest.length)])
  | none => e = .returned (.tuple #[.string ⟨#[]⟩, .int .i64 (-1)])

theorem qread_esc {s : ByteArray} {k f : Nat} {acc : List UInt8} {R : Option (List UInt8 × List UInt8)} {v : Int} (n : Nat) (hlt : k < s.size) (hf : s.size + 1 - k = f + 1) (h34 : ¬ s[k].toNat = 34) (h92 : s[k].toNat = 92)
    (hE : esc (s.data.toList.drop (k + 1)) = (v, (n : Int))) (hn : 0 < n) (hq : qread (s.size + 1 - k) acc (s.data.toList.drop k) = R) :
    k + 1 + n ≤ s.size ∧ qread (s.size + 1 - (k + 1 + n)) (acc ++ [v.toNat.toUInt8]) (s.data.toList.drop (k + 1 + n)) = R := by
  have hb := esc_bd (s.data.toList.drop (k + 1))
  rw [hE, drop_len] at hb
  simp only at hb
  rw [drop_cons s k hlt, hf] at hq
  simp only [qread] at hq
  rw [if_neg h34, if_pos h92, hE, if_neg (by simp; omega)] at hq
  refine ⟨by omega, ?_⟩
  rw [← hq]
  show qread _ _ _ = qread f (acc ++ [v.toNat.toUInt8]) (List.drop ((n : Int)).toNat (List.drop (k + 1) s.data.toList))
  rw [Int.toNat_natCast, List.drop_drop]
  exact qread_fuel _ _ _ _ (by rw [drop_len]; omega) (by rw [drop_len]; omega)
theorem qread_esc0 {s : ByteArray} {k f : Nat} {acc : List UInt8} {R : Option (List UInt8 × List UInt8)} {v : Int} (hlt : k < s.size) (hf : s.size + 1 - k = f + 1) (h34 : ¬ s[k].toNat = 34) (h92 : s[k].toNat = 92)
    (hE : esc (s.data.toList.drop (k + 1)) = (v, 0)) (hq : qread (s.size + 1 - k) acc (s.data.toList.drop k) = R) : R = none := by
  rw [drop_cons s k hlt, hf] at hq
  simp only [qread] at hq
  rw [if_neg h34, if_pos h92, hE, if_pos rfl] at hq
  exact hq.symm
theorem own_snoc {W : World} {base : Nat} {v : Value} {acc : List UInt8} {z : Int} (h : 0 ≤ z) (h1 : z ≤ 255) (hO : W.ownsRow base 5 1 v ((Lib.byteCells acc).length + 1) (Lib.byteCells acc ++ [Value.int .u8 z])) :
    W.ownsRow base 5 1 v (acc ++ [z.toNat.toUInt8]).length (Lib.byteCells (acc ++ [z.toNat.toUInt8])) := by
  rw [byteCells_snoc' _ _ h h1]
  simpa [Lib.byteCells_length] using hO

/-- What the byte behind a backslash stands for: the tests in the code's own spelling. -/
theorem esc_cases (s : ByteArray) (k : Nat) (h : k < s.size) :
    (((s[k].toNat : Int) == 34) = true ∧ esc (s.data.toList.drop k) = ((s[k].toNat : Int), ((1 : Nat) : Int))) ∨
    (((s[k].toNat : Int) == 34) = false ∧ ((s[k].toNat : Int) == 92) = true ∧ esc (s.data.toList.drop k) = ((s[k].toNat : Int), ((1 : Nat) : Int))) ∨
    (((s[k].toNat : Int) == 34) = false ∧ ((s[k].toNat : Int) == 92) = false ∧ ((s[k].toNat : Int) == 110) = true ∧ esc (s.data.toList.drop k) = (10, ((1 : Nat) : Int))) ∨
    (((s[k].toNat : Int) == 34) = false ∧ ((s[k].toNat : Int) == 92) = false ∧ ((s[k].toNat : Int) == 110) = false ∧ ((s[k].toNat : Int) == 116) = true ∧ esc (s.data.toList.drop k) = (9, ((1 : Nat) : Int))) ∨
    (((s[k].toNat : Int) == 34) = false ∧ ((s[k].toNat : Int) == 92) = false ∧ ((s[k].toNat : Int) == 110) = false ∧ ((s[k].toNat : Int) == 116) = false ∧ ((s[k].toNat : Int) == 120) = true ∧
      ((s.size ≤ k + 2 ∧ esc (s.data.toList.drop k) = (0, 0)) ∨ (∃ h2 : k + 2 < s.size, (hexv s[k + 1] < 0 ∧ esc (s.data.toList.drop k) = (0, 0)) ∨ (0 ≤ hexv s[k + 1] ∧ hexv s[k + 2] < 0 ∧ esc (s.data.toList.drop k) = (0, 0)) ∨
        (0 ≤ hexv s[k + 1] ∧ 0 ≤ hexv s[k + 2] ∧ esc (s.data.toList.drop k) = (16 * hexv s[k + 1] + hexv s[k + 2], ((3 : Nat) : Int)))))) ∨
    (((s[k].toNat : Int) == 34) = false ∧ ((s[k].toNat : Int) == 92) = false ∧ ((s[k].toNat : Int) == 110) = false ∧ ((s[k].toNat : Int) == 116) = false ∧ ((s[k].toNat : Int) == 120) = false ∧ esc (s.data.toList.drop k) = (0, 0)) := by
  simp only [beq_iff_eq, beq_eq_false_iff_ne]
  rw [drop_cons s k h]
  simp only [esc]
  by_cases h1 : s[k].toNat = 34
  · exact Or.inl ⟨by omega, by rw [if_pos h1]; rfl⟩
  refine Or.inr ?_
  rw [if_neg h1]
  by_cases h2 : s[k].toNat = 92
  · exact Or.inl ⟨by omega, by omega, by rw [if_pos h2]; rfl⟩
  refine Or.inr ?_
  rw [if_neg h2]
  by_cases h3 : s[k].toNat = 110
  · exact Or.inl ⟨by omega, by omega, by omega, by rw [if_pos h3]; rfl⟩
  refine Or.inr ?_
  rw [if_neg h3]
  by_cases h4 : s[k].toNat = 116
  · exact Or.inl ⟨by omega, by omega, by omega, by omega, by rw [if_pos h4]; rfl⟩
  refine Or.inr ?_
  rw [if_neg h4]
  by_cases h5 : s[k].toNat = 120
  · refine Or.inl ⟨by omega, by omega, by omega, by omega, by omega, ?_⟩
    rw [if_pos h5]
    by_cases h6 : k + 2 < s.size
    · refine Or.inr ⟨h6, ?_⟩
      rw [drop_cons s (k + 1) (by omega), drop_cons s (k + 1 + 1) h6]
      simp only
      by_cases h7 : 0 ≤ hexv s[k + 1]
      · by_cases h8 : 0 ≤ hexv s[k + 2]
        · exact Or.inr (Or.inr ⟨h7, h8, by rw [if_pos ⟨h7, h8⟩]; rfl⟩)
        · exact Or.inr (Or.inl ⟨h7, by omega, by rw [if_neg (fun h => h8 h.2)]⟩)
      · exact Or.inl ⟨by omega, by rw [if_neg (fun h => h7 h.1)]⟩
    · refine Or.inl ⟨by omega, ?_⟩
      have hl := drop_len s (k + 1)
      match hr : List.drop (k + 1) s.data.toList with
      | [] => rfl
      | [_] => rfl
      | _ :: _ :: _ => rw [hr] at hl; simp at hl; omega
  · exact Or.inr ⟨by omega, by omega, by omega, by omega, by omega, by rw [if_neg h5]⟩

theorem one_cell1 (n : Int) : ∀ u ∈ (#[Value.int .u8 n] : Array Value).toList, u.oneCell' = true := by simp [Value.oneCell']

set_option maxHeartbeats 2000000 in
set_option maxRecDepth 100000 in
theorem rquoted_any (s : ByteArray) (k0 : Nat) (w : World) (hs : s.size ≤ 1000000) (hk : k0 < s.size) (R : Option (List UInt8 × List UInt8)) (hR : Hid (qread (s.size + 1 - (k0 + 1)) [] (s.data.toList.drop (k0 + 1)) = R)) :
    Calls Try.prog 52 #[.string s, .int .i64 k0] w (RQPost s.size R w) := by
  go_enter Try.func52, Try.ntmps52
  go_wp2_with fail
  go_loopw [1, 6] (fun t1 t6 wr => ∃ (k : Nat) (acc : List UInt8), k ≤ s.size ∧ acc.length ≤ k ∧ t1 = .int .i64 k ∧ wr.ownsRow w.heap.size 5 1 t6 acc.length (Lib.byteCells acc) ∧ Below w.heap.size w wr ∧
      Hid (qread (s.size + 1 - k) acc (s.data.toList.drop k) = R)) (fun t1 _ wr => s.size - (intOf t1).toNat)
  case atStart => exact ⟨k0 + 1, [], by omega, by simp, by go_num, World.ownsRow_nil _ _ _ _, Below.refl _ _, hR⟩
  case round =>
    obtain ⟨k, acc, hk1, ha, rfl, hO, hB, hq⟩ := hrel
    have hsz := hB.size
    by_cases hlt : k < s.size
    · have hr := Lib.hid (drop_cons s k hlt)
      obtain ⟨f, hf0⟩ : ∃ f, s.size + 1 - k = f + 1 := ⟨s.size - k, by omega⟩
      have hf := Lib.hid hf0
      clear hf0
      by_cases h34 : s[k].toNat = 34
      · have e1 : ((s[k].toNat : Int) != 34) = false := by rw [h34]; rfl
        have H34 := Lib.hid h34
        clear h34
        have hcv := conv_own hO
        by_cases hend : k + 1 < s.size
        · have d1 : decide ((k : Int) + 1 < s.size) = true := by simp; omega
          have hend' : (k : Int) + 1 < s.size := by omega
          by_cases h32 : s[k + 1].toNat = 32
          · have d2 : ((s[k + 1].toNat : Int) != 32) = false := by rw [h32]; rfl
            have H32 := Lib.hid h32
            clear h32
            go_wp2_with fail
            go_ret2
            have e := hq.out
            rw [hr.out, hf.out, drop_cons s (k + 1) hend] at e
            simp only [qread] at e
            rw [if_pos H34.out, if_pos H32.out, ← drop_cons s (k + 1) hend] at e
            rw [← e]
            exact ⟨hB, ret2 rfl (vint (by simp only [drop_len]; omega))⟩
          · have d2 : ((s[k + 1].toNat : Int) != 32) = true := by simp; omega
            have H32 := Lib.hid h32
            clear h32
            go_wp2_with fail
            go_ret2
            have e := hq.out
            rw [hr.out, hf.out, drop_cons s (k + 1) hend] at e
            simp only [qread] at e
            rw [if_pos H34.out, if_neg H32.out] at e
            rw [← e]
            exact ⟨hB, rfl⟩
        · have d1 : decide ((k : Int) + 1 < s.size) = false := by simp; omega
          go_wp2_with fail
          go_ret2
          have e := hq.out
          rw [hr.out, hf.out, drop_none s (k + 1) (by omega)] at e
          simp only [qread] at e
          rw [if_pos H34.out] at e
          rw [← e]
          exact ⟨hB, ret2 rfl (vint (by simp; omega))⟩
      · have e1 : ((s[k].toNat : Int) != 34) = true := by simp; omega
        have H34 := Lib.hid h34
        clear h34
        by_cases h92 : s[k].toNat = 92
        · have e2 : ((s[k].toNat : Int) != 92) = false := by rw [h92]; rfl
          have H92 := Lib.hid h92
          clear h92
          by_cases hlt2 : k + 1 < s.size
          · have hlt3 : ((k : Int) + 1) < s.size := by omega
            have hc := s[k + 1].toNat_lt
            rcases esc_cases s (k + 1) hlt2 with ⟨c1, E⟩ | ⟨c1, c2, E⟩ | ⟨c1, c2, c3, E⟩ | ⟨c1, c2, c3, c4, E⟩ | ⟨c1, c2, c3, c4, c5, H⟩ | ⟨c1, c2, c3, c4, c5, E⟩
            iterate 2
              · obtain ⟨q1, q2⟩ := qread_esc 1 hlt hf.out H34.out H92.out E (by omega) hq.out
                have HQ := Lib.hid q2
                clear E q2
                go_wp2_with (at_builtin; go_must (refine app_bytes (W := wr) (w0 := w) w.heap.size (by rfl) _ _ (by rfl) _ (Lib.byteCells acc) #[.int .u8 s[k + 1].toNat] (by simp [Value.oneCell']) (by rfl) (by rfl) (by rw [Lib.byteCells_length]; exact hO) hB hsz (by simp [Lib.byteCells_length]; omega) ?_))
                intro v1 w1 HO2 hB2
                go_wp2_with fail
                go_roundw
                case rel => exact ⟨k + 1 + 1, _, by omega, by simp; omega, by go_num, own_snoc (by omega) (by omega) (by simpa using HO2.out), hB2, HQ⟩
                case measure => simp [intOf]; omega
            · obtain ⟨q1, q2⟩ := qread_esc 1 hlt hf.out H34.out H92.out E (by omega) hq.out
              have HQ := Lib.hid q2
              clear E q2
              go_wp2_with (at_builtin; go_must (refine app_bytes (W := wr) (w0 := w) w.heap.size (by rfl) _ _ (by rfl) _ (Lib.byteCells acc) #[.int .u8 10] (by simp [Value.oneCell']) (by rfl) (by rfl) (by rw [Lib.byteCells_length]; exact hO) hB hsz (by simp [Lib.byteCells_length]; omega) ?_))
              intro v1 w1 HO2 hB2
              go_wp2_with fail
              go_roundw
              case rel => exact ⟨k + 1 + 1, _, by omega, by simp; omega, by go_num, own_snoc (by omega) (by omega) (by simpa using HO2.out), hB2, HQ⟩
              case measure => simp [intOf]; omega
            · obtain ⟨q1, q2⟩ := qread_esc 1 hlt hf.out H34.out H92.out E (by omega) hq.out
              have HQ := Lib.hid q2
              clear E q2
              go_wp2_with (at_builtin; go_must (refine app_bytes (W := wr) (w0 := w) w.heap.size (by rfl) _ _ (by rfl) _ (Lib.byteCells acc) #[.int .u8 9] (by simp [Value.oneCell']) (by rfl) (by rfl) (by rw [Lib.byteCells_length]; exact hO) hB hsz (by simp [Lib.byteCells_length]; omega) ?_))
              intro v1 w1 HO2 hB2
              go_wp2_with fail
              go_roundw
              case rel => exact ⟨k + 1 + 1, _, by omega, by simp; omega, by go_num, own_snoc (by omega) (by omega) (by simpa using HO2.out), hB2, HQ⟩
              case measure => simp [intOf]; omega
            · rcases H with ⟨h3, E⟩ | ⟨h3, ⟨g1, E⟩ | ⟨g1, g2, E⟩ | ⟨g1, g2, E⟩⟩
              · have d3 : decide ((s.size : Int) ≤ (k : Int) + 2 + 1) = true := by simp; omega
                have q := Lib.hid (qread_esc0 hlt hf.out H34.out H92.out E hq.out)
                clear E
                go_wp2_with fail
                go_ret2
                rw [q.out]
                exact ⟨hB, rfl⟩
              · have d3 : decide ((s.size : Int) ≤ (k : Int) + 2 + 1) = false := by simp; omega
                have i1 : k + 2 < s.size := by omega
                have i2 : (k : Int) + 2 < s.size := by omega
                have q := Lib.hid (qread_esc0 hlt hf.out H34.out H92.out E hq.out)
                have hd1 := digit_any s[k + 2] wr
                have HD1 := Lib.hid hd1
                have g1' : decide (hexv s[k + 2] < 0) = true := by simpa using g1
                clear E hd1
                go_wp2_with (first | (go_at_call 66; with_reducible refine (HD1.out).mono ?_; rintro e w' ⟨rfl, hw⟩; obtain rfl := hw.symm))
                go_ret2
                rw [q.out]
                exact ⟨hB, rfl⟩
              · have d3 : decide ((s.size : Int) ≤ (k : Int) + 2 + 1) = false := by simp; omega
                have i1 : k + 2 < s.size := by omega
                have i2 : (k : Int) + 2 < s.size := by omega
                have i3 : k + 3 < s.size := by omega
                have i4 : (k : Int) + 3 < s.size := by omega
                have i5 : (k : Int) + 2 + 1 < s.size := by omega
                have q := Lib.hid (qread_esc0 hlt hf.out H34.out H92.out E hq.out)
                have hd1 := digit_any s[k + 2] wr
                have HD1 := Lib.hid hd1
                have hd2 := digit_any s[k + 3] wr
                have HD2 := Lib.hid hd2
                have g1' : decide (hexv s[k + 2] < 0) = false := by simpa using g1
                have g2' : decide (hexv s[k + 3] < 0) = true := by simpa using g2
                clear E hd1 hd2
                go_wp2_with (first | (go_at_call 66; with_reducible refine (HD1.out).mono ?_; rintro e w' ⟨rfl, hw⟩; obtain rfl := hw.symm) | (go_at_call 66; with_reducible refine (HD2.out).mono ?_; rintro e w' ⟨rfl, hw⟩; obtain rfl := hw.symm))
                go_ret2
                rw [q.out]
                exact ⟨hB, rfl⟩
              · have d3 : decide ((s.size : Int) ≤ (k : Int) + 2 + 1) = false := by simp; omega
                have i1 : k + 2 < s.size := by omega
                have i2 : (k : Int) + 2 < s.size := by omega
                have i3 : k + 3 < s.size := by omega
                have i4 : (k : Int) + 3 < s.size := by omega
                have i5 : (k : Int) + 2 + 1 < s.size := by omega
                obtain ⟨q1, q2⟩ := qread_esc 3 hlt hf.out H34.out H92.out E (by omega) hq.out
                have HQ := Lib.hid q2
                clear q2
                have hd1 := digit_any s[k + 2] wr
                have HD1 := Lib.hid hd1
                have hd2 := digit_any s[k + 3] wr
                have HD2 := Lib.hid hd2
                have g1' : decide (hexv s[k + 2] < 0) = false := by simpa using g1
                have g2' : decide (hexv s[k + 3] < 0) = false := by simpa using g2
                clear E hd1 hd2
                go_wp2_with (first | (go_at_call 66; with_reducible refine (HD1.out).mono ?_; rintro e w' ⟨rfl, hw⟩; obtain rfl := hw.symm) | (go_at_call 66; with_reducible refine (HD2.out).mono ?_; rintro e w' ⟨rfl, hw⟩; obtain rfl := hw.symm))
                have b1 := hexv_bd s[k + 2]
                have b2 := hexv_bd s[k + 3]
                have k1 : 0 ≤ hexv s[k + 2] := g1
                have k2 : 0 ≤ hexv s[k + 3] := g2
                have W2 : IntKind.i64.wrap (16 * hexv s[k + 2]) = 16 * hexv s[k + 2] := IntWalk.i64_in _ (by omega)
                have W3 : IntKind.i64.wrap (16 * hexv s[k + 2] + hexv s[k + 3]) = 16 * hexv s[k + 2] + hexv s[k + 3] := IntWalk.i64_in _ (by omega)
                have W1 : IntKind.i64.wrap ((k : Int) + 2 + 1) = (k : Int) + 3 := by rw [IntWalk.i64_in _ (by omega)]; omega
                have W4 : IntKind.u8.wrap (16 * hexv s[k + 2] + hexv s[k + 3]) = 16 * hexv s[k + 2] + hexv s[k + 3] := IntWalk.u8_in _ (by omega)
                have W5 : (0 : Int) ≤ (k : Int) + 3 := by omega
                have W7 : (0 : Int) ≤ (k : Int) + 2 := by omega
                have W8 : ((k : Int) + 2).toNat = k + 2 := by omega
                have W6 : ((k : Int) + 3).toNat = k + 3 := by omega
                have hO' : wr.ownsRow w.heap.size 5 1 u6 (Lib.byteCells acc).length (Lib.byteCells acc) := by rw [Lib.byteCells_length]; exact hO
                have hLL : (Lib.byteCells acc).length + #[Value.int .u8 (16 * hexv s[k + 2] + hexv s[k + 3])].size ≤ 140737488355328 := by simp [Lib.byteCells_length]; omega
                have hds := fun wx => digit_any s[k + 2] wx
                have hdt := fun wx => digit_any s[k + 3] wx
                have HDS := Lib.hid hds
                have HDT := Lib.hid hdt
                clear hds hdt
                go_region_held3 (fun w' => True) (trivial) (first | (go_at_call 66; with_reducible refine (HDS.out _).mono ?_; rintro e w' ⟨rfl, hw⟩; obtain rfl := hw.symm) | (go_at_call 66; with_reducible refine (HDT.out _).mono ?_; rintro e w' ⟨rfl, hw⟩; obtain rfl := hw.symm) | (refine step_bytes (W := wr) (w0 := w) w.heap.size (by rfl) _ _ (by rfl) _ (Lib.byteCells acc) #[.int .u8 (16 * hexv s[k + 2] + hexv s[k + 3])] (one_cell1 _) (Nat.zero_lt_one) (by rfl) (by rfl) hO' hB hsz hLL ?_; intro v1 w1 HO2 hB2))
                all_goals
                  go_wp2_with fail
                  go_roundw
                  have x1 := hexv_bd s[k + 1 + 1]
                  have x2 := hexv_bd s[k + 1 + 2]
                  clear W1 W2 W3 W4
                  case rel => exact ⟨k + 1 + 3, _, by omega, by simp; omega, by go_num, own_snoc (by omega) (by omega) (by simpa using HO2.out), hB2, HQ⟩
                  case measure => simp [intOf]; omega
            · have q := Lib.hid (qread_esc0 hlt hf.out H34.out H92.out E hq.out)
              clear E
              go_wp2_with fail
              go_ret2
              rw [q.out]
              exact ⟨hB, rfl⟩
          · have hlt3 : ¬ ((k : Int) + 1) < s.size := by omega
            go_wp2_with fail
            go_ret2
            have e := hq.out
            rw [hr.out, hf.out, drop_none s (k + 1) (by omega)] at e
            simp only [qread] at e
            rw [if_neg H34.out, if_pos H92.out] at e
            rw [← e]
            exact ⟨hB, rfl⟩
        · have e2 : ((s[k].toNat : Int) != 92) = true := by simp; omega
          have H92 := Lib.hid h92
          clear h92
          go_wp2_with (at_builtin; go_must (refine app_bytes (W := wr) (w0 := w) w.heap.size (by rfl) _ _ (by rfl) _ (Lib.byteCells acc) #[.int .u8 s[k].toNat] (by simp [Value.oneCell']) (by rfl) (by rfl) (by rw [Lib.byteCells_length]; exact hO) hB hsz (by simp [Lib.byteCells_length]; omega) ?_))
          intro v1 w1 HO2 hB2
          go_wp2_with fail
          go_roundw
          case rel =>
            refine ⟨k + 1, acc ++ [s[k]], by omega, by simp; omega, by go_num, by have := HO2.out; simpa [Lib.byteCells] using this, hB2, ?_⟩
            have e := hq.out
            rw [hr.out, hf.out] at e
            simp only [qread] at e
            rw [if_neg H34.out, if_neg H92.out] at e
            refine Lib.hid ?_
            rw [← e]
            have := hf.out
            rw [show s.size + 1 - (k + 1) = f by omega]
          case measure => simp [intOf]; omega
    · go_wp2_with fail
      go_ret2
      have e := hq.out
      rw [drop_none s k (by omega), show s.size + 1 - k = (s.size - k) + 1 by omega] at e
      simp only [qread] at e
      rw [← e]
      exact ⟨hB, rfl⟩
end Go.Proofs.Ytgnifglolbfamaa
