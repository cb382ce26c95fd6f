import Derived.Test.YtcfgmkmllcfjjaaDoorZImK
import Derived.Test.YtcfgmkmllcfjjaaDoorZImL
import Derived.Test.YtcfgmkmllcfjjaaDoorZPValidx0
set_option linter.unusedVariables false
set_option linter.unusedSimpArgs false
namespace Go.Proofs.YtcfgmkmllcfjjaaDoor
open Go.RowKit Go.Proofs.YtcfgmkmllcfjjaaDoorW.PrintWords Go.Proofs.YtcfgmkmllcfjjaaDoorW.PrintMore PImageForm
def validB (x : S66) : Bool := (PValid.value_Valid.f x.f0 x.f1 x.f2 x.f3).getD false
theorem validB_f (x : S66) : PValid.value_Valid.f x.f0 x.f1 x.f2 x.f3 = some (validB x) := by
  unfold validB PValid.value_Valid.f PValid.value_number.f PValid.value_text.f PValid.value_truth.f
  simp only [Option.bind_some]
  repeat' split
  all_goals rfl
theorem empty_toList {a : ByteArray} (h : (a.toList == (⟨#[]⟩ : ByteArray).toList) = true) : a = ⟨#[]⟩ := by
  have he := beq_iff_eq.mp h
  rw [ByteArray.toList_eq, ByteArray.toList_eq] at he
  exact ByteArray.ext (Array.ext' he)
theorem validB_ok {x : S66} (h : validB x = true) (hi : I64 x.f1) : ValOk x := by
  obtain ⟨a, b, c, d⟩ := x
  have hf := validB_f ⟨a, b, c, d⟩
  rw [h] at hf
  unfold PValid.value_Valid.f PValid.value_number.f PValid.value_text.f PValid.value_truth.f at hf
  simp only [Option.bind_some] at hf
  split at hf
  · rename_i h1
    have h1 : a = 1 := h1
    subst h1
    simp only [Option.some.injEq, Bool.and_eq_true, beq_iff_eq] at hf
    obtain ⟨_, _, h3, h4⟩ := hf
    have h3 := empty_toList (beq_iff_eq.mpr h3)
    subst h3
    subst h4
    exact .int b hi
  · split at hf
    · rename_i h2
      have h2 : a = 2 := h2
      subst h2
      split at hf
      · rename_i h5
        simp only [Bool.and_eq_true, beq_iff_eq] at h5
        obtain ⟨_, h6, _, h7⟩ := h5
        have h6 : b = 0 := h6
        have h7 : d = false := h7
        subst h6
        subst h7
        simp only [Option.some.injEq, decide_eq_true_eq] at hf
        exact .str c (by omega)
      · simp at hf
    · split at hf
      · rename_i h3
        have h3 : a = 3 := h3
        subst h3
        simp only [Option.some.injEq, Bool.and_eq_true, beq_iff_eq] at hf
        obtain ⟨_, h4, h5, _⟩ := hf
        have h4 : b = 0 := h4
        have h5 := empty_toList (beq_iff_eq.mpr h5)
        subst h4
        subst h5
        exact .bool d
      · simp at hf
def faultN (e : S69) : Int := if nameB e.f0 = true then (if 0 ≤ e.f1 ∧ e.f1 ≤ 4611686018427387904 then (if e.f2.length ≤ 16 then (if e.f2.all validB = true then 0 else 12) else 2) else 23) else 20
set_option maxRecDepth 100000 in
set_option maxHeartbeats 4000000 in
theorem fault_any {w : World} {x : S69} {A : Option Addr} {c : Nat} (hG : GW w) (hC : Kd.C k66 w A x.f2.length x.f2) (hc : x.f2.length ≤ c) (hxl : x.f2.length ≤ 9223372036854775807) :
    Calls Tryd.prog 60 #[.agg #[.string x.f0, .int .i64 x.f1, .slice A x.f2.length c]] w fun e w' => e = .returned (.int .i64 (faultN x)) ∧ Below w.heap.size w w' := by
  generalize hW0 : w.alloc (.cells #[.string x.f0, .int .i64 x.f1, .slice A x.f2.length c] 69) = W0
  have HW0 := Lib.hid hW0
  have hb0 : Below w.heap.size w W0 := by rw [← hW0]; exact below_new w _
  have hX : W0.heap[w.heap.size]? = some (.cells #[.string x.f0, .int .i64 x.f1, .slice A x.f2.length c] 69 (0, 0)) := by rw [← hW0]; exact blk_new w _
  have HB0 := Lib.hid hb0
  have HC := Lib.hid (Kd.C_below hC hb0)
  have HN := Lib.hid (Name_any x.f0 W0 (hG.below hb0))
  have c0 : W0.cell? ⟨w.heap.size, 0, none⟩ = some (.string x.f0) := (blk_cell hX 0).trans rfl
  have c1 : W0.cell? ⟨w.heap.size, 1, none⟩ = some (.int .i64 x.f1) := (blk_cell hX 1).trans rfl
  have c2 : W0.cell? ⟨w.heap.size, 2, none⟩ = some (.slice A x.f2.length c) := (blk_cell hX 2).trans rfl
  have hF : faultN x = if nameB x.f0 = true then (if 0 ≤ x.f1 ∧ x.f1 ≤ 4611686018427387904 then (if x.f2.length ≤ 16 then (if x.f2.all validB = true then 0 else 12) else 2) else 23) else 20 := rfl
  generalize faultN x = F at *
  have HF := Lib.hid hF
  clear hG hC hW0 hb0 hX hF
  by_cases hn : nameB x.f0 = true
  · rw [hn] at HN
    have HF := Lib.hid (HF.out.trans (if_pos hn))
    clear hn
    by_cases ht : 0 ≤ x.f1 ∧ x.f1 ≤ 4611686018427387904
    · have HF := Lib.hid (HF.out.trans (if_pos ht))
      have t1 : decide (x.f1 < 0) = false := decide_eq_false (by omega)
      have t2 : decide (4611686018427387904 < x.f1) = false := decide_eq_false (by omega)
      clear ht
      by_cases hk : x.f2.length ≤ 16
      · have HF := Lib.hid (HF.out.trans (if_pos hk))
        have t3 : decide (16 < (x.f2.length : Int)) = false := decide_eq_false (by omega)
        go_enter Tryd.func60, Tryd.ntmps60
        go_wp2_with fail
        rw [HW0.out]
        go_wp2_with (go_at_call 19; refine HN.out.mono ?_; rintro e w1 ⟨rfl, ⟨n1, rfl⟩⟩)
        go_loopw [27] (fun t27 wr => ∃ k : Nat, k ≤ x.f2.length ∧ t27 = .int .i64 k ∧ Hid (Below W0.heap.size W0 wr) ∧ Hid (∀ j (hj : j < x.f2.length), j < k → validB (x.f2[j]'hj) = true)) (fun t27 _ => x.f2.length - (intOf t27).toNat)
        case atStart => exact ⟨0, by omega, rfl, Lib.hid (pw_below_drewN (Below.refl _ _) _), Lib.hid (by intro j _ h; omega)⟩
        case round =>
          obtain ⟨k, hk2, rfl, hB, hP⟩ := hrel
          by_cases hlt : k < x.f2.length
          · have i1 : (0 : Int) ≤ (k : Int) := by omega
            have i2 : (k : Int) < x.f2.length := by omega
            obtain ⟨ad, rfl, q0, q1, q2, q3⟩ := atVal (Kd.C_below HC.out hB.out) k hlt hlt
            have hbn := below_new wr (.cells #[.int .i64 x.f2[k].f0, .int .i64 x.f2[k].f1, .string x.f2[k].f2, .bool x.f2[k].f3] 66)
            have HBN := Lib.hid (below_step hB.out hbn)
            have hV := PValid.value_Valid.calls x.f2[k].f0 x.f2[k].f1 x.f2[k].f2 x.f2[k].f3 (validB x.f2[k]) (wr.alloc (.cells #[.int .i64 x.f2[k].f0, .int .i64 x.f2[k].f1, .string x.f2[k].f2, .bool x.f2[k].f3] 66)) (validB_f _)
            by_cases hv : validB x.f2[k] = true
            · rw [hv] at hV
              have HV := Lib.hid hV
              have HP2 := Lib.hid (show ∀ j (hj : j < x.f2.length), j < k + 1 → validB (x.f2[j]'hj) = true from fun j hj hjk => if h : j = k then by subst h; exact hv else hP.out j hj (by omega))
              clear hV hv hbn hP
              generalize x.f2[k] = y at *
              go_wp2_with (go_at_call 64; refine HV.out.mono ?_; rintro e w4 ⟨rfl, hB4⟩; have HB4 := Lib.hid hB4; clear hB4)
              go_roundw
              case rel => exact ⟨k + 1, by omega, by go_num, Lib.hid (below_step HBN.out HB4.out), HP2⟩
              case measure => simp [intOf]; omega
            · have hF12 : F = 12 := HF.out.trans (if_neg (by
                intro h
                exact hv (List.all_eq_true.mp h _ (List.getElem_mem hlt))))
              have hv' : validB x.f2[k] = false := by simpa using hv
              rw [hv'] at hV
              have HV := Lib.hid hV
              subst hF12
              clear hV hv hv' hbn hP
              generalize x.f2[k] = y at *
              go_wp2_with (go_at_call 64; refine HV.out.mono ?_; rintro e w4 ⟨rfl, hB4⟩; have HB4 := Lib.hid hB4; clear hB4)
              go_ret
              exact ⟨rfl, below_step HB0.out (below_step HBN.out HB4.out)⟩
          · obtain rfl : k = x.f2.length := by omega
            have hF0 : F = 0 := HF.out.trans (if_pos (by
              apply List.all_eq_true.mpr
              intro y hy
              obtain ⟨j, hj, rfl⟩ := List.getElem_of_mem hy
              exact hP.out j hj hj))
            subst hF0
            go_wp2_with fail
            go_ret
            exact ⟨rfl, below_step HB0.out hB.out⟩
      · have HF := Lib.hid (HF.out.trans (if_neg hk))
        have t3 : decide (16 < (x.f2.length : Int)) = true := decide_eq_true (by omega)
        have hF := HF.out
        subst hF
        go_enter Tryd.func60, Tryd.ntmps60
        go_wp2_with fail
        rw [HW0.out]
        go_wp2_with (go_at_call 19; refine HN.out.mono ?_; rintro e w1 ⟨rfl, ⟨n1, rfl⟩⟩)
        go_ret
        exact ⟨rfl, pw_below_drewN HB0.out _⟩
    · have HF := Lib.hid (HF.out.trans (if_neg ht))
      have hF := HF.out
      subst hF
      by_cases t1' : x.f1 < 0
      · have t1 : decide (x.f1 < 0) = true := decide_eq_true t1'
        clear ht
        go_enter Tryd.func60, Tryd.ntmps60
        go_wp2_with fail
        rw [HW0.out]
        go_wp2_with (go_at_call 19; refine HN.out.mono ?_; rintro e w1 ⟨rfl, ⟨n1, rfl⟩⟩)
        go_ret
        exact ⟨rfl, pw_below_drewN HB0.out _⟩
      · have t1 : decide (x.f1 < 0) = false := decide_eq_false t1'
        have t2 : decide (4611686018427387904 < x.f1) = true := decide_eq_true (by omega)
        clear ht
        go_enter Tryd.func60, Tryd.ntmps60
        go_wp2_with fail
        rw [HW0.out]
        go_wp2_with (go_at_call 19; refine HN.out.mono ?_; rintro e w1 ⟨rfl, ⟨n1, rfl⟩⟩)
        go_ret
        exact ⟨rfl, pw_below_drewN HB0.out _⟩
  · have HF := Lib.hid (HF.out.trans (if_neg hn))
    have hF := HF.out
    subst hF
    have hn' : nameB x.f0 = false := by simpa using hn
    rw [hn'] at HN
    clear hn hn'
    go_enter Tryd.func60, Tryd.ntmps60
    go_wp2_with fail
    rw [HW0.out]
    go_wp2_with (go_at_call 19; refine HN.out.mono ?_; rintro e w1 ⟨rfl, ⟨n1, rfl⟩⟩)
    go_ret
    exact ⟨rfl, pw_below_drewN HB0.out _⟩
theorem fault_zero {x : S69} (h : faultN x = 0) : nameB x.f0 = true ∧ (0 ≤ x.f1 ∧ x.f1 ≤ 4611686018427387904) ∧ x.f2.length ≤ 16 ∧ ∀ y ∈ x.f2, validB y = true := by
  unfold faultN at h
  split at h
  · rename_i h1
    split at h
    · rename_i h2
      split at h
      · rename_i h3
        split at h
        · rename_i h4
          exact ⟨h1, h2, h3, List.all_eq_true.mp h4⟩
        · cases h
      · cases h
    · cases h
  · cases h
def encB (x : S69) : List Int := if faultN x = 0 then encEvent x else []
set_option maxRecDepth 100000 in
set_option maxHeartbeats 2000000 in
theorem Encode_any {w : World} {x : S69} {A : Option Addr} {c : Nat} (hG : GW w) (hC : Kd.C k66 w A x.f2.length x.f2) (hc : x.f2.length ≤ c) (hxl : x.f2.length ≤ 9223372036854775807) (hv : ∀ y ∈ x.f2, I64 y.f1) (hl : (encB x).length ≤ 10000000000000) :
    Calls Tryd.prog 54 #[.agg #[.string x.f0, .int .i64 x.f1, .slice A x.f2.length c]] w fun e w' => ∃ v, e = .returned (.tuple #[v, .int .i64 (faultN x)]) ∧ BRow w' w.heap.size v (encB x) ∧ (faultN x ≠ 0 → v = .slice none 0 0) ∧ Below w.heap.size w w' := by
  generalize hW0 : w.alloc (.cells #[.string x.f0, .int .i64 x.f1, .slice A x.f2.length c] 69) = W0
  have HW0 := Lib.hid hW0
  have hb0 : Below w.heap.size w W0 := by rw [← hW0]; exact below_new w _
  have hX : W0.heap[w.heap.size]? = some (.cells #[.string x.f0, .int .i64 x.f1, .slice A x.f2.length c] 69 (0, 0)) := by rw [← hW0]; exact blk_new w _
  have HB0 := Lib.hid hb0
  have HC := Lib.hid (Kd.C_below hC hb0)
  have HX := Lib.hid hX
  have HFA := Lib.hid (fault_any (hG.below hb0) HC.out hc hxl)
  have c0 : W0.cell? ⟨w.heap.size, 0, none⟩ = some (.string x.f0) := (blk_cell hX 0).trans rfl
  have c1 : W0.cell? ⟨w.heap.size, 1, none⟩ = some (.int .i64 x.f1) := (blk_cell hX 1).trans rfl
  have c2 : W0.cell? ⟨w.heap.size, 2, none⟩ = some (.slice A x.f2.length c) := (blk_cell hX 2).trans rfl
  by_cases hf : faultN x = 0
  · have hz := fault_zero hf
    have hE : encB x = encEvent x := if_pos hf
    rw [hE] at hl ⊢
    have HP := Lib.hid (show ∀ W, Below W0.heap.size W0 W → Calls Tryd.prog 61 #[.slice none 0 0, .agg #[.string x.f0, .int .i64 x.f1, .slice A x.f2.length c]] W fun e w' => BPost W (encEvent x) e w' from fun W hW =>
      wput (Kd.C_below HC.out hW) hc (fun y hy => validB_ok (hz.2.2.2 y hy) (hv y hy)) ⟨by omega, by omega⟩ hl)
    rw [hf] at HFA ⊢
    clear hf hz hG hC hW0 hb0 hX hE hl
    go_enter Tryd.func54, Tryd.ntmps54
    go_wp2_with fail
    rw [HW0.out]
    go_wp2_with (first
      | (go_at_call 60; refine HFA.out.mono ?_; rintro e w1 ⟨rfl, hB1⟩; have HB1 := Lib.hid hB1; have c01 := pw_cell_below hB1 c0; have c11 := pw_cell_below hB1 c1; have c21 := pw_cell_below hB1 c2; clear hB1)
      | (go_at_call 61; refine (HP.out _ HB1.out).mono ?_; rintro e w2 ⟨v2, rfl, hO2, hB2⟩; have HO2 := Lib.hid hO2; have HB2 := Lib.hid hB2; clear hO2 hB2))
    go_ret2
    exact ⟨v2, rfl, own_less HO2.out (Nat.le_trans HB0.out.size HB1.out.size), fun h => absurd rfl h, below_step HB0.out (below_step HB1.out HB2.out)⟩
  · have hE : encB x = [] := if_neg hf
    have hf1 : (faultN x == 0) = false := by simpa using hf
    have hf2 : (faultN x != 0) = true := by simpa using hf
    rw [hE]
    clear hf hG hC hW0 hb0 hX hE hl
    go_enter Tryd.func54, Tryd.ntmps54
    go_wp2_with fail
    rw [HW0.out]
    go_wp2_with (first
      | (go_at_call 60; refine HFA.out.mono ?_; rintro e w1 ⟨rfl, hB1⟩; have HB1 := Lib.hid hB1; clear hB1))
    go_ret2
    exact ⟨.slice none 0 0, rfl, BRow.nil _ _, fun _ => rfl, below_step HB0.out HB1.out⟩
end Go.Proofs.YtcfgmkmllcfjjaaDoor
