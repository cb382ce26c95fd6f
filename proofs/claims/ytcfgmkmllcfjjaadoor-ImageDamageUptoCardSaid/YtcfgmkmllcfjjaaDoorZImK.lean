import Derived.Test.YtcfgmkmllcfjjaaDoorZImJ
set_option linter.unusedVariables false
set_option linter.unusedSimpArgs false
namespace Go.Proofs.YtcfgmkmllcfjjaaDoor
open Go.RowKit Go.Proofs.YtcfgmkmllcfjjaaDoorW.PrintWords Go.Proofs.YtcfgmkmllcfjjaaDoorW.PrintMore PImageForm
def encEvent (e : S69) : List Int := txt e.f0 ++ (puti e.f1 ++ (puti e.f2.length ++ e.f2.flatMap encVal))
theorem atVal {w : World} {A : Option Addr} {n : Nat} {xs : List S66} (h : Kd.C k66 w A n xs) (k : Nat) (hk : k < n) (hk' : k < xs.length) : ∃ ad, A = some ad ∧ w.cell? (ad.add (k * 4)) = some (.int .i64 xs[k].f0) ∧ w.cell? ⟨(ad.add (k * 4)).block, (ad.add (k * 4)).off + 1, none⟩ = some (.int .i64 xs[k].f1) ∧ w.cell? ⟨(ad.add (k * 4)).block, (ad.add (k * 4)).off + 2, none⟩ = some (.string xs[k].f2) ∧ w.cell? ⟨(ad.add (k * 4)).block, (ad.add (k * 4)).off + 3, none⟩ = some (.bool xs[k].f3) := by
  have h1 := at_T66 h (k : Int) (by omega) (by omega)
  have h2 : rd_T66 xs (k : Int) = xs[k] := by simp [rd_T66, List.getD_eq_getElem?_getD, List.getElem?_eq_getElem hk']
  simp only [Int.toNat_natCast] at h1
  rw [h2] at h1
  exact h1
set_option maxHeartbeats 2000000 in
theorem wput {w : World} {x : S69} {A : Option Addr} {c : Nat} (hC : Kd.C k66 w A x.f2.length x.f2) (hc : x.f2.length ≤ c) (hv : ∀ y ∈ x.f2, ValOk y) (ht : I64 x.f1) (hl : (encEvent x).length ≤ 10000000000000) :
    Calls Tryd.prog 61 #[.slice none 0 0, .agg #[.string x.f0, .int .i64 x.f1, .slice A x.f2.length c]] w fun e w' => BPost w (encEvent x) e w' := by
  generalize hW0 : w.alloc (.cells #[.string x.f0, .int .i64 x.f1, .slice A x.f2.length c] 69) = W0
  have HW0 := Lib.hid hW0
  have hb0 : Below w.heap.size w W0 := by rw [← hW0]; exact below_new w _
  have hX : W0.heap[w.heap.size]? = some (.cells #[.string x.f0, .int .i64 x.f1, .slice A x.f2.length c] 69 (0, 0)) := by rw [← hW0]; exact blk_new w _
  have hCl : x.f2.length ≤ (x.f2.flatMap encVal).length := flat_ge encVal (fun y => by simp [encVal]) x.f2
  have hE : encEvent x = ((txt x.f0 ++ puti x.f1) ++ puti x.f2.length) ++ x.f2.flatMap encVal := by simp only [encEvent, List.append_assoc]
  rw [hE] at hl ⊢
  have hl3 : ((txt x.f0 ++ puti x.f1) ++ puti x.f2.length).length ≤ 10000000000000 := by rw [List.length_append] at hl; omega
  have hl2 : (txt x.f0 ++ puti x.f1).length ≤ 10000000000000 := by rw [List.length_append] at hl3; omega
  have hl1 : (txt x.f0).length ≤ 10000000000000 := by rw [List.length_append] at hl2; omega
  have hn : I64 (x.f2.length : Int) := by rw [List.length_append] at hl; exact ⟨by omega, by omega⟩
  have hkl : ∀ k, (((txt x.f0 ++ puti x.f1) ++ puti x.f2.length) ++ (x.f2.take k).flatMap encVal).length ≤ 10000000000000 := fun k => by
    have := take_le encVal ((txt x.f0 ++ puti x.f1) ++ puti x.f2.length) x.f2 k
    omega
  have hxl : x.f2.length ≤ 9223372036854775807 := by have := hn.2; omega
  have H1 := Lib.hid (show ∀ W, Below W0.heap.size W0 W → Calls Tryd.prog 65 #[.slice none 0 0, .string x.f0] W fun e w' => BPost W0 (txt x.f0) e w' from fun W hW => wputStr hW (BRow.nil W W0.heap.size) (by simpa using hl1))
  have H2 := Lib.hid (show ∀ W v, Below W0.heap.size W0 W → BRow W W0.heap.size v (txt x.f0) → Calls Tryd.prog 63 #[v, .int .i64 x.f1] W fun e w' => BPost W0 (txt x.f0 ++ puti x.f1) e w' from fun W v hW hO => wputInt hW hO ht (by omega))
  have H3 := Lib.hid (show ∀ W v, Below W0.heap.size W0 W → BRow W W0.heap.size v (txt x.f0 ++ puti x.f1) → Calls Tryd.prog 63 #[v, .int .i64 (x.f2.length : Int)] W fun e w' => BPost W0 ((txt x.f0 ++ puti x.f1) ++ puti x.f2.length) e w' from fun W v hW hO => wputInt hW hO hn (by omega))
  have HB0 := Lib.hid hb0
  have HC := Lib.hid (Kd.C_below hC hb0)
  have HV := Lib.hid hv
  have HKL := Lib.hid hkl
  have HT := Lib.hid (take_flat encVal ((txt x.f0 ++ puti x.f1) ++ puti x.f2.length) x.f2)
  have c0 : W0.cell? ⟨w.heap.size, 0, none⟩ = some (.string x.f0) := (blk_cell hX 0).trans rfl
  have c1 : W0.cell? ⟨w.heap.size, 1, none⟩ = some (.int .i64 x.f1) := (blk_cell hX 1).trans rfl
  have c2 : W0.cell? ⟨w.heap.size, 2, none⟩ = some (.slice A x.f2.length c) := (blk_cell hX 2).trans rfl
  clear hC hv ht hl hW0 hb0 hX hE hl1 hl2 hl3 hn hkl hCl
  generalize txt x.f0 = L1 at *
  generalize L1 ++ puti x.f1 = L2 at *
  generalize L2 ++ puti x.f2.length = L3 at *
  go_enter Tryd.func61, Tryd.ntmps61
  go_wp2_with fail
  rw [HW0.out]
  go_region_law (first
    | (go_simp; go_at_call 65; refine (H1.out _ (by first | exact below_drew (Below.refl _ _) | exact Below.refl _ _)).mono ?_; rintro e w1 ⟨v1, rfl, hO1, hB1⟩; have HO1 := Lib.hid hO1; have c01 := pw_cell_below hB1 c0; have c11 := pw_cell_below hB1 c1; have c21 := pw_cell_below hB1 c2)
    | (go_simp; go_at_call 63; refine (H2.out _ _ (by first | exact hB1 | exact below_drew hB1) (by exact HO1.out)).mono ?_; rintro e w2 ⟨v2, rfl, hO2, hB2⟩; have HO2 := Lib.hid hO2; have c02 := pw_cell_below hB2 c0; have c12 := pw_cell_below hB2 c1; have c22 := pw_cell_below hB2 c2))
  all_goals
    have HB2 := Lib.hid hB2
    clear hB1 hB2 hO1 hO2
    go_wp2_with (go_at_call 63; refine (H3.out _ _ HB2.out HO2.out).mono ?_; rintro e w3 ⟨v3, rfl, hO3, hB3⟩; have HO3 := Lib.hid hO3; have HB3 := Lib.hid hB3; have c03 := pw_cell_below hB3 c0; have c13 := pw_cell_below hB3 c1; have c23 := pw_cell_below hB3 c2; clear hO3 hB3)
    go_loopw [0, 22] (fun t0 t22 wr => ∃ k : Nat, k ≤ x.f2.length ∧ t22 = .int .i64 k ∧ Hid (BRow wr W0.heap.size t0 (L3 ++ (x.f2.take k).flatMap encVal)) ∧ Hid (Below W0.heap.size W0 wr)) (fun _ t22 _ => x.f2.length - (intOf t22).toNat)
    case atStart => exact ⟨0, by omega, rfl, by simpa using HO3, HB3⟩
    case round =>
      obtain ⟨k, hk, rfl, hO, hB⟩ := hrel
      by_cases hlt : k < x.f2.length
      · have i1 : (0 : Int) ≤ (k : Int) := by omega
        have i2 : (k : Int) < x.f2.length := by omega
        obtain ⟨ad, rfl, q0, q1, q2, q3⟩ := atVal (Kd.C_below HC.out hB.out) k hlt hlt
        have hVk := HV.out _ (List.getElem_mem hlt)
        have hLk := HKL.out (k + 1)
        rw [HT.out k hlt] at hLk
        have HE := Lib.hid (HT.out k hlt)
        have hbn := below_new wr (.cells #[.int .i64 x.f2[k].f0, .int .i64 x.f2[k].f1, .string x.f2[k].f2, .bool x.f2[k].f3] 66)
        have HFK := Lib.hid (wputVal (x := x.f2[k]) hVk (below_then hB.out hB.out.size hbn) (BRow.below hO.out hbn) hLk)
        clear hbn hVk hLk
        generalize x.f2[k] = y at *
        go_wp2_with (go_at_call 66; refine HFK.out.mono ?_; rintro e w4 ⟨v4, rfl, hO4, hB4⟩; have HO4 := Lib.hid hO4; have HB4 := Lib.hid hB4; clear hO4 hB4)
        go_roundw
        case rel => exact ⟨k + 1, by omega, by go_num, by rw [HE.out]; exact HO4, HB4⟩
        case measure => simp [intOf]; omega
      · obtain rfl : k = x.f2.length := by omega
        go_wp2_with fail
        go_ret
        have hO := hO.out
        rw [List.take_length] at hO
        exact ⟨_, rfl, own_less hO HB0.out.size, below_step HB0.out hB.out⟩
end Go.Proofs.YtcfgmkmllcfjjaaDoor
